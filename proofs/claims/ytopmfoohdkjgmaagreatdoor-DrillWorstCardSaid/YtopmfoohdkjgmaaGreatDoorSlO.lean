/-
  The logic, fifteenth part: a region that draws its order: whatever order its edges allow. Definitions.
-/
import Derived.Test.YtopmfoohdkjgmaaGreatDoorSlN
namespace Go.SL

/-- what was reckoned of an operation -/
structure Rec where
  i : Nat
  o : Oper
  need : List Ent
  cur : Path
  cs : List (Bool × Bool)
  c : Cl
  Rin : List Res
  out : Out
  eff : Bool
  r : Bool
  fl : Option Nat

/-- the temporaries that an operation looks at -/
def slotsOf (ops : Array Oper) (o : Oper) : List Nat :=
  (o.op.operands.toList.filterMap fun | .tmp t => some t | _ => none) ++
  (match o.guard with
   | none => []
   | some (j, _) => match (ops[j]?).bind (·.dst) with
     | some t => [t]
     | none => [])

/-- the entries of some temporaries, with those of their guards -/
def needOf (L : List Ent) : List Nat → List Ent
  | [] => []
  | t :: r => match getE L t with
    | some e => e :: (e.p.filterMap fun g => getE L g.1) ++ needOf L r
    | none => needOf L r

def closedRes : Cl → Bool
  | .call _ _ _ res _ _ => (res.ren fun _ => none).isSome
  | _ => false
def isBor : Cl → Bool
  | .callB .. => true
  | _ => false
def quietOp (c : Cl) (o : Oper) : Bool :=
  match o.op with
  | .box .. | .alloc _ | .store .. | .makeSlice .. => false
  | .buildSlice .. => !isOwn c
  | .convert .. => !isZ c
  | .call k => match k.callee with
    | .builtin .append | .builtin .clear | .builtin .copy => false
    | .builtin _ => true
    | _ => isBor c || (noRes c && closedRes c)
  | _ => true

def dstOk (n : Nat) (o : Oper) (cur : Path) : Bool :=
  match o.dst with
  | some d => Nat.blt d n && cur.all (fun g => !(Nat.beq g.1 d))
  | none => cur.isEmpty
/-- a box that is made at some time, numbered ahead -/
def evFlt (P : Program) (L : List Ent) (cur : Path) (R : List Res) (c : Cl) (i : Nat) (o : Oper) : Option Out :=
  match o.op with
  | .makeSlice t l k => match c, R[i]? with
    | .fltm _ c0 _ _, some r' => match sameOpd l k, evMake P [] c0 t ((look L cur l).bind exactV) with
      | true, some out => match out.R, out.c with
        | [r1], some c1 => some ⟨.d (.os i), R, some (.fltm i c1 r1 r')⟩
        | _, _ => none
      | _, _ => none
    | _, _ => none
  | .alloc t => match (tyZero P t).bind fun z => dsOf z.cells.toList, R[i]? with
    | some cells, some r' => some ⟨.d (.o i 0), R, some (.flt i (.box t cells) r')⟩
    | _, _ => none
  | _ => none
def fltOf (o : Oper) (c : Cl) : Option Nat :=
  match o.op with
  | .alloc _ => match c with
    | .flt i _ _ => some i
    | _ => none
  | .makeSlice .. => match c with
    | .fltm i _ _ _ => some i
    | _ => none
  | _ => none
def evAny (P : Program) (L : List Ent) (cur : Path) (R : List Res) (c : Cl) (o : Oper) : Option Out :=
  match fltOf o c with
  | some i => evFlt P L cur R c i o
  | none => evOp P L cur R c o

def recs (P : Program) (n : Nat) (ops : Array Oper) : List Nat → List Ent → List Res → List Cl → Option (List Rec × List Ent × List Res × List Cl)
  | [], L, R, _ => some ([], L, R, [])
  | i :: is, L, R, cls => match ops[i]? with
    | none => none
    | some o =>
      let need := needOf L (slotsOf ops o)
      match guardPath ops need o with
      | none => none
      | some cur =>
        let c := cls.headD .nop
        match evAny P need cur R (strip c) o, conds need cur with
        | some out, some cs =>
          let L' := match o.dst with | some d => putE L d cur out.v | none => L
          bif dstOk n o cur && guardB need cur (isR c) (strip c) o then
            match out.c with
            | some x => match recs P n ops is L' out.R cls.tail with
              | some (rs, L2, R2, ks) => some (⟨i, o, need, cur, cs, strip c, R, out, (fltOf o (strip c)).isNone && !quietOp (strip c) o, isR c, fltOf o (strip c)⟩ :: rs, L2, R2, wrapCl cur (isR c) cs x :: ks)
              | none => none
            | none => match recs P n ops is L' out.R cls with
              | some (rs, L2, R2, ks) => some (⟨i, o, need, cur, cs, strip c, R, out, (fltOf o (strip c)).isNone && !quietOp (strip c) o, isR c, fltOf o (strip c)⟩ :: rs, L2, R2, ks)
              | none => none
          else none
        | _, _ => none

def memN : List Nat → Nat → Bool
  | [], _ => false
  | a :: r, t => Nat.beq a t || memN r t
/-- which operations come ahead of each one, whatever the order: a number's bits -/
def orE (l : List Nat) : List Edge → Nat → Nat
  | [], m => m
  | e :: r, m => orE l r (bif Region.binds .any e && Nat.blt e.on l.length then Nat.lor m (Nat.lor (Nat.shiftLeft 1 e.on) ((l[e.on]?).getD 0)) else m)
def clos (ops : Array Oper) : Nat → List Nat
  | 0 => []
  | j + 1 =>
    let l := clos ops j
    l ++ [match ops[j]? with
      | some o => orE l o.after.toList 0
      | none => 0]
def memM (m i : Nat) : Bool := Nat.beq (Nat.land (Nat.shiftRight m i) 1) 1

/-- own things that an entry names -/
def touch : List Ent → List Nat
  | [] => []
  | e :: r => match e.v with
    | .d (.o i _) => i :: touch r
    | .d (.os i) => i :: touch r
    | .d (.oe i _ _ _) => i :: touch r
    | .d (.osb i _ _ _) => i :: touch r
    | .d (.oi i g _ _ _) => i :: g :: touch r
    | _ => touch r
/-- with the ghosts of the deep ones -/
def ghosts (R : List Res) : List Nat → List Nat
  | [] => []
  | i :: r => match R[i]? with
    | some (.dsl _ _ g) => g :: ghosts R r
    | _ => ghosts R r
def deepen (R : List Res) (l : List Nat) : List Nat := l ++ ghosts R l

/-- own things whose contents an operation may read -/
def touchOp (o : Op) (L : List Ent) : List Nat :=
  match o with
  | .move _ | .assign _ | .nilCheck _ | .fieldAddr .. | .extract .. | .pick .. | .build .. | .unOp .. => []
  | _ => touch L

/-- own things that are lent with a value -/
def osOf : List D → List Nat
  | [] => []
  | .os j :: r => j :: osOf r
  | _ :: r => osOf r
def vecOf (R : List Res) (i : Nat) : List Nat := match R[i]? with
  | some (.vec _ _ cells) => osOf cells
  | _ => []
def osDeep (R : List Res) : List D → List Nat
  | [] => []
  | .os j :: r => j :: (vecOf R j ++ osDeep R r)
  | _ :: r => osDeep R r
mutual
def D.touchV (R : List Res) : D → List Nat
  | .os i => i :: vecOf R i
  | .osb i _ _ _ => [i]
  | .oi _ g _ _ _ => [g]
  | .o i _ => i :: (match R[i]? with
    | some (.box _ cells) => osDeep R cells
    | _ => [])
  | .fn _ a b => D.touchVL R a ++ D.touchVL R b
  | _ => []
def D.touchVL (R : List Res) : List D → List Nat
  | [] => []
  | d :: r => D.touchV R d ++ D.touchVL R r
end
def AV.touchV (R : List Res) : AV → List Nat
  | .d x => x.touchV R
  | .agg ds => D.touchVL R ds
  | .tup _ => []
def touchV (R : List Res) : List Ent → List Nat
  | [] => []
  | e :: r => e.v.touchV R ++ touchV R r
def lent (c : Cl) (R : List Res) (L : List Ent) : List Nat := bif isBor c then touchV R L else []
def lentO (o : Op) (c : Cl) (R : List Res) (L : List Ent) : List Nat := match o with
  | .call _ => lent c R L
  | _ => []

def touchR (r : Rec) : List Nat :=
  match r.fl with
  | some i => [i]
  | none => deepen r.Rin (touchOp r.o.op r.need) ++ lentO r.o.op r.c r.Rin r.need

/-- what an append may turn: what it appends to -/
def appW (L : List Ent) (cur : Path) : List Operand → List Nat
  | x :: _ => match look L cur x with
    | some (.d (.os j)) => [j]
    | some (.d (.osb j _ _ _)) => [j]
    | _ => touch L
  | [] => touch L
/-- own things that an operation writes (those that were there) -/
def writes (r : Rec) : List Nat :=
  match r.o.op with
  | .store _ a _ => match look r.need r.cur a with
    | some (.d (.o i _)) => [i]
    | some (.d (.oe i _ _ _)) => i :: (deepen r.Rin (touch r.need) ++ touchV r.Rin r.need)
    | _ => []
  | .call k => match k.callee with
    | .value _ => match r.c with
      | .call _ _ _ _ _ pi => pi
      | _ => []
    | .builtin .append => appW r.need r.cur k.args.toList
    | .builtin .clear | .builtin .copy => touch r.need
    | _ => []
  | _ => []

def clear (need : List Ent) (d : Nat) : Bool := need.all fun e => !(Nat.beq e.t d) && e.p.all fun g => !(Nat.beq g.1 d)

def pairOk (r q : Rec) : Bool :=
  (!r.eff || !q.eff) &&
  (match r.o.dst with | some d => clear q.need d && !(q.cur.any fun g => Nat.beq g.1 d) && (match q.o.dst with | some d' => !(Nat.beq d d') | none => true) | none => true) &&
  (match q.o.dst with | some d => clear r.need d | none => true) &&
  (!r.eff || (touchR q).all fun i => !(memN (writes r) i) && Nat.blt i r.Rin.length) &&
  (!q.eff || (touchR r).all fun i => !(memN (writes q) i) && Nat.blt i q.Rin.length)

/-- the numbers of floating boxes -/
def flIdx : List Rec → List Nat
  | [] => []
  | r :: rs => match r.fl with
    | some i => i :: flIdx rs
    | none => flIdx rs
def flOk (lo hi : Nat) (rs : List Rec) : Bool := noDup (flIdx rs) && (flIdx rs).all fun i => Nat.ble lo i && Nat.blt i hi

/-- does any order do? -/
def anyOk (ops : Array Oper) (L0 : List Ent) (rs : List Rec) : Bool :=
  let cl := clos ops ops.size
  L0.all (fun e => e.p.isEmpty) &&
  (rs.all fun r => r.o.after.all fun e => !(Region.binds .any e) || Nat.blt e.on r.i) &&
  rs.all fun r => rs.all fun q => Nat.ble q.i r.i || (memM ((cl[q.i]?).getD 0) r.i || pairOk r q)
end Go.SL
