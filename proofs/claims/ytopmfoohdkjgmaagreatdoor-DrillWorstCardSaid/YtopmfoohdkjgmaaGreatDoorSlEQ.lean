/-
  The logic, further part: the same reckoning in small steps (so that the kernel has little to write down at each).
-/
import Derived.Test.YtopmfoohdkjgmaaGreatDoorSlV
set_option linter.unusedVariables false
namespace Go.SL

def qii (x y : Value) (f : IntKind → Int → Int → Value) : Option Value :=
  match x with
  | .int k a => match y with
    | .int k' b => if k = k' then some (f k a b) else none
    | _ => none
  | _ => none
def qEq (x y : Value) : Option Value :=
  match x with
  | .int _ _ => qii x y fun _ a b => .bool (a == b)
  | .string a => match y with
    | .string b => some (.bool (a.toList == b.toList))
    | _ => none
  | _ => none
def qNe (x y : Value) : Option Value :=
  match x with
  | .int _ _ => qii x y fun _ a b => .bool (a != b)
  | .string a => match y with
    | .string b => some (.bool !(a.toList == b.toList))
    | _ => none
  | _ => none
def binQ (op : BinOp) (x y : Value) : Option Value :=
  match op with
  | .add => qii x y fun k a b => .int k (k.wrap (a + b))
  | .sub => qii x y fun k a b => .int k (k.wrap (a - b))
  | .mul => qii x y fun k a b => .int k (k.wrap (a * b))
  | .lss => qii x y fun _ a b => .bool (decide (a < b))
  | .leq => qii x y fun _ a b => .bool (decide (a ≤ b))
  | .gtr => qii x y fun _ a b => .bool (decide (a > b))
  | .geq => qii x y fun _ a b => .bool (decide (a ≥ b))
  | .eql => qEq x y
  | .neq => qNe x y
  | op => bin op x y
theorem binQ_eq {op : BinOp} {x y : Value} : binQ op x y = bin op x y := by
  cases op <;> first | rfl | (cases x <;> first | rfl | (cases y <;> rfl))
def qMove (P : Program) (L : List Ent) (cur : Path) (R : List Res) (c : Cl) (x : Operand) : Option (AV × Option Cl) := (look L cur x).map fun v => (v, none)
def qPick (P : Program) (L : List Ent) (cur : Path) (R : List Res) (c : Cl) (k a b : Operand) : Option (AV × Option Cl) := (evPick L cur k a b).map fun v => (v, none)
def qBuild (P : Program) (L : List Ent) (cur : Path) (R : List Res) (c : Cl) (t : TypeId) (parts : Array (Nat × Operand)) : Option (AV × Option Cl) := match (tyZero P t).bind fun z => dsOf z.cells.toList, P.underlying t, lookParts L cur parts.toList with
    | some zs, some (.struct fields), some ps => match (placesOf P fields.toList).bind fun pl => fillD pl zs ps with
      | some ds => some (.agg ds, none)
      | none => none
    | some zs, some (.array n e), some ps => match tySize P e with
      | some s => match fillD ((List.range n).map fun i => (i * s, s)) zs ps with
        | some ds => some (.agg ds, none)
        | none => none
      | none => none
    | _, _, _ => none
def qLoad (P : Program) (L : List Ent) (cur : Path) (R : List Res) (c : Cl) (t : TypeId) (x : Operand) : Option (AV × Option Cl) := match x with
  | .global g => match globTab g, tySize P t with
    | some cells, some n => (memAV P t ((cells.take n).map D.p)).map fun v => (v, none)
    | _, _ => none
  | x => evLoad P L cur R c t x
def qNil (P : Program) (L : List Ent) (cur : Path) (R : List Res) (c : Cl) (x : Operand) : Option (AV × Option Cl) := match look L cur x with
    | some (.d (.o i off)) => some (.d (.o i off), none)
    | some (.d (.oe i k s off)) => some (.d (.oe i k s off), none)
    | some (.d (.ip cells)) => some (.d (.ip cells), none)
    | _ => none
def qBin (P : Program) (L : List Ent) (cur : Path) (R : List Res) (c : Cl) (b : BinOp) (t : TypeId) (x y : Operand) : Option (AV × Option Cl) := match (look L cur x).bind exactV, (look L cur y).bind exactV with
    | some u, some v => match binQ b u v with
      | some z => some (ofV z, none)
      | none => match binD b u v with
        | some (z, n) => some (ofV z, some (.nz n))
        | none => match P.underlying t with
          | some .bool => (binB b u v).map fun z => (ofV z, none)
          | _ => none
    | _, _ => evEqS P L cur R b t x y
def qUn (P : Program) (L : List Ent) (cur : Path) (R : List Res) (c : Cl) (u : UnOp) (x : Operand) : Option (AV × Option Cl) := match (look L cur x).bind exactV with
    | some v => (un u v).map fun z => (ofV z, none)
    | none => none
def qConv (P : Program) (L : List Ent) (cur : Path) (R : List Res) (c : Cl) (s d : TypeId) (x : Operand) : Option (AV × Option Cl) := match P.underlying s, P.underlying d, (look L cur x).bind exactV with
    | some (.int _), some (.int k), some (.int _ n) => some (ofV (.int k (k.wrap n)), none)
    | _, _, _ => evStrB P L cur R c s d x
def qFn (P : Program) (L : List Ent) (cur : Path) (R : List Res) (c : Cl) (f : Fn) (first caps : Array Operand) : Option (AV × Option Cl) := match lookAll L cur first.toList, lookAll L cur caps.toList with
    | some a, some b => match (a.mapM fun | .d x => some x | _ => none), (b.mapM fun | .d x => some x | _ => none) with
      | some a', some b' => some (.d (.fn f a' b'), none)
      | _, _ => match a, b with
        | [.agg ds], [] => (dPs ds).map fun ps => (.d (.fb f ps), none)
        | _, _ => none
    | _, _ => none
def qFA (P : Program) (L : List Ent) (cur : Path) (R : List Res) (c : Cl) (s : TypeId) (x : Operand) (f : Nat) : Option (AV × Option Cl) := match look L cur x, fieldOf P s f with
    | some (.d (.o i off)), some (k, ft) => match tySize P ft with
      | some (_ + 1) => some (.d (.o i (off + k)), none)
      | _ => none
    | some (.d (.ip cells)), some (k, ft) => match tySize P ft with
      | some (_ + 1) => some (.d (.ip (cells.drop k)), none)
      | _ => none
    | some (.d (.oe i r size off)), some (k, ft) => match tySize P ft with
      | some (_ + 1) => some (.d (.oe i r size (off + k)), none)
      | _ => none
    | _, _ => none
def qF (P : Program) (L : List Ent) (cur : Path) (R : List Res) (c : Cl) (s : TypeId) (x : Operand) (f : Nat) : Option (AV × Option Cl) := match look L cur x, fieldOf P s f with
    | some (.agg ds), some (k, ft) => match tySize P ft with
      | some n => (memAV P ft ((ds.drop k).take n)).map fun v => (v, none)
      | none => none
    | _, _ => none
def qIA (P : Program) (L : List Ent) (cur : Path) (R : List Res) (c : Cl) (t : TypeId) (x i : Operand) : Option (AV × Option Cl) := evIdx P L cur R c t x i
def qI (P : Program) (L : List Ent) (cur : Path) (R : List Res) (c : Cl) (t : TypeId) (x i : Operand) : Option (AV × Option Cl) := match P.underlying t, look L cur x, (look L cur i).bind exactV with
    | some (.array n e), some (.agg ds), some (.int _ kk) => match isIdx c with
      | some row => evIdxA P n e ds kk row
      | none => match kk, tySize P e with
        | .ofNat k, some s => bif Nat.blt k n && Nat.ble ((k + 1) * s) ds.length then (memAV P e ((ds.drop (k * s)).take s)).map fun v => (v, none) else none
        | _, _ => none
    | some .string, some (.d (.p (.v (.string s)))), some (.int _ n) => match c with
      | .byte _ _ b => some (ofV (.int .u8 b.toNat), some (.byte s n b))
      | _ => none
    | _, _, _ => none
def qX (P : Program) (L : List Ent) (cur : Path) (R : List Res) (c : Cl) (x : Operand) (i : Nat) : Option (AV × Option Cl) := match look L cur x with
    | some (.tup l) => (l[i]?).map fun v => (v, none)
    | _ => none
def qCall (P : Program) (L : List Ent) (cur : Path) (R : List Res) (c : Cl) (k : Call) : Option (AV × Option Cl) := match k.callee with
    | .builtin b => match lookAll L cur k.args.toList with
      | some args => match b, k.argTypes[0]? with
        | .len, some t => match P.underlying t with
          | some (.slice _) => match c with
            | .len _ n => (evLenS R args).map fun k => (ofV (.int .i64 n), some (.len k n))
            | _ => (evLenS R args).map fun n => (ofV (.int .i64 n), none)
          | some .string => (evLenT args).map fun n => (ofV (.int .i64 n), none)
          | _ => none
        | .cap, some t => match P.underlying t, args with
          | some (.slice _), [.d (.p (.v (.slice none 0 0)))] => some (ofV (.int .i64 0), none)
          | _, _ => none
        | _, _ => (evMM b args).map fun n => (ofV (.int .i64 n), none)
      | none => none
    | _ => none
def qSl (P : Program) (L : List Ent) (cur : Path) (R : List Res) (c : Cl) (t : TypeId) (x : Operand) (lo hi mx : Option Operand) : Option (AV × Option Cl) := match lo, hi, mx with
  | lo, hi, none => match P.underlying t, look L cur x with
    | some (.slice e), some (.d (.p (.s rows))) => match tySize P e, (match lo with | none => some (Value.int .i64 0) | some y => (look L cur y).bind exactV), (match hi with | none => some (Value.int .i64 rows.length) | some y => (look L cur y).bind exactV) with
      | some n, some (.int _ l), some (.int _ h) => match c with
        | .cut _ _ _ _ rows' => some (.d (.p (.s rows')), some (.cut rows n l h rows'))
        | _ => none
      | _, _, _ => none
    | some (.slice e), some (.d (.os i)) => match R[i]? with
      | some (.sl _ s rows) => match tySize P e, (match lo with | none => some (Value.int .i64 0) | some y => (look L cur y).bind exactV), (match hi with | none => some (Value.int .i64 rows.length) | some y => (look L cur y).bind exactV) with
        | some n, some (.int _ l), some (.int _ h) => match c with
          | .bnd _ _ _ h2 => bif Nat.beq s n then some (.d (.osb i l.toNat (h2.toNat - l.toNat) n), some (.bnd rows.length l h h2)) else none
          | _ => none
        | _, _, _ => none
      | _ => none
    | some (.slice e), some (.d (.osb i o0 n0 s0)) => match R[i]? with
      | some (.sl _ s rows) => match tySize P e, (match lo with | none => some (Value.int .i64 0) | some y => (look L cur y).bind exactV), (match hi with | none => some (Value.int .i64 n0) | some y => (look L cur y).bind exactV) with
        | some n, some (.int _ l), some (.int _ h) => match c with
          | .bnd _ _ _ h2 => bif Nat.beq s n && Nat.beq s0 n then some (.d (.osb i (o0 + l.toNat) (h2.toNat - l.toNat) n), some (.bnd (rows.length - o0) l h h2)) else none
          | _ => none
        | _, _, _ => none
      | _ => none
    | some .string, some (.d (.p (.v (.string s)))) => match (match lo with | none => some (Value.int .i64 0) | some y => (look L cur y).bind exactV), (match hi with | none => some (Value.int .i64 s.size) | some y => (look L cur y).bind exactV) with
      | some (.int _ l), some (.int _ h) => match c with
        | .bnd _ _ _ h2 => some (ofV (.string (s.extract l.toNat h2.toNat)), some (.bnd s.size l h h2))
        | _ => none
      | _, _ => none
    | some (.slice e), some (.d (.p (.v (.slice none 0 0)))) => match lo, hi with
      | none, some y => match tySize P e, (look L cur y).bind exactV with
        | some _, some (.int _ 0) => some (.d (.p (.v (.slice none 0 0))), none)
        | _, _ => none
      | _, _ => none
    | _, _ => none
  | some lo, some hi, some mx => match P.underlying t, look L cur x with
    | some (.slice e), some (.d (.os i)) => match R[i]? with
      | some (.sl _ _ rows) => match (look L cur lo).bind exactV, (look L cur hi).bind exactV, (look L cur mx).bind exactV with
        | some (.int _ l), some (.int _ h), some (.int _ m) => match c, tySize P e with
          | .bnd3 _ _ _ _, some _ => some (.d .any, some (.bnd3 rows.length l h m))
          | _, _ => none
        | _, _, _ => none
      | _ => none
    | _, _ => none
  | _, _, _ => none

def evPureQ (P : Program) (L : List Ent) (cur : Path) (R : List Res) (c : Cl) (op : Op) : Option (AV × Option Cl) :=
  match op with
  | .move x => qMove P L cur R c x
  | .assign x => qMove P L cur R c x
  | .pick k a b => qPick P L cur R c k a b
  | .build t parts => qBuild P L cur R c t parts
  | .load t x => qLoad P L cur R c t x
  | .nilCheck x => qNil P L cur R c x
  | .binOp b t x y _ => qBin P L cur R c b t x y
  | .unOp u _ x => qUn P L cur R c u x
  | .convert s d x => qConv P L cur R c s d x
  | .makeFunc f first caps => qFn P L cur R c f first caps
  | .fieldAddr s x f => qFA P L cur R c s x f
  | .field s x f => qF P L cur R c s x f
  | .indexAddr t x i => evIdx P L cur R c t x i
  | .index t x i => qI P L cur R c t x i
  | .extract x i => qX P L cur R c x i
  | .slice t x lo hi mx => qSl P L cur R c t x lo hi mx
  | .call k => qCall P L cur R c k
  | _ => none
theorem evPureQ_eq {P : Program} {L : List Ent} {cur : Path} {R : List Res} {c : Cl} {op : Op} : evPureQ P L cur R c op = evPure P L cur R c op := by
  cases op with
  | load t x => cases x <;> rfl
  | slice t x lo hi mx => cases mx with
    | none => rfl
    | some mx => cases lo with
      | none => rfl
      | some lo => cases hi with
        | none => rfl
        | some hi => rfl
  | binOp b t x y z =>
    simp only [evPureQ, evPure, qBin, binQ_eq]
    rfl
  | _ => rfl
def toOut (R : List Res) : Option (AV × Option Cl) → Option Out
  | some (v, k) => some ⟨v, R, k⟩
  | none => none
def oBox (P : Program) (L : List Ent) (cur : Path) (R : List Res) (t : TypeId) (x : Operand) : Option Out :=
  match (look L cur x).bind avCells, tySize P t with
  | some cells, some n => bif Nat.beq cells.length n then some ⟨.d (.o R.length 0), R ++ [.box t cells], none⟩ else none
  | _, _ => none
def oAlloc (P : Program) (R : List Res) (t : TypeId) : Option Out :=
  match (tyZero P t).bind fun z => dsOf z.cells.toList with
  | some cells => some ⟨.d (.o R.length 0), R ++ [.box t cells], none⟩
  | none => none
def oSt1 (R : List Res) (o : Oper) (i off : Nat) (ds : List D) (n : Nat) : Option Out :=
  match R[i]? with
  | some (.box u cells) => bif Nat.beq ds.length n && Nat.ble (off + n) cells.length && o.dst.isNone then some ⟨.tup [], R.set i (.box u (splice cells off ds)), none⟩ else none
  | _ => none
def oSt2 (R : List Res) (c : Cl) (o : Oper) (i k size off : Nat) (ds : List D) (n : Nat) : Option Out :=
  match evPut R c o i k size off ds n with
  | some x => some x
  | none => match evPutD R c o i k size off ds n with
    | some x => some x
    | none => evPutF R c o i k size off ds n
def oStore (P : Program) (L : List Ent) (cur : Path) (R : List Res) (c : Cl) (o : Oper) (t : TypeId) (a x : Operand) : Option Out :=
  bif cur.isEmpty then match look L cur a, (look L cur x).bind avCells, tySize P t with
    | some (.d (.o i off)), some ds, some n => oSt1 R o i off ds n
    | some (.d (.oe i k size off)), some ds, some n => oSt2 R c o i k size off ds n
    | _, _, _ => none
  else none
def oBS (P : Program) (L : List Ent) (cur : Path) (R : List Res) (c : Cl) (t : TypeId) (len : Nat) (parts : Array (Nat × Operand)) : Option Out :=
  match lookParts L cur parts.toList with
  | some ps => evBuildSlice P R c t len ps
  | none => none
def oCall (P : Program) (L : List Ent) (cur : Path) (R : List Res) (c : Cl) (k : Call) : Option Out :=
  match k.callee with
  | .value f => match look L cur f, lookAll L cur k.args.toList with
    | some (.d (.fn (.func g) first caps)), some args => evCall R (first.map AV.d ++ args ++ caps.map AV.d) g c
    | some (.d (.fb (.func g) ps)), some args => evCall R (.agg (ps.map D.p) :: args) g c
    | _, _ => none
  | .builtin .append => match lookAll L cur k.args.toList with
    | some [.d (.oi i g q size off), y] => evAppendD P R c k.argTypes.toList i g q size off y
    | some [.d (.osb i 0 n s), y] => evAppendB P R c k.argTypes.toList i n s y
    | some args => evAppendA P R c k.argTypes.toList args
    | none => none
  | .builtin .clear => match lookAll L cur k.args.toList with
    | some args => evClear P R c k.argTypes.toList args
    | none => none
  | .builtin .copy => match lookAll L cur k.args.toList with
    | some args => evCopy P R c k.argTypes.toList args
    | none => none
  | _ => none
def oMake (P : Program) (L : List Ent) (cur : Path) (R : List Res) (c : Cl) (t : TypeId) (l k : Operand) : Option Out := bif sameOpd l k then evMake P R c t ((look L cur l).bind exactV) else none
def orOut : Option Out → (Unit → Option Out) → Option Out
  | some x, _ => some x
  | none, f => f ()
def evOpQ (P : Program) (L : List Ent) (cur : Path) (R : List Res) (c : Cl) (o : Oper) : Option Out :=
  match o.op with
  | .box t x => oBox P L cur R t x
  | .alloc t => oAlloc P R t
  | .store t a x => oStore P L cur R c o t a x
  | .buildSlice t len parts => oBS P L cur R c t len parts
  | .makeSlice t l k => oMake P L cur R c t l k
  | .convert s d x => orOut (toOut R (qConv P L cur R c s d x)) fun _ => evConvs P R c s d (look L cur x)
  | .call k => orOut (toOut R (qCall P L cur R c k)) fun _ => oCall P L cur R c k
  | op => toOut R (evPureQ P L cur R c op)
theorem evOpQ_eq {P : Program} {L : List Ent} {cur : Path} {R : List Res} {c : Cl} {o : Oper} : evOpQ P L cur R c o = evOp P L cur R c o := by
  unfold evOp
  rw [← evPureQ_eq]
  unfold evOpQ
  cases o.op <;> simp only [evPureQ] <;> first | rfl | (split <;> rename_i h <;> simp only [toOut, orOut, h] <;> rfl) | skip

/-! ### an operation, made ready once -/
inductive QO where
  | pure (f : List Ent → Path → List Res → Option (AV × Option Cl))
  | call (f : Operand) (xs : List Operand) (fl : Bool)
  | eff (g : List Ent → Path → List Res → Bool → Cl) (f : List Ent → Path → List Res → Cl → Option Out)
/-- data without slices, pointers, functions -/
def flatT (P : Program) : Nat → TypeId → Bool
  | 0, _ => false
  | k + 1, t => match P.underlying t with
    | some .bool => true
    | some (.int _) => true
    | some .string => true
    | some (.struct fs) => fs.toList.all fun f => flatT P k f.type
    | some (.array _ e) => flatT P k e
    | some (.tuple ts) => ts.toList.all (flatT P k)
    | _ => false
/-! ### what an operation claims, when all is known (nothing is proved of this: what it says is tested) -/
def rowsOf (R : List Res) : AV → List (List Pd)
  | .d (.p (.s rows)) => rows
  | .d (.os j) => match R[j]? with
    | some (.sl _ _ rows) => rows
    | some (.zsl _ _ rows) => rows
    | some (.dsl _ _ g) => match R[g]? with
      | some (.gh _ _ rows _) => rows
      | _ => []
    | _ => []
  | .d (.osb j lo n _) => match R[j]? with
    | some (.sl _ _ rows) => (rows.drop lo).take n
    | _ => []
  | _ => []
def intAt (L : List Ent) (cur : Path) (x : Operand) : Int := match (look L cur x).bind exactV with
  | some (.int _ n) => n
  | _ => 0
def intO (L : List Ent) (cur : Path) (d : Int) : Option Operand → Int
  | some x => intAt L cur x
  | none => d
def zCells (P : Program) (t : TypeId) : List D := ((tyZero P t).bind fun z => dsOf z.cells.toList).getD []
def zRow (P : Program) (t : TypeId) : List Pd := (dPs (zCells P t)).getD []
def zAV (P : Program) (t : TypeId) : AV := match P.underlying t with
  | some (.tuple ts) => .tup (ts.toList.map fun u => ((tyZero P u).bind avOf).getD (.tup []))
  | _ => ((tyZero P t).bind avOf).getD (.tup [])
def elemOf (P : Program) (t : TypeId) : TypeId := match P.underlying t with
  | some (.slice e) => e
  | some (.array _ e) => e
  | _ => 0
def avAt (L : List Ent) (cur : Path) (x : Operand) : AV := (look L cur x).getD (.tup [])
def cIdx (P : Program) (L : List Ent) (cur : Path) (R : List Res) (t : TypeId) (x i : Operand) : Cl := .row [] 0 (((rowsOf R (avAt L cur x))[(intAt L cur i).toNat]?).getD (zRow P (elemOf P t)))
def cLoad (P : Program) (L : List Ent) (cur : Path) (R : List Res) (x : Operand) : Cl :=
  match look L cur x with
  | some (.d (.oe i k _ _)) => match R[i]? with
    | some (.sl e _ rows) => .row [] 0 ((rows[k]?).getD (zRow P e))
    | some (.dsl e _ g) => match R[g]? with
      | some (.gh _ _ rows _) => .row [] 0 ((rows[k]?).getD (zRow P e))
      | _ => .nop
    | _ => .nop
  | _ => .nop
def cSlice (L : List Ent) (cur : Path) (R : List Res) (x : Operand) (lo hi : Option Operand) : Cl :=
  match avAt L cur x with
  | .d (.p (.s rows)) => .cut [] 0 0 0 ((rows.take (intO L cur rows.length hi).toNat).drop (intO L cur 0 lo).toNat)
  | .d (.os j) => .bnd 0 0 0 (intO L cur (rowsOf R (.d (.os j))).length hi)
  | .d (.osb _ _ n _) => .bnd 0 0 0 (intO L cur n hi)
  | _ => .nop
def hasNil : List Pd → Bool
  | [] => false
  | .v (.slice _ _ _) :: _ => true
  | _ :: r => hasNil r
def cMake (P : Program) (L : List Ent) (cur : Path) (t : TypeId) (l : Operand) : Cl :=
  bif hasNil (zRow P (elemOf P t)) then .roomZ 0 [] (List.replicate (intAt L cur l).toNat ((zRow P (elemOf P t)).map Pd.nz))
  else .room 0 [] (List.replicate (intAt L cur l).toNat (zRow P (elemOf P t)))
def cPutD (R : List Res) (g m k off : Nat) : Cl :=
  match R[g]?, R[m]? with
  | some (.gh _ _ rows _), some (.sl _ _ r1) =>
    let row := (rows[k]?).getD []
    .updD [] 0 0 row [] (rows.set k (row.take off ++ (.s r1 :: row.drop (off + 1))))
  | _, _ => .nop
def cStore (L : List Ent) (cur : Path) (R : List Res) (a x : Operand) : Cl :=
  match avAt L cur a with
  | .d (.oe i k size off) => match R[i]?, avAt L cur x with
   | some (.dsl _ _ g), .d (.os m) => cPutD R g m k off
   | _, _ =>
    let rows := rowsOf R (.d (.os i))
    let ps := match avCells (avAt L cur x) with
      | some [.os m] => [Pd.s (rowsOf R (.d (.os m)))]
      | some ds => (dPs ds).getD []
      | none => []
    let row := (rows[k]?).getD []
    .upd [] 0 row [] (rows.set k (row.take off ++ (ps ++ row.drop (off + ps.length))))
  | _ => .nop
def cCall (P : Program) (L : List Ent) (cur : Path) (R : List Res) (k : Call) : Cl :=
  match k.callee with
  | .builtin .append => match (lookAll L cur k.args.toList).getD [] with
    | [.d (.oi _ g k _ off), y] => match R[g]? with
      | some (.gh _ _ rows _) =>
        let row := (rows[k]?).getD []
        match row[off]? with
        | some (.s r1) => .appD [] 0 row 0 r1 [] 0 0 (r1 ++ rowsOf R y)
        | _ => .nop
      | _ => .nop
    | [x, y] => .app [] [] 0 0 (rowsOf R x ++ rowsOf R y)
    | _ => .nop
  | .builtin .copy => match (lookAll L cur k.args.toList).getD [] with
    | [x, y] => match dstOf R x with
      | some (i, lo, n, _) =>
        let src := rowsOf R y
        let m := Nat.min src.length n
        let rows := rowsOf R (.d (.os i))
        .cpy [] 0 0 m [] (rows.take lo ++ (src.take m ++ rows.drop (lo + m)))
      | none => .nop
    | _ => .nop
  | .builtin .clear => match (lookAll L cur k.args.toList).getD [] with
    | [x] => match dstOf R x with
      | some (i, lo, n, _) =>
        let rows := rowsOf R (.d (.os i))
        .eqr [] (rows.take lo ++ (List.replicate n ((zRow P (elemOf P (k.argTypes.toList.headD 0))).map Pd.nz) ++ rows.drop (lo + n)))
      | none => .nop
    | _ => .nop
  | _ => .nop

/-- what is claimed there is no guarded claim -/
def noW : Cl → Bool
  | .when _ _ => false
  | .whenR _ _ => false
  | _ => true
theorem noW_strip : ∀ {c : Cl}, noW c = true → strip c = c ∧ isR c = false
  | .when _ _, h => by cases h
  | .whenR _ _, h => by cases h
  | .call .., _ => ⟨rfl, rfl⟩
  | .callB .., _ => ⟨rfl, rfl⟩
  | .appD .., _ => ⟨rfl, rfl⟩
  | .updD .., _ => ⟨rfl, rfl⟩
  | .roomZ .., _ => ⟨rfl, rfl⟩
  | .bnd .., _ => ⟨rfl, rfl⟩
  | .bnd3 .., _ => ⟨rfl, rfl⟩
  | .appP .., _ => ⟨rfl, rfl⟩
  | .eqr .., _ => ⟨rfl, rfl⟩
  | .cpy .., _ => ⟨rfl, rfl⟩
  | .row .., _ => ⟨rfl, rfl⟩
  | .upd .., _ => ⟨rfl, rfl⟩
  | .nz .., _ => ⟨rfl, rfl⟩
  | .len .., _ => ⟨rfl, rfl⟩
  | .cut .., _ => ⟨rfl, rfl⟩
  | .room .., _ => ⟨rfl, rfl⟩
  | .app .., _ => ⟨rfl, rfl⟩
  | .own, _ => ⟨rfl, rfl⟩
  | .byte .., _ => ⟨rfl, rfl⟩
  | .fnv .., _ => ⟨rfl, rfl⟩
  | .idx .., _ => ⟨rfl, rfl⟩
  | .strb .., _ => ⟨rfl, rfl⟩
  | .flts .., _ => ⟨rfl, rfl⟩
  | .flt .., _ => ⟨rfl, rfl⟩
  | .fltm .., _ => ⟨rfl, rfl⟩
  | .nop, _ => ⟨rfl, rfl⟩
def rowB : List (List Pd) → List UInt8
  | [] => []
  | [.v (.int _ n)] :: l => n.toNat.toUInt8 :: rowB l
  | _ :: l => rowB l
def cConv (P : Program) (L : List Ent) (cur : Path) (R : List Res) (s d : TypeId) (x : Operand) : Cl :=
  match P.underlying s, P.underlying d with
  | some (.slice _), some .string => .strb [] ⟨(rowB (rowsOf R (avAt L cur x))).toArray⟩
  | some .string, some (.slice _) => match avAt L cur x with
    | .d (.p (.v (.string b))) => .room 0 [] (bytesP b)
    | _ => .nop
  | _, _ => .nop
def cInd (L : List Ent) (cur : Path) (x i : Operand) : Cl :=
  match avAt L cur x with
  | .d (.p (.v (.string b))) => .byte b 0 ((b.data[(intAt L cur i).toNat]?).getD 0)
  | _ => .nop
theorem cConv_noW {P : Program} {L : List Ent} {cur : Path} {R : List Res} {s d : TypeId} {x : Operand} : noW (cConv P L cur R s d x) = true := by
  unfold cConv
  split
  · rfl
  · split <;> rfl
  · rfl
theorem cInd_noW {L : List Ent} {cur : Path} {x i : Operand} : noW (cInd L cur x i) = true := by
  unfold cInd
  split <;> rfl
def comp (P : Program) (o : Oper) : QO :=
  match o.op with
  | .move x => .pure fun L cur R => qMove P L cur R .nop x
  | .assign x => .pure fun L cur R => qMove P L cur R .nop x
  | .pick k a b => .pure fun L cur R => qPick P L cur R .nop k a b
  | .build t parts => .pure fun L cur R => qBuild P L cur R .nop t parts
  | .nilCheck x => .pure fun L cur R => qNil P L cur R .nop x
  | .binOp b t x y _ => .pure fun L cur R => qBin P L cur R .nop b t x y
  | .unOp u _ x => .pure fun L cur R => qUn P L cur R .nop u x
  | .makeFunc f first caps => .pure fun L cur R => qFn P L cur R .nop f first caps
  | .fieldAddr s x f => .pure fun L cur R => qFA P L cur R .nop s x f
  | .field s x f => .pure fun L cur R => qF P L cur R .nop s x f
  | .extract x i => .pure fun L cur R => qX P L cur R .nop x i
  | .load t x => .eff (fun L cur R _ => cLoad P L cur R x) fun L cur R c => toOut R (qLoad P L cur R c t x)
  | .indexAddr t x i => .eff (fun L cur R _ => cIdx P L cur R t x i) fun L cur R c => toOut R (evIdx P L cur R c t x i)
  | .index t x i => .eff (fun L cur _ _ => cInd L cur x i) fun L cur R c => toOut R (qI P L cur R c t x i)
  | .slice t x lo hi mx => .eff (fun L cur R _ => cSlice L cur R x lo hi) fun L cur R c => toOut R (qSl P L cur R c t x lo hi mx)
  | .box t x => .eff (fun _ _ _ _ => .nop) fun L cur R c => oBox P L cur R t x
  | .alloc t => .eff (fun _ _ _ _ => .nop) fun L cur R c => oAlloc P R t
  | .store t a x => .eff (fun L cur R _ => cStore L cur R a x) fun L cur R c => oStore P L cur R c o t a x
  | .buildSlice t len parts => .eff (fun _ _ _ fz => bif fz then .nop else .own) fun L cur R c => oBS P L cur R c t len parts
  | .makeSlice t l k => .eff (fun L cur R _ => cMake P L cur t l) fun L cur R c => oMake P L cur R c t l k
  | .convert s d x => .eff (fun L cur R _ => cConv P L cur R s d x) fun L cur R c => orOut (toOut R (qConv P L cur R c s d x)) fun _ => evConvs P R c s d (look L cur x)
  | .call k => match k.callee with
    | .value f => .call f k.args.toList (flatT P 20 o.type)
    | _ => .eff (fun L cur R _ => cCall P L cur R k) fun L cur R c => orOut (toOut R (qCall P L cur R c k)) fun _ => oCall P L cur R c k
  | _ => .eff (fun _ _ _ _ => .nop) fun _ _ _ _ => none
def callee (L : List Ent) (cur : Path) (f : Operand) (xs : List Operand) : Option (FuncId × List AV) :=
  match look L cur f, lookAll L cur xs with
  | some (.d (.fn (.func g) first caps)), some args => some (g, first.map AV.d ++ args ++ caps.map AV.d)
  | some (.d (.fb (.func g) ps)), some args => some (g, .agg (ps.map D.p) :: args)
  | _, _ => none
def QO.run (q : QO) (L : List Ent) (cur : Path) (R : List Res) (c : Cl) : Option Out :=
  match q with
  | .pure f => toOut R (f L cur R)
  | .eff _ f => f L cur R c
  | .call f xs _ => match callee L cur f xs with
    | some (g, args) => evCall R args g c
    | none => none
theorem run_eq {P : Program} {L : List Ent} {cur : Path} {R : List Res} {c : Cl} {o : Oper} : (comp P o).run L cur R c = evOp P L cur R c o := by
  rw [← evOpQ_eq]
  unfold comp evOpQ
  cases o.op with
  | call k =>
    obtain ⟨cl, args, at_⟩ := k
    cases cl with
    | value f =>
      simp only [QO.run, qCall, toOut, orOut, oCall, callee]
      cases look L cur f with
      | none => rfl
      | some v =>
        cases lookAll L cur args.toList with
        | none => cases v with
          | d x => cases x with
            | fn g a b => cases g <;> rfl
            | fb g a => cases g <;> rfl
            | _ => rfl
          | _ => rfl
        | some as => cases v with
          | d x => cases x with
            | fn g a b => cases g <;> rfl
            | fb g a => cases g <;> rfl
            | _ => rfl
          | _ => rfl
    | _ => rfl
  | _ => rfl
theorem cLoad_noW {P : Program} {L : List Ent} {cur : Path} {R : List Res} {x : Operand} : noW (cLoad P L cur R x) = true := by
  unfold cLoad
  split
  · split
    · rfl
    · split <;> rfl
    · rfl
  · rfl
theorem cMake_noW {P : Program} {L : List Ent} {cur : Path} {t : TypeId} {l : Operand} : noW (cMake P L cur t l) = true := by
  unfold cMake
  cases hasNil (zRow P (elemOf P t)) <;> rfl
theorem cSlice_noW {L : List Ent} {cur : Path} {R : List Res} {x : Operand} {lo hi : Option Operand} : noW (cSlice L cur R x lo hi) = true := by
  unfold cSlice
  split <;> rfl
theorem cPutD_noW {R : List Res} {g m k off : Nat} : noW (cPutD R g m k off) = true := by
  unfold cPutD
  split <;> rfl
theorem cStore_noW {L : List Ent} {cur : Path} {R : List Res} {a x : Operand} : noW (cStore L cur R a x) = true := by
  unfold cStore
  split
  · split
    · exact cPutD_noW
    · rfl
  · rfl
theorem cCall_noW {P : Program} {L : List Ent} {cur : Path} {R : List Res} {k : Call} : noW (cCall P L cur R k) = true := by
  unfold cCall
  split
  · split
    · split
      · dsimp only
        split <;> rfl
      · rfl
    · rfl
    · rfl
  · split
    · split <;> rfl
    · rfl
  · split
    · split <;> rfl
    · rfl
  · rfl
theorem comp_noW {P : Program} {o : Oper} {g : List Ent → Path → List Res → Bool → Cl} {f : List Ent → Path → List Res → Cl → Option Out} (h : comp P o = .eff g f) (L : List Ent) (cur : Path) (R : List Res) (fz : Bool) : noW (g L cur R fz) = true := by
  unfold comp at h
  split at h
  all_goals first | (cases h; done) | (cases h; rfl) | (cases h; exact cLoad_noW) | (cases h; exact cSlice_noW) | (cases h; exact cStore_noW) | (cases h; exact cMake_noW) | (cases h; exact cConv_noW) | (cases h; exact cInd_noW) | (cases h; cases fz <;> rfl) | skip
  split at h
  · cases h
  · cases h; exact cCall_noW
end Go.SL
