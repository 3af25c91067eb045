/-
  The logic, third part: a symbolic evaluator for the operations of a region. Definitions alone.
-/
import Derived.Test.YtopmfoohdkjgmaaGreatDoorSlB
namespace Go.SL

abbrev Path := List (Nat × Bool)

/-- a temporary: where it lies, under which guards it was computed, what it reads as -/
structure Ent where
  t : Nat
  p : Path
  v : AV
  deriving Inhabited

/-- what an operation owes: proved by the prover, read by the evaluator -/
inductive Cl where
  | call (f : FuncId) (args : List AV) (R : List Res) (res : AV) (R2 : List Res) (pi : List Nat)
  | callB (f : FuncId) (args : List AV) (res : AV) (rows : List (List Pd)) (k : Nat) (rw : List Pd)
  | appD (rows : List (List Pd)) (k : Nat) (row : List Pd) (off : Nat) (rows1 rows2 : List (List Pd)) (size : Nat) (n : Nat) (rows' : List (List Pd))
  | updD (rows : List (List Pd)) (k0 k : Nat) (row row' : List Pd) (rows' : List (List Pd))
  | roomZ (n : Int) (rows rows' : List (List Pd))
  | bnd (k : Nat) (lo hi hi2 : Int)
  | bnd3 (k : Nat) (lo hi mx : Int)
  | appP (rows src : List (List Pd)) (size n m : Nat) (l rows' : List (List Pd))
  | eqr (rows rows' : List (List Pd))
  | cpy (src : List (List Pd)) (size n m : Nat) (rows rows' : List (List Pd))
  | row (rows : List (List Pd)) (n : Int) (row : List Pd)
  | upd (rows : List (List Pd)) (k : Nat) (row row' : List Pd) (rows' : List (List Pd))
  | nz (n : Int)
  | len (k n : Int)
  | cut (rows : List (List Pd)) (size : Nat) (lo hi : Int) (rows' : List (List Pd))
  | room (n : Int) (rows rows' : List (List Pd))
  | app (rows1 rows2 : List (List Pd)) (size : Nat) (n : Nat) (rows' : List (List Pd))
  | own
  | byte (s : ByteArray) (n : Int) (b : UInt8)
  | fnv (x : Value) (g : FuncId)
  | idx (rows : List (List Pd)) (n : Int) (row : List Pd)
  | strb (rows : List (List Pd)) (s : ByteArray)
  | when (conds : List (Bool × Bool)) (c : Cl)
  | whenR (conds : List (Bool × Bool)) (c : Cl)
  | flts (rs : List Res)
  | flt (i : Nat) (r r' : Res)
  | fltm (i : Nat) (c : Cl) (r r' : Res)
  | nop
  deriving Inhabited

def AllEq : List (Bool × Bool) → Prop
  | [] => True
  | (a, b) :: r => a = b ∧ AllEq r

/-- a call that was not carried out changes nothing -/
def Cl.keeps : Cl → Prop
  | .call _ _ R _ R2 pi => R2.take pi.length = R
  | _ => False

/-- calling this function enters it -/
def Enters (P : Program) (f : FuncId) : Prop := ∀ (args : Array Value) (w : World), (callFunc f args).run P w = .ok (.enter f args) w

def Cl.ok (P : Program) : Cl → Prop
  | .call f args R res R2 _ => Enters P f ∧ CallOk P f args R res R2
  | .callB f args res rows k rw => (Enters P f ∧ CallOk P f args [] res []) ∧ rows[k]? = some rw
  | .appD rows k l0 off rows1 rows2 size n rows' => (rows[k]? = some l0 ∧ l0[off]? = some (.s rows1)) ∧ (n ≤ 140737488355328 ∧ (∀ l, l ∈ rows2 → l.length = size) ∧ rows1 ++ rows2 = rows')
  | .updD rows k0 k l l' rows' => k0 = k ∧ rows[k]? = some l ∧ rows.set k l' = rows'
  | .roomZ n rows rows' => 0 ≤ n ∧ n ≤ 140737488355328 ∧ rows = rows'
  | .bnd k lo hi hi2 => 0 ≤ lo ∧ lo ≤ hi ∧ hi ≤ k ∧ hi = hi2
  | .bnd3 k lo hi mx => 0 ≤ lo ∧ lo ≤ hi ∧ hi ≤ mx ∧ mx ≤ k
  | .appP rows src size n m l rows' => (n + src.length = m ∧ m ≤ rows.length) ∧ (∀ x, x ∈ src → x.length = size) ∧ l = rows'
  | .eqr rows rows' => rows = rows'
  | .cpy src size n m rows rows' => Nat.min src.length n = m ∧ (∀ l, l ∈ src → l.length = size) ∧ rows = rows'
  | .row rows n l => 0 ≤ n ∧ rows[n.toNat]? = some l
  | .upd rows k l l' rows' => rows[k]? = some l ∧ rows.set k l' = rows'
  | .nz n => n ≠ 0
  | .len k n => k = n
  | .cut rows size lo hi rows' => 0 ≤ lo ∧ lo ≤ hi ∧ hi ≤ rows.length ∧ (∀ l, l ∈ rows → l.length = size) ∧ (rows.take hi.toNat).drop lo.toNat = rows'
  | .room n rows rows' => 0 ≤ n ∧ n ≤ 140737488355328 ∧ rows = rows'
  | .app rows1 rows2 size n rows' => n ≤ 140737488355328 ∧ (∀ l, l ∈ rows2 → l.length = size) ∧ rows1 ++ rows2 = rows'
  | .own => True
  | .byte s n b => 0 ≤ n ∧ s.data[n.toNat]? = some b
  | .fnv x g => x = .func (.func g) #[] #[]
  | .idx rows n l => 0 ≤ n ∧ rows[n.toNat]? = some l
  | .strb rows s => rows = s.data.toList.map fun b => [Pd.v (.int .u8 (b.toNat : Int))]
  | .when conds c => AllEq conds → c.ok P
  | .whenR conds c => (AllEq conds → c.ok P) ∧ (¬ AllEq conds → c.keeps)
  | .flts _ => True
  | .flt _ r r' => r = r'
  | .fltm _ c r r' => c.ok P ∧ r = r'
  | .nop => True

def AllOk (P : Program) : List Cl → Prop
  | [] => True
  | c :: r => c.ok P ∧ AllOk P r

/-! ### small functions -/
def getE : List Ent → Nat → Option Ent
  | [], _ => none
  | e :: r, t => bif Nat.beq e.t t then some e else getE r t

def prefixB : Path → Path → Bool
  | [], _ => true
  | (a, x) :: p, (b, y) :: q => Nat.beq a b && (x == y) && prefixB p q
  | _ :: _, [] => false

def dOf (v : Value) : Option D := bif v.oneCell' then some (.p (.v v)) else none
def dsOf : List Value → Option (List D)
  | [] => some []
  | v :: r => match dOf v, dsOf r with
    | some d, some ds => some (d :: ds)
    | _, _ => none
def avOf : Value → Option AV
  | .agg cs => (dsOf cs.toList).map .agg
  | .tuple _ => none
  | v => (dOf v).map .d

def look (L : List Ent) (cur : Path) : Operand → Option AV
  | .const v => avOf v
  | .tmp t => match getE L t with
    | some e => bif prefixB e.p cur then some e.v else none
    | none => none
  | .func f => some (.d (.fn (.func f) [] []))
  | .global _ => none

/-- an exact nil slice reads as the empty one -/
def D.norm : D → D
  | .p (.v (.slice none 0 0)) => .p (.s [])
  | d => d
def AV.norm : AV → AV
  | .d x => .d x.norm
  | .agg ds => .agg (ds.map D.norm)
  | .tup l => .tup l

def isAggD : TypeDesc → Bool
  | .struct _ | .array _ _ => true
  | _ => false
def tyAgg (P : Program) (t : TypeId) : Option Bool := (P.underlying t).map isAggD
def tySize (P : Program) (t : TypeId) : Option Nat := (P.info? t).map (·.size)
def tyZero (P : Program) (t : TypeId) : Option Value := (P.info? t).bind (·.zero)

def avCells : AV → Option (List D)
  | .d x => some [x]
  | .agg ds => some ds
  | .tup _ => none
/-- what a variable of a type reads as whose cells read so -/
def memAV (P : Program) (t : TypeId) (ds : List D) : Option AV :=
  match tyAgg P t, tySize P t with
  | some true, some n => bif Nat.beq ds.length n then some (.agg ds) else none
  | some false, some 1 => match ds with
    | [d] => some (.d d)
    | _ => none
  | _, _ => none

def splice (cells : List D) (off : Nat) (ds : List D) : List D := cells.take off ++ (ds ++ cells.drop (off + ds.length))

/-- fill parts into cells -/
def fillD (places : List (Nat × Nat)) : List D → List (Nat × List D) → Option (List D)
  | cells, [] => some cells
  | cells, (i, ds) :: r => match places[i]? with
    | some (off, size) => bif Nat.beq ds.length size && Nat.ble (off + ds.length) cells.length then fillD places (splice cells off ds) r else none
    | none => none

def andI (k : IntKind) (a b : Int) : Int := k.wrap (BitVec.ofInt k.bits a &&& BitVec.ofInt k.bits b).toNat
def orI (k : IntKind) (a b : Int) : Int := k.wrap (BitVec.ofInt k.bits a ||| BitVec.ofInt k.bits b).toNat
def xorI (k : IntKind) (a b : Int) : Int := k.wrap (BitVec.ofInt k.bits a ^^^ BitVec.ofInt k.bits b).toNat
def shrI (k : IntKind) (a : Int) (n : Nat) : Int := a.fdiv (2 ^ min n k.bits)
def shlI (k : IntKind) (a : Int) (n : Nat) : Int := k.wrap (a * 2 ^ min n k.bits)
def bin (op : BinOp) (x y : Value) : Option Value :=
  match op, x, y with
  | .and, .int k a, .int k' b => if k = k' then some (.int k (andI k a b)) else none
  | .or, .int k a, .int k' b => if k = k' then some (.int k (orI k a b)) else none
  | .xor, .int k a, .int k' b => if k = k' then some (.int k (xorI k a b)) else none
  | .shr, .int k a, .int _ (.ofNat n) => some (.int k (shrI k a n))
  | .shl, .int k a, .int _ (.ofNat n) => some (.int k (shlI k a n))
  | .add, .int k a, .int k' b => if k = k' then some (.int k (k.wrap (a + b))) else none
  | .sub, .int k a, .int k' b => if k = k' then some (.int k (k.wrap (a - b))) else none
  | .mul, .int k a, .int k' b => if k = k' then some (.int k (k.wrap (a * b))) else none
  | .eql, .int k a, .int k' b => if k = k' then some (.bool (a == b)) else none
  | .neq, .int k a, .int k' b => if k = k' then some (.bool (a != b)) else none
  | .lss, .int k a, .int k' b => if k = k' then some (.bool (decide (a < b))) else none
  | .leq, .int k a, .int k' b => if k = k' then some (.bool (decide (a ≤ b))) else none
  | .gtr, .int k a, .int k' b => if k = k' then some (.bool (decide (a > b))) else none
  | .geq, .int k a, .int k' b => if k = k' then some (.bool (decide (a ≥ b))) else none
  | .eql, .string a, .string b => some (.bool (a.toList == b.toList))
  | .neq, .string a, .string b => some (.bool !(a.toList == b.toList))
  | _, _, _ => none

def binB (op : BinOp) (x y : Value) : Option Value :=
  match op, x, y with
  | .eql, .bool a, .bool b => some (.bool (a == b))
  | .neq, .bool a, .bool b => some (.bool !(a == b))
  | _, _, _ => none

/-- a text that is put together: 0 where it is too long -/
def catI (a b : ByteArray) : Int := bif decide (((a.size + b.size : Nat) : Int) ≤ 9223372036854775807) then 1 else 0
def binD (op : BinOp) (x y : Value) : Option (Value × Int) :=
  match op, x, y with
  | .quo, .int k a, .int k' b => if k = k' then some (.int k (k.wrap (a.tdiv b)), b) else none
  | .rem, .int k a, .int k' b => if k = k' then some (.int k (a.tmod b), b) else none
  | .add, .string a, .string b => some (.string (a ++ b), catI a b)
  | _, _, _ => none

def un (op : UnOp) (x : Value) : Option Value :=
  match op, x with
  | .neg, .int k n => some (.int k (k.wrap (0 - n)))
  | .not, .bool b => some (.bool !b)
  | _, _ => none

def exactV : AV → Option Value
  | .d (.p (.v x)) => some x
  | _ => none
def exactAll : List AV → Option (List Value)
  | [] => some []
  | a :: r => match exactV a, exactAll r with
    | some x, some xs => some (x :: xs)
    | _, _ => none
def ofV (v : Value) : AV := .d (.p (.v v))
def boolV : AV → Option Bool
  | .d (.p (.v (.bool b))) => some b
  | _ => none

def maxI : Int → List Value → Option Int
  | m, [] => some m
  | m, x :: r => match x with
    | .int .i64 y => maxI (max m y) r
    | _ => none
def minI : Int → List Value → Option Int
  | m, [] => some m
  | m, x :: r => match x with
    | .int .i64 y => minI (min m y) r
    | _ => none

/-! ### renaming of own things at a call -/
mutual
def D.ren (f : Nat → Option Nat) : D → Option D
  | .p x => some (.p x)
  | .o i off => match f i with
    | some j => some (.o j off)
    | none => none
  | .os i => match f i with
    | some j => some (.os j)
    | none => none
  | .oe i k size off => match f i with
    | some j => some (.oe j k size off)
    | none => none
  | .osb i lo n size => match f i with
    | some j => some (.osb j lo n size)
    | none => none
  | .oi i g k size off => match f i, f g with
    | some j, some q => some (.oi j q k size off)
    | _, _ => none
  | .ip cells => some (.ip cells)
  | .fn g a b => match D.renL f a, D.renL f b with
    | some a', some b' => some (.fn g a' b')
    | _, _ => none
  | .fb g ps => some (.fb g ps)
  | .any => some .any
  | .nq rows => some (.nq rows)
def D.renL (f : Nat → Option Nat) : List D → Option (List D)
  | [] => some []
  | d :: r => match D.ren f d, D.renL f r with
    | some d', some r' => some (d' :: r')
    | _, _ => none
end
mutual
def AV.ren (f : Nat → Option Nat) : AV → Option AV
  | .d x => match x.ren f with
    | some y => some (.d y)
    | none => none
  | .agg ds => match D.renL f ds with
    | some es => some (.agg es)
    | none => none
  | .tup l => match AV.renL f l with
    | some m => some (.tup m)
    | none => none
def AV.renL (f : Nat → Option Nat) : List AV → Option (List AV)
  | [] => some []
  | a :: r => match AV.ren f a, AV.renL f r with
    | some a', some r' => some (a' :: r')
    | _, _ => none
end
def Res.ren (f : Nat → Option Nat) : Res → Option Res
  | .box t cells => match D.renL f cells with
    | some cs => some (.box t cs)
    | none => none
  | .sl e size rows => some (.sl e size rows)
  | .zsl e size rows => some (.zsl e size rows)
  | .dsl e size g => match f g with
    | some q => some (.dsl e size q)
    | none => none
  | .gh size tys rows hole => some (.gh size tys rows hole)
  | .non => some .non
  | .vec e s cells => match D.renL f cells with
    | some cs => some (.vec e s cs)
    | none => none
def renRs (f : Nat → Option Nat) : List Res → Option (List Res)
  | [] => some []
  | r :: l => match r.ren f, renRs f l with
    | some r', some l' => some (r' :: l')
    | _, _ => none

def idxOf : List Nat → Nat → Option Nat
  | [], _ => none
  | a :: r, i => bif Nat.beq a i then some 0 else match idxOf r i with
    | some j => some (j + 1)
    | none => none
def noDup : List Nat → Bool
  | [] => true
  | a :: r => (idxOf r a).isNone && noDup r
def picks (R : List Res) : List Nat → Option (List Res)
  | [] => some []
  | i :: r => match R[i]?, picks R r with
    | some x, some xs => some (x :: xs)
    | _, _ => none
def backTo (pi : List Nat) (n : Nat) (j : Nat) : Option Nat :=
  match pi[j]? with
  | some i => some i
  | none => some (n + (j - pi.length))
def setAll : List Res → List Nat → List Res → List Res
  | R, i :: pi, r :: l => setAll (R.set i r) pi l
  | R, _, _ => R

structure Out where
  v : AV
  R : List Res
  c : Option Cl
  deriving Inhabited

def chunks {α : Type} (size : Nat) : Nat → List α → List (List α)
  | 0, _ => []
  | n + 1, l => l.take size :: chunks size n (l.drop size)
/-- what one cell reads as, looked at one step deep -/
def viewP0 (R : List Res) : D → Option Pd
  | .p x => some x
  | .os i => match R[i]? with
    | some (.sl _ _ rows) => some (.s rows)
    | some (.zsl _ _ rows) => some (.s rows)
    | _ => none
  | _ => none
def viewPs0 (R : List Res) : List D → Option (List Pd)
  | [] => some []
  | d :: r => match viewP0 R d, viewPs0 R r with
    | some x, some l => some (x :: l)
    | _, _ => none
def viewV (R : List Res) (s : Nat) (cells : List D) : Option Pd := (viewPs0 R cells).map fun ps => .s (chunks s (cells.length / s) ps)
/-! ### lending: what our own things read as while nothing writes them -/
def viewPd (R : List Res) : D → Option Pd
  | .p x => some x
  | .os i => match R[i]? with
    | some (.sl _ _ rows) => some (.s rows)
    | some (.zsl _ _ rows) => some (.s rows)
    | some (.vec _ s cells) => viewV R s cells
    | _ => none
  | _ => none
def viewPds (R : List Res) : List D → Option (List Pd)
  | [] => some []
  | d :: r => match viewPd R d, viewPds R r with
    | some x, some l => some (x :: l)
    | _, _ => none
mutual
def D.view (R : List Res) (rw : List Pd) : D → Option D
  | .p x => some (.p x)
  | .ip c => some (.ip c)
  | .os i => match R[i]? with
    | some (.sl _ _ rows) => some (.p (.s rows))
    | some (.zsl _ _ rows) => some (.p (.s rows))
    | some (.vec _ s cells) => (viewV R s cells).map .p
    | _ => none
  | .o i off => match R[i]? with
    | some (.box _ cells) => match viewPds R cells with
      | some ps => some (.ip (ps.drop off))
      | none => none
    | _ => none
  | .oe _ _ _ _ => none
  | .osb i lo n size => match R[i]? with
    | some (.sl _ s rows) => bif Nat.beq s size then some (.p (.s ((rows.drop lo).take n))) else none
    | _ => none
  | .oi _ g _ size off => match R[g]? with
    | some (.gh s _ _ none) => bif Nat.beq s size && Nat.blt off s then match rw[off]? with
      | some (.s r) => some (.p (.s r))
      | _ => none
      else none
    | _ => none
  | .fn g a b => match D.viewL R rw a, D.viewL R rw b with
    | some a', some b' => some (.fn g a' b')
    | _, _ => none
  | .fb g ps => some (.fb g ps)
  | .any => some .any
  | .nq rows => some (.nq rows)
def D.viewL (R : List Res) (rw : List Pd) : List D → Option (List D)
  | [] => some []
  | d :: r => match D.view R rw d, D.viewL R rw r with
    | some d', some r' => some (d' :: r')
    | _, _ => none
end
def AV.view (R : List Res) (rw : List Pd) : AV → Option AV
  | .d x => match x.view R rw with
    | some y => some (.d y)
    | none => none
  | .agg ds => match D.viewL R rw ds with
    | some es => some (.agg es)
    | none => none
  | .tup _ => none
def AV.viewL (R : List Res) (rw : List Pd) : List AV → Option (List AV)
  | [] => some []
  | a :: r => match AV.view R rw a, AV.viewL R rw r with
    | some a', some r' => some (a' :: r')
    | _, _ => none
def D.flat : D → Bool
  | .p (.v _) => true
  | _ => false
mutual
def AV.flat : AV → Bool
  | .d x => x.flat
  | .agg ds => ds.all D.flat
  | .tup l => AV.flatL l
def AV.flatL : List AV → Bool
  | [] => true
  | a :: r => a.flat && AV.flatL r
end

mutual
def D.ois : D → List (Nat × Nat)
  | .oi _ g k _ _ => [(g, k)]
  | .fn _ a b => D.oisL a ++ D.oisL b
  | _ => []
def D.oisL : List D → List (Nat × Nat)
  | [] => []
  | d :: r => D.ois d ++ D.oisL r
end
def AV.ois : AV → List (Nat × Nat)
  | .d x => x.ois
  | .agg ds => D.oisL ds
  | .tup _ => []
def oisL : List AV → List (Nat × Nat)
  | [] => []
  | a :: r => a.ois ++ oisL r
/-- functions whose arguments are handed as they are, a nil too (typed anew for each seat) -/
def rawF : FuncId → Bool := (fun f => Nat.beq f 209 || (Nat.beq f 365 || Nat.beq f 482))
def nrm (f : FuncId) (args : List AV) : List AV := bif rawF f then args else args.map AV.norm
def evCall (R : List Res) (args : List AV) (f : FuncId) : Cl → Option Out
  | .callB f' _ res _ _ rw => bif Nat.beq f f' && res.flat then
      match oisL args with
      | [] => match AV.viewL R [] (args.map AV.norm) with
        | some args' => some ⟨res, R, some (.callB f args' res [[]] 0 [])⟩
        | none => none
      | [(g, k)] => match R[g]?, AV.viewL R rw (args.map AV.norm) with
        | some (.gh _ _ rows none), some args' => some ⟨res, R, some (.callB f args' res rows k rw)⟩
        | _, _ => none
      | _ => none
    else none
  | .call f' _ _ res R2 pi =>
    bif Nat.beq f f' && noDup pi && Nat.ble pi.length R2.length then
      match AV.renL (idxOf pi) (nrm f args), picks R pi with
      | some args', some Rp => match renRs (idxOf pi) Rp, res.ren (backTo pi R.length), renRs (backTo pi R.length) R2 with
        | some Rp', some res', some R2' => some ⟨res', setAll R pi R2' ++ R2'.drop pi.length, some (.call f args' Rp' res R2 pi)⟩
        | _, _, _ => none
      | _, _ => none
    else none
  | _ => none

def lookAll (L : List Ent) (cur : Path) : List Operand → Option (List AV)
  | [] => some []
  | x :: r => match look L cur x, lookAll L cur r with
    | some a, some l => some (a :: l)
    | _, _ => none
def lookParts (L : List Ent) (cur : Path) : List (Nat × Operand) → Option (List (Nat × List D))
  | [] => some []
  | (i, x) :: r => match (look L cur x).bind avCells, lookParts L cur r with
    | some a, some l => some ((i, a) :: l)
    | _, _ => none

def fieldOf (P : Program) (s : TypeId) (f : Nat) : Option (Nat × TypeId) :=
  match P.underlying s with
  | some (.struct fields) => match fields[f]? with
    | some x => some (x.offset, x.type)
    | none => none
  | _ => none

def placesOf (P : Program) : List Field → Option (List (Nat × Nat))
  | [] => some []
  | f :: r => match tySize P f.type, placesOf P r with
    | some n, some l => some ((f.offset, n) :: l)
    | _, _ => none

def evLenS (R : List Res) : List AV → Option Int
  | [.d (.p (.s rows))] => some rows.length
  | [.d (.p (.v (.slice none 0 _)))] => some 0
  | [.d (.os i)] => match R[i]? with
    | some (.sl _ _ rows) => some rows.length
    | some (.dsl _ s g) => match R[g]? with
      | some (.gh s2 _ rows _) => bif Nat.beq s s2 && Nat.blt 0 s then some rows.length else none
      | _ => none
    | some (.vec _ s cells) => some ((cells.length / s : Nat) : Int)
    | _ => none
  | [.d (.osb _ _ n _)] => some n
  | _ => none
def evLenT : List AV → Option Int
  | [.d (.p (.v (.string s)))] => some s.size
  | _ => none

def evMM (b : Builtin) (l : List AV) : Option Int :=
  match exactAll l with
  | some (.int .i64 x :: r) => match b with
    | .max => maxI x r
    | .min => minI x r
    | _ => none
  | _ => none

def guardPath (ops : Array Oper) (L : List Ent) (o : Oper) : Option Path :=
  match o.guard with
  | none => some []
  | some (j, want) => match (ops[j]?).bind (·.dst) with
    | none => none
    | some t => match getE L t with
      | some e => match boolV e.v with
        | some _ => some (e.p ++ [(t, want)])
        | none => none
      | none => none

/-- the conditions of a path -/
def conds (L : List Ent) : Path → Option (List (Bool × Bool))
  | [] => some []
  | (t, want) :: p => match getE L t with
    | some e => match boolV e.v, conds L p with
      | some c, some l => some ((c, want) :: l)
      | _, _ => none
    | none => none

def isTrueC : Operand → Bool
  | .const (.bool b) => b
  | _ => false
def isFalseC : Operand → Bool
  | .const (.bool b) => !b
  | _ => false

def evPick (L : List Ent) (cur : Path) (c a b : Operand) : Option AV :=
  match c with
  | .tmp t => match (look L cur (.tmp t)).bind boolV with
    | some x =>
      bif isTrueC a then match (look L (cur ++ [(t, false)]) b).bind boolV with
        | some y => some (ofV (.bool (x || y)))
        | none => none
      else bif isFalseC b then match (look L (cur ++ [(t, true)]) a).bind boolV with
        | some y => some (ofV (.bool (x && y)))
        | none => none
      else none
    | none => none
  | _ => none

/-- are two structs the same? -/
def eqFs (P : Program) (same : TypeId → AV → AV → Option Bool) : List Field → List D → List D → Option Bool
  | [], _, _ => some true
  | f :: fs, ds, es => bif f.name == "_" then eqFs P same fs ds es else match tySize P f.type with
    | some n => match memAV P f.type ((ds.drop f.offset).take n), memAV P f.type ((es.drop f.offset).take n) with
      | some a, some b => match same f.type a b, eqFs P same fs ds es with
        | some r, some q => some (r && q)
        | _, _ => none
      | _, _ => none
    | none => none
def eqA (P : Program) : Nat → TypeId → AV → AV → Option Bool
  | 0, _, _, _ => none
  | m + 1, t, a, b => match P.underlying t with
    | some .bool => match a, b with
      | .d (.p (.v (.bool x))), .d (.p (.v (.bool y))) => some (x == y)
      | _, _ => none
    | some (.int _) => match a, b with
      | .d (.p (.v (.int k x))), .d (.p (.v (.int k' y))) => if k = k' then some (x == y) else none
      | _, _ => none
    | some .string => match a, b with
      | .d (.p (.v (.string x))), .d (.p (.v (.string y))) => some (x.toList == y.toList)
      | _, _ => none
    | some (.struct fs) => match a, b with
      | .agg ds, .agg es => bif P.stoodInHeld t then none else eqFs P (eqA P m) fs.toList ds es
      | _, _ => none
    | _ => none
def evEqS (P : Program) (L : List Ent) (cur : Path) (R : List Res) (b : BinOp) (t : TypeId) (x y : Operand) : Option (AV × Option Cl) :=
  match look L cur x, look L cur y with
  | some (.d (.p (.s rows))), some (.d (.p (.v (.slice none 0 0)))) => match b, P.underlying t with
    | .eql, some (.slice _) => some (.d (.nq rows), none)
    | _, _ => none
  | some (.d (.os i)), some (.d (.p (.v (.slice none 0 0)))) => match b, P.underlying t, R[i]? with
    | .eql, some (.slice _), some (.sl _ _ rows) => some (.d (.nq rows), none)
    | _, _, _ => none
  | some (.agg ds), some (.agg es) => bif P.eqGuardType P.depth t then none else match b with
    | .eql => (eqA P 100 t (.agg ds) (.agg es)).map fun z => (ofV (.bool z), none)
    | .neq => (eqA P 100 t (.agg ds) (.agg es)).map fun z => (ofV (.bool !z), none)
    | _ => none
  | _, _ => none

/-- the cells of an element whose slices are ours -/
def deepCells (i g k size : Nat) : Nat → List Pd → List D
  | _, [] => []
  | off, .v x :: r => .p (.v x) :: deepCells i g k size (off + 1) r
  | off, .s _ :: r => .oi i g k size off :: deepCells i g k size (off + 1) r
/-- a function that is read: which one it is, the prover says -/
def fnV (P : Program) (t : TypeId) (c : Cl) (v : AV) : Option (AV × Option Cl) :=
  match v, c, P.underlying t with
  | .d (.p (.v y)), .fnv _ g, some (.func _ _ _) => some (.d (.fn (.func g) [] []), some (.fnv y g))
  | v, _, _ => some (v, none)
/-- what is read at an address -/
def evLoad (P : Program) (L : List Ent) (cur : Path) (R : List Res) (c : Cl) (t : TypeId) (x : Operand) : Option (AV × Option Cl) :=
  match look L cur x, tySize P t with
  | some (.d (.o i off)), some n => match R[i]? with
    | some (.box _ cells) => (memAV P t ((cells.drop off).take n)).bind (fnV P t c)
    | _ => none
  | some (.d (.ip cells)), some n => (memAV P t ((cells.take n).map D.p)).map fun v => (v, none)
  | some (.d (.oe i k size off)), some n => match R[i]?, c with
    | some (.sl _ s rows), .row _ _ row => bif Nat.beq s size then (memAV P t (((row.drop off).take n).map D.p)).map fun v => (v, some (.row rows k row)) else none
    | some (.dsl _ s g), .row _ _ row => match R[g]? with
      | some (.gh s2 _ rows none) => bif Nat.blt 0 s && (Nat.beq s size && Nat.beq s s2) then (memAV P t (deepCells i g k size off ((row.drop off).take n))).map fun v => (v, some (.row rows k row)) else none
      | _ => none
    | some (.vec _ _ cells), _ => (memAV P t ((cells.drop (k * size + off)).take n)).map fun v => (v, none)
    | _, _ => none
  | _, _ => none

/-- what is indexed: a package variable's table too -/
def evBase (L : List Ent) (cur : Path) : Operand → Option AV
  | .global g => (globTab g).map fun cells => .d (.ip cells)
  | x => look L cur x
/-- the address of an element -/
def evIdx (P : Program) (L : List Ent) (cur : Path) (R : List Res) (c : Cl) (t : TypeId) (x i : Operand) : Option (AV × Option Cl) :=
  match P.underlying t, evBase L cur x, (look L cur i).bind exactV with
  | some (.slice e), some (.d (.p (.s rows))), some (.int _ n) => match c with
    | .row _ _ row => match tySize P e with
      | some (k + 1) => bif Nat.beq row.length (k + 1) then some (.d (.ip row), some (.row rows n row)) else none
      | _ => none
    | _ => none
  | some (.slice e), some (.d (.os j)), some (.int _ n) => match R[j]?, c with
    | some (.sl _ s rows), .row _ _ row => match tySize P e with
      | some (k + 1) => bif Nat.beq s (k + 1) then some (.d (.oe j n.toNat (k + 1) 0), some (.row rows n row)) else none
      | _ => none
    | some (.dsl _ s g), .row _ _ row => match tySize P e, R[g]? with
      | some (k + 1), some (.gh s2 _ rows _) => bif Nat.beq s (k + 1) && Nat.beq s s2 then some (.d (.oe j n.toNat (k + 1) 0), some (.row rows n row)) else none
      | _, _ => none
    | some (.vec _ s cells), _ => match tySize P e with
      | some (k + 1) => bif Nat.beq s (k + 1) then some (.d (.oe j n.toNat (k + 1) 0), some (.bnd (cells.length / (k + 1)) n (n + 1) (n + 1))) else none
      | _ => none
    | _, _ => none
  | some (.slice e), some (.d (.osb j lo m s2)), some (.int _ n) => match R[j]?, c with
    | some (.sl _ s rows), .row _ _ row => match tySize P e with
      | some (k + 1) => bif (Nat.beq s (k + 1) && Nat.beq s2 (k + 1)) && (decide (0 ≤ n) && Nat.blt n.toNat m) then some (.d (.oe j (lo + n.toNat) (k + 1) 0), some (.row rows ((lo : Int) + n) row)) else none
      | _ => none
    | _, _ => none
  | some (.array m e), some (.d (.o j off)), some (.int _ (.ofNat k)) => match tySize P e with
    | some s => bif Nat.blt k m then some (.d (.o j (off + k * s)), none) else none
    | _ => none
  | some (.array m e), some (.d (.ip cells)), some (.int _ (.ofNat k)) => match tySize P e with
    | some s => bif Nat.blt k m then some (.d (.ip (cells.drop (k * s))), none) else none
    | _ => none
  | some (.slice _), some (.d (.p (.v (.slice none 0 0)))), some (.int _ n) => match c with
    | .row _ _ row => some (.d (.ip row), some (.row [] n row))
    | _ => none
  | _, _, _ => none

def dP : D → Option Pd
  | .p x => some x
  | .fn f [] [] => some (.v (.func f #[] #[]))
  | _ => none
def dPs : List D → Option (List Pd)
  | [] => some []
  | d :: r => match dP d, dPs r with
    | some x, some l => some (x :: l)
    | _, _ => none
/-- an array's element by a number that is not known: what the claim says -/
def evIdxA (P : Program) (n : Nat) (e : TypeId) (ds : List D) (k : Int) (row : List Pd) : Option (AV × Option Cl) :=
  match tySize P e, dPs ds with
  | some (s + 1), some ps => bif Nat.beq ps.length (n * (s + 1)) then (memAV P e (row.map D.p)).map fun v => (v, some (.idx (chunks (s + 1) n ps) k row)) else none
  | _, _ => none
def isIdx : Cl → Option (List Pd)
  | .idx _ _ row => some row
  | _ => none
/-- bytes in a string -/
def evStrB (P : Program) (L : List Ent) (cur : Path) (R : List Res) (c : Cl) (s d : TypeId) (x : Operand) : Option (AV × Option Cl) :=
  match P.underlying s, P.underlying d, c with
  | some (.slice e), some .string, .strb _ b => match P.underlying e, look L cur x with
    | some (.int .u8), some (.d (.os i)) => match R[i]? with
      | some (.sl _ z rows) => bif Nat.beq z 1 then some (ofV (.string b), some (.strb rows b)) else none
      | _ => none
    | some (.int .u8), some (.d (.p (.s rows))) => some (ofV (.string b), some (.strb rows b))
    | _, _ => none
  | _, _, _ => none
/-- operations that give a value and write nothing of ours -/
def evPure (P : Program) (L : List Ent) (cur : Path) (R : List Res) (c : Cl) (op : Op) : Option (AV × Option Cl) :=
  match op with
  | .move x | .assign x => (look L cur x).map fun v => (v, none)
  | .pick k a b => (evPick L cur k a b).map fun v => (v, none)
  | .build t parts => match (tyZero P t).bind fun z => dsOf z.cells.toList, P.underlying t, lookParts L cur parts.toList with
    | some zs, some (.struct fields), some ps => match (placesOf P fields.toList).bind fun pl => fillD pl zs ps with
      | some ds => some (.agg ds, none)
      | none => none
    | some zs, some (.array n e), some ps => match tySize P e with
      | some s => match fillD ((List.range n).map fun i => (i * s, s)) zs ps with
        | some ds => some (.agg ds, none)
        | none => none
      | none => none
    | _, _, _ => none
  | .load t (.global g) => match globTab g, tySize P t with
    | some cells, some n => (memAV P t ((cells.take n).map D.p)).map fun v => (v, none)
    | _, _ => none
  | .load t x => evLoad P L cur R c t x
  | .nilCheck x => match look L cur x with
    | some (.d (.o i off)) => some (.d (.o i off), none)
    | some (.d (.oe i k s off)) => some (.d (.oe i k s off), none)
    | some (.d (.ip cells)) => some (.d (.ip cells), none)
    | _ => none
  | .binOp b t x y _ => match (look L cur x).bind exactV, (look L cur y).bind exactV with
    | some u, some v => match bin b u v with
      | some z => some (ofV z, none)
      | none => match binD b u v with
        | some (z, n) => some (ofV z, some (.nz n))
        | none => match P.underlying t with
          | some .bool => (binB b u v).map fun z => (ofV z, none)
          | _ => none
    | _, _ => evEqS P L cur R b t x y
  | .unOp u _ x => match (look L cur x).bind exactV with
    | some v => (un u v).map fun z => (ofV z, none)
    | none => none
  | .convert s d x => match P.underlying s, P.underlying d, (look L cur x).bind exactV with
    | some (.int _), some (.int k), some (.int _ n) => some (ofV (.int k (k.wrap n)), none)
    | _, _, _ => evStrB P L cur R c s d x
  | .makeFunc f first caps => match lookAll L cur first.toList, lookAll L cur caps.toList with
    | some a, some b => match (a.mapM fun | .d x => some x | _ => none), (b.mapM fun | .d x => some x | _ => none) with
      | some a', some b' => some (.d (.fn f a' b'), none)
      | _, _ => match a, b with
        | [.agg ds], [] => (dPs ds).map fun ps => (.d (.fb f ps), none)
        | _, _ => none
    | _, _ => none
  | .fieldAddr s x f => match look L cur x, fieldOf P s f with
    | some (.d (.o i off)), some (k, ft) => match tySize P ft with
      | some (_ + 1) => some (.d (.o i (off + k)), none)
      | _ => none
    | some (.d (.ip cells)), some (k, ft) => match tySize P ft with
      | some (_ + 1) => some (.d (.ip (cells.drop k)), none)
      | _ => none
    | some (.d (.oe i r size off)), some (k, ft) => match tySize P ft with
      | some (_ + 1) => some (.d (.oe i r size (off + k)), none)
      | _ => none
    | _, _ => none
  | .field s x f => match look L cur x, fieldOf P s f with
    | some (.agg ds), some (k, ft) => match tySize P ft with
      | some n => (memAV P ft ((ds.drop k).take n)).map fun v => (v, none)
      | none => none
    | _, _ => none
  | .indexAddr t x i => evIdx P L cur R c t x i
  | .index t x i => match P.underlying t, look L cur x, (look L cur i).bind exactV with
    | some (.array n e), some (.agg ds), some (.int _ kk) => match isIdx c with
      | some row => evIdxA P n e ds kk row
      | none => match kk, tySize P e with
        | .ofNat k, some s => bif Nat.blt k n && Nat.ble ((k + 1) * s) ds.length then (memAV P e ((ds.drop (k * s)).take s)).map fun v => (v, none) else none
        | _, _ => none
    | some .string, some (.d (.p (.v (.string s)))), some (.int _ n) => match c with
      | .byte _ _ b => some (ofV (.int .u8 b.toNat), some (.byte s n b))
      | _ => none
    | _, _, _ => none
  | .extract x i => match look L cur x with
    | some (.tup l) => (l[i]?).map fun v => (v, none)
    | _ => none
  | .slice t x lo hi none => match P.underlying t, look L cur x with
    | some (.slice e), some (.d (.p (.s rows))) => match tySize P e, (match lo with | none => some (Value.int .i64 0) | some y => (look L cur y).bind exactV), (match hi with | none => some (Value.int .i64 rows.length) | some y => (look L cur y).bind exactV) with
      | some n, some (.int _ l), some (.int _ h) => match c with
        | .cut _ _ _ _ rows' => some (.d (.p (.s rows')), some (.cut rows n l h rows'))
        | _ => none
      | _, _, _ => none
    | some (.slice e), some (.d (.os i)) => match R[i]? with
      | some (.sl _ s rows) => match tySize P e, (match lo with | none => some (Value.int .i64 0) | some y => (look L cur y).bind exactV), (match hi with | none => some (Value.int .i64 rows.length) | some y => (look L cur y).bind exactV) with
        | some n, some (.int _ l), some (.int _ h) => match c with
          | .bnd _ _ _ h2 => bif Nat.beq s n then some (.d (.osb i l.toNat (h2.toNat - l.toNat) n), some (.bnd rows.length l h h2)) else none
          | _ => none
        | _, _, _ => none
      | _ => none
    | some (.slice e), some (.d (.osb i o0 n0 s0)) => match R[i]? with
      | some (.sl _ s rows) => match tySize P e, (match lo with | none => some (Value.int .i64 0) | some y => (look L cur y).bind exactV), (match hi with | none => some (Value.int .i64 n0) | some y => (look L cur y).bind exactV) with
        | some n, some (.int _ l), some (.int _ h) => match c with
          | .bnd _ _ _ h2 => bif Nat.beq s n && Nat.beq s0 n then some (.d (.osb i (o0 + l.toNat) (h2.toNat - l.toNat) n), some (.bnd (rows.length - o0) l h h2)) else none
          | _ => none
        | _, _, _ => none
      | _ => none
    | some .string, some (.d (.p (.v (.string s)))) => match (match lo with | none => some (Value.int .i64 0) | some y => (look L cur y).bind exactV), (match hi with | none => some (Value.int .i64 s.size) | some y => (look L cur y).bind exactV) with
      | some (.int _ l), some (.int _ h) => match c with
        | .bnd _ _ _ h2 => some (ofV (.string (s.extract l.toNat h2.toNat)), some (.bnd s.size l h h2))
        | _ => none
      | _, _ => none
    | some (.slice e), some (.d (.p (.v (.slice none 0 0)))) => match lo, hi with
      | none, some y => match tySize P e, (look L cur y).bind exactV with
        | some _, some (.int _ 0) => some (.d (.p (.v (.slice none 0 0))), none)
        | _, _ => none
      | _, _ => none
    | _, _ => none
  | .slice t x (some lo) (some hi) (some mx) => match P.underlying t, look L cur x with
    | some (.slice e), some (.d (.os i)) => match R[i]? with
      | some (.sl _ _ rows) => match (look L cur lo).bind exactV, (look L cur hi).bind exactV, (look L cur mx).bind exactV with
        | some (.int _ l), some (.int _ h), some (.int _ m) => match c, tySize P e with
          | .bnd3 _ _ _ _, some _ => some (.d .any, some (.bnd3 rows.length l h m))
          | _, _ => none
        | _, _, _ => none
      | _ => none
    | _, _ => none
  | .call k => match k.callee with
    | .builtin b => match lookAll L cur k.args.toList with
      | some args => match b, k.argTypes[0]? with
        | .len, some t => match P.underlying t with
          | some (.slice _) => match c with
            | .len _ n => (evLenS R args).map fun k => (ofV (.int .i64 n), some (.len k n))
            | _ => (evLenS R args).map fun n => (ofV (.int .i64 n), none)
          | some .string => (evLenT args).map fun n => (ofV (.int .i64 n), none)
          | _ => none
        | .cap, some t => match P.underlying t, args with
          | some (.slice _), [.d (.p (.v (.slice none 0 0)))] => some (ofV (.int .i64 0), none)
          | _, _ => none
        | _, _ => (evMM b args).map fun n => (ofV (.int .i64 n), none)
      | none => none
    | _ => none
  | _ => none

/-! ### slices that are made -/
def repeatL {α : Type} : Nat → List α → List α
  | 0, _ => []
  | n + 1, l => l ++ repeatL n l

def Pd.nz : Pd → Pd
  | .v (.slice none 0 0) => .s []
  | x => x
def isOwn : Cl → Bool
  | .own => true
  | _ => false

def evBuildSlice (P : Program) (R : List Res) (c : Cl) (t : TypeId) (len : Nat) (parts : List (Nat × List D)) : Option Out :=
  match P.underlying t with
  | some (.slice e) => match tySize P e, (tyZero P e).bind fun z => dsOf z.cells.toList with
    | some (size + 1), some zs =>
      bif Nat.beq zs.length (size + 1) && Nat.ble (len * (size + 1)) 16777216 then
        match (fillD ((List.range len).map fun i => (i * (size + 1), size + 1)) (repeatL len zs) parts).bind dPs with
        | some ps => bif isOwn c then some ⟨.d (.os R.length), R ++ [.sl e (size + 1) (chunks (size + 1) len (ps.map Pd.nz))], some .own⟩ else some ⟨.d (.p (.s (chunks (size + 1) len (ps.map Pd.nz)))), R, none⟩
        | none => bif isOwn c then (fillD ((List.range len).map fun i => (i * (size + 1), size + 1)) (repeatL len zs) parts).map fun ds => ⟨.d (.os R.length), R ++ [.vec e (size + 1) ds], some .own⟩ else none
      else none
    | _, _ => none
  | _ => none

def srcRows (R : List Res) (size : Nat) : AV → Option (List (List Pd))
  | .d (.p (.s rows)) => some rows
  | .d (.p (.v (.slice none 0 0))) => some []
  | .d (.os i) => match R[i]? with
    | some (.sl _ s rows) => bif Nat.beq s size then some rows else none
    | _ => none
  | .d (.osb i lo n s2) => match R[i]? with
    | some (.sl _ s rows) => bif Nat.beq s size && Nat.beq s2 s then some ((rows.drop lo).take n) else none
    | _ => none
  | _ => none

/-- append to a slice of our own (or to an exact nil) -/
def evAppend (P : Program) (R : List Res) (c : Cl) (ts : List TypeId) (args : List AV) : Option Out :=
  match ts, args with
  | [t, u], [x, y] => bif Nat.beq t u then match P.underlying t with
    | some (.slice e) => match tySize P e, (P.info? e).map (·.bytes), (tyZero P e).map (fun z => z.cells.size) with
      | some (size + 1), some bytes, some zn => match c, srcRows R (size + 1) y with
        | .app _ _ _ _ rows', some rows2 => bif Nat.beq zn (size + 1) then match x with
          | .d (.p (.v (.slice none 0 0))) => some ⟨.d (.os (R.length + 1)), R ++ [.non, .sl e (size + 1) rows'], some (.app [] rows2 (size + 1) (rows2.length * (bytes + 1)) rows')⟩
          | .d (.os i) => match R[i]? with
            | some (.sl e' s' rows) => bif Nat.beq e' e && Nat.beq s' (size + 1) then some ⟨.d (.os R.length), R.set i .non ++ [.sl e (size + 1) rows'], some (.app rows rows2 (size + 1) ((rows.length + rows2.length) * (bytes + 1)) rows')⟩ else none
            | _ => none
          | _ => none
          else none
        | _, _ => none
      | _, _, _ => none
    | _ => none
    else none
  | _, _ => none

/-- append to a slice of ours whose cells lead to things of ours -/
def evAppendV (P : Program) (R : List Res) (ts : List TypeId) (args : List AV) : Option Out :=
  match ts, args with
  | [t, u], [x, .d (.os j)] => bif Nat.beq t u then match P.underlying t, R[j]? with
    | some (.slice e), some (.vec _ s ds2) => match tySize P e, (P.info? e).map (·.bytes), (tyZero P e).map (fun z => z.cells.size) with
      | some (size + 1), some bytes, some zn => bif (Nat.beq zn (size + 1) && Nat.beq s (size + 1)) && !ds2.isEmpty then match x with
        | .d (.p (.v (.slice none 0 0))) => bif Nat.ble ((ds2.length / (size + 1)) * (bytes + 1)) 140737488355328 then some ⟨.d (.os (R.length + 1)), R ++ [.non, .vec e (size + 1) ds2], none⟩ else none
        | .d (.os i) => match R[i]? with
          | some (.vec e' s' ds1) => bif (Nat.beq e' e && Nat.beq s' (size + 1)) && (!(Nat.beq i j) && Nat.ble ((ds1.length / (size + 1) + ds2.length / (size + 1)) * (bytes + 1)) 140737488355328) then some ⟨.d (.os R.length), R.set i .non ++ [.vec e (size + 1) (ds1 ++ ds2)], none⟩ else none
          | some (.sl e' s' []) => bif (Nat.beq e' e && Nat.beq s' (size + 1)) && (!(Nat.beq i j) && Nat.ble ((0 + ds2.length / (size + 1)) * (bytes + 1)) 140737488355328) then some ⟨.d (.os R.length), R.set i .non ++ [.vec e (size + 1) ([] ++ ds2)], none⟩ else none
          | _ => none
        | _ => none
        else none
      | _, _, _ => none
    | _, _ => none
    else none
  | _, _ => none
/-- so many zeros behind nothing -/
def evAppendN (P : Program) (R : List Res) (ts : List TypeId) (args : List AV) : Option Out :=
  match ts, args with
  | [t, u], [.d (.p (.v (.slice none 0 0))), .d (.p (.v (.int _ (.ofNat n))))] => match P.underlying t, P.underlying u with
    | some (.slice e), some (.int _) => match tySize P e, (P.info? e).map (·.bytes), (tyZero P e).bind fun z => dsOf z.cells.toList with
      | some (size + 1), some bytes, some ds => match dPs ds with
        | some zs => bif (Nat.beq zs.length (size + 1) && Nat.blt 0 n) && Nat.ble (n * (bytes + 1)) 140737488355328 then some ⟨.d (.os R.length), R ++ [.sl e (size + 1) (List.replicate n zs)], none⟩ else none
        | none => none
      | _, _, _ => none
    | _, _ => none
  | _, _ => none
def evAppendA (P : Program) (R : List Res) (c : Cl) (ts : List TypeId) (args : List AV) : Option Out :=
  match evAppend P R c ts args with
  | some o => some o
  | none => match evAppendV P R ts args with
    | some o => some o
    | none => evAppendN P R ts args

/-- a fresh zero's cell -/
def zB : Pd → Bool
  | .v (.slice none 0 0) => true
  | .v (.slice _ _ _) => false
  | .v _ => true
  | .s _ => false
/-- append to a slice that lies in an element of ours -/
def evAppendD (P : Program) (R : List Res) (c : Cl) (ts : List TypeId) (i g k size off : Nat) (y : AV) : Option Out :=
  match R[i]?, R[g]?, c with
  | some (.dsl e s g'), some (.gh s2 tys rows none), .appD _ _ row _ r1 r2 sz n rows' => match tys[off]? with
    | some (e2, sz2) => bif (Nat.beq g g' && Nat.beq s s2) && (Nat.beq s size && Nat.blt off s) then
      match evAppend P ((R.set g .non).set i (.dsl e s R.length) ++ [.gh s tys rows (some (k, off)), .sl e2 sz2 r1]) (.app r1 r2 sz n rows') ts [.d (.os (R.length + 1)), y] with
      | some ⟨v, R', some (.app _ b z m r')⟩ => some ⟨v, R', some (.appD rows k row off r1 b z m r')⟩
      | _ => none
      else none
    | none => none
  | _, _, _ => none
/-- what was appended goes back into its element -/
def evPutD (R : List Res) (c : Cl) (o : Oper) (i k size off : Nat) (ds : List D) (n : Nat) : Option Out :=
  match R[i]?, ds, c with
  | some (.dsl e s g), [.os m], .updD _ _ _ row _ rows' => match R[g]?, R[m]? with
    | some (.gh s2 tys rows (some (k0, off0))), some (.sl e2 sz2 r1) => match tys[off]? with
      | some (e3, sz3) =>
        bif (Nat.beq s size && Nat.beq s s2) && ((Nat.beq off off0 && Nat.beq n 1) && ((Nat.blt off s && o.dst.isNone) && (Nat.beq e2 e3 && Nat.beq sz2 sz3))) then
          some ⟨.tup [], (((R.set m .non).set g .non).set i (.dsl e s R.length)) ++ [.gh s tys rows' none], some (.updD rows k0 k row (row.take off ++ (.s r1 :: row.drop (off + 1))) rows')⟩
        else none
      | none => none
    | _, _ => none
  | _, _, _ => none
/-- append to the beginning of an own slice, in place -/
def evAppendP (P : Program) (R : List Res) (c : Cl) (ts : List TypeId) (i n s : Nat) (y : AV) : Option Out :=
  match ts with
  | [t, u] => bif Nat.beq t u then match P.underlying t with
    | some (.slice e) => match tySize P e, srcRows R s y, R[i]? with
      | some (size + 1), some src, some (.sl e' s' rows) => match c with
        | .appP _ _ _ _ m _ rows' => bif Nat.beq s' s && Nat.beq s (size + 1) then
            some ⟨.d (.osb i 0 m s), R.set i (.sl e' s' rows'), some (.appP rows src s n m (rows.take n ++ (src ++ rows.drop (n + src.length))) rows')⟩
          else none
        | _ => none
      | _, _, _ => none
    | _ => none
    else none
  | _ => none
/-- append to a beginning of an own slice: the rest is given up -/
def evAppendT (P : Program) (R : List Res) (c : Cl) (ts : List TypeId) (i n s : Nat) (y : AV) : Option Out :=
  match R[i]? with
  | some (.sl e s' rows) => bif Nat.beq s' s then evAppend P (R.set i .non ++ [.sl e s' (rows.take n)]) c ts [.d (.os R.length), y] else none
  | _ => none
def evAppendB (P : Program) (R : List Res) (c : Cl) (ts : List TypeId) (i n s : Nat) (y : AV) : Option Out :=
  match c with
  | .appP .. => evAppendP P R c ts i n s y
  | _ => evAppendT P R c ts i n s y
/-- where clear and copy write -/
def dstOf (R : List Res) : AV → Option (Nat × Nat × Nat × Nat)
  | .d (.os i) => match R[i]? with
    | some (.sl _ s rows) => some (i, 0, rows.length, s)
    | _ => none
  | .d (.osb i lo n s) => some (i, lo, n, s)
  | _ => none
def evClear (P : Program) (R : List Res) (c : Cl) (ts : List TypeId) (args : List AV) : Option Out :=
  match ts, args with
  | [t], [x] => match P.underlying t with
    | some (.slice e) => match tySize P e, (tyZero P e).bind fun z => dsOf z.cells.toList, dstOf R x with
      | some (size + 1), some zd, some (i, lo, n, s) => match dPs zd, R[i]?, c with
        | some zs, some (.sl e' s2 rows), .eqr _ rows' => bif (Nat.beq s s2 && Nat.beq s (size + 1)) && Nat.beq zs.length (size + 1) then
            some ⟨.tup [], R.set i (.sl e' s2 rows'), some (.eqr (rows.take lo ++ (List.replicate n (zs.map Pd.nz) ++ rows.drop (lo + n))) rows')⟩
          else none
        | _, _, _ => none
      | _, _, _ => none
    | _ => none
  | _, _ => none
def evCopy (P : Program) (R : List Res) (c : Cl) (ts : List TypeId) (args : List AV) : Option Out :=
  match ts, args with
  | t :: _, [x, y] => match P.underlying t with
    | some (.slice e) => match tySize P e, dstOf R x with
      | some (size + 1), some (i, lo, n, s) => match srcRows R (size + 1) y, R[i]?, c with
        | some src, some (.sl e' s2 rows), .cpy _ _ _ m _ rows' => bif Nat.beq s s2 && Nat.beq s (size + 1) then
            some ⟨ofV (.int .i64 m), R.set i (.sl e' s2 rows'), some (.cpy src (size + 1) n m (rows.take lo ++ (src.take m ++ rows.drop (lo + m))) rows')⟩
          else none
        | _, _, _ => none
      | _, _ => none
    | _ => none
  | _, _ => none

def evMake (P : Program) (R : List Res) (c : Cl) (t : TypeId) (len : Option Value) : Option Out :=
  match P.underlying t, len, c with
  | some (.slice e), some (.int .i64 l), .room _ _ rows' => match tySize P e, (P.info? e).map (·.bytes), (tyZero P e).bind fun z => dsOf z.cells.toList with
    | some (size + 1), some bytes, some ds => match dPs ds with
      | some zs => bif Nat.beq zs.length (size + 1) then some ⟨.d (.os R.length), R ++ [.sl e (size + 1) rows'], some (.room (l * (bytes + 1)) (List.replicate l.toNat zs) rows')⟩ else none
      | none => none
    | _, _, _ => none
  | some (.slice e), some (.int .i64 l), .roomZ _ _ rows' => match tySize P e, (P.info? e).map (·.bytes), (tyZero P e).bind fun z => dsOf z.cells.toList with
    | some (size + 1), some bytes, some ds => match dPs ds with
      | some zs => bif Nat.beq zs.length (size + 1) && zs.all zB then some ⟨.d (.os R.length), R ++ [.zsl e (size + 1) rows'], some (.roomZ (l * (bytes + 1)) (List.replicate l.toNat (zs.map Pd.nz)) rows')⟩ else none
      | none => none
    | _, _, _ => none
  | _, _, _ => none

/-- the bytes of a string -/
def bytesI (s : ByteArray) : List Int := s.data.toList.map fun b => (b.toNat : Int)
def bytesP (s : ByteArray) : List (List Pd) := (bytesI s).map fun n => [Pd.v (.int .u8 n)]
/-- a string's bytes in a new slice -/
def evConv (P : Program) (R : List Res) (c : Cl) (s d : TypeId) (x : Option Value) : Option Out :=
  match P.underlying s, P.underlying d, x, c with
  | some .string, some (.slice e), some (.string b), .room _ _ rows' => match P.underlying e with
    | some (.int .u8) => some ⟨.d (.p (.s rows')), R, some (.room b.size (bytesP b) rows')⟩
    | _ => none
  | _, _, _, _ => none

/-- a string's bytes in a slice of ours -/
def evConvO (P : Program) (R : List Res) (c : Cl) (s d : TypeId) (x : Option Value) : Option Out :=
  match P.underlying s, P.underlying d, x, c with
  | some .string, some (.slice e), some (.string b), .roomZ _ _ rows' => match P.underlying e with
    | some (.int .u8) => bif markT e then some ⟨.d (.os R.length), R ++ [.sl e 1 rows'], some (.roomZ b.size (bytesP b) rows')⟩ else none
    | _ => none
  | _, _, _, _ => none
/-- own bytes stay what they are -/
def evConvB (P : Program) (R : List Res) (c : Cl) (s d : TypeId) (x : Option AV) : Option Out :=
  match P.underlying d, x, c with
  | some (.slice e), some (.d (.os i)), .own => match R[i]?, P.underlying e with
    | some (.sl et _ (_ :: _)), some (.int .u8) => bif Nat.beq s d && markT et then some ⟨.d (.os i), R, some .own⟩ else none
    | _, _ => none
  | _, _, _ => none
def evConvs (P : Program) (R : List Res) (c : Cl) (s d : TypeId) (x : Option AV) : Option Out :=
  match evConv P R c s d (x.bind exactV) with
  | some o => some o
  | none => match evConvO P R c s d (x.bind exactV) with
    | some o => some o
    | none => evConvB P R c s d x
def isZ : Cl → Bool
  | .own => true
  | .roomZ .. => true
  | _ => false

def sameOpd : Operand → Operand → Bool
  | .tmp a, .tmp b => Nat.beq a b
  | .const (.int .i64 a), .const (.int .i64 b) => a == b
  | _, _ => false

def noRes : Cl → Bool
  | .call _ _ _ _ R2 pi => R2.isEmpty && pi.isEmpty
  | _ => false

/-- an element of an own slice is written -/
def evPut (R : List Res) (c : Cl) (o : Oper) (i k size off : Nat) (ds : List D) (n : Nat) : Option Out :=
  match R[i]?, c, dPs ds with
  | some (.sl e s rows), .upd _ _ row _ rows', some ps =>
    bif Nat.beq s size && (Nat.beq ds.length n && (Nat.ble (off + n) size && o.dst.isNone)) then some ⟨.tup [], R.set i (.sl e s rows'), some (.upd rows k row (row.take off ++ (ps ++ row.drop (off + n))) rows')⟩ else none
  | _, _, _ => none

/-- an own slice goes into an element of an own slice: it is given up -/
def evPutF (R : List Res) (c : Cl) (o : Oper) (i k size off : Nat) (ds : List D) (n : Nat) : Option Out :=
  match R[i]? with
  | some (.vec e s cells) => bif Nat.beq ds.length n && (Nat.ble (k * size + off + n) cells.length && o.dst.isNone) then some ⟨.tup [], R.set i (.vec e s (splice cells (k * size + off) ds)), none⟩ else none
  | _ => match ds with
    | [.os m] => match R[m]? with
      | some (.sl _ _ rows2) => bif Nat.beq m i then none else evPut (R.set m .non) c o i k size off [.p (.s rows2)] n
      | _ => none
    | _ => none
/-- one operation, whatever it is -/
def evOp (P : Program) (L : List Ent) (cur : Path) (R : List Res) (c : Cl) (o : Oper) : Option Out :=
  match evPure P L cur R c o.op with
  | some (v, k) => some ⟨v, R, k⟩
  | none => match o.op with
    | .box t x => match (look L cur x).bind avCells, tySize P t with
        | some cells, some n => bif Nat.beq cells.length n then some ⟨.d (.o R.length 0), R ++ [.box t cells], none⟩ else none
        | _, _ => none
    | .alloc t => match (tyZero P t).bind fun z => dsOf z.cells.toList with
        | some cells => some ⟨.d (.o R.length 0), R ++ [.box t cells], none⟩
        | none => none
    | .store t a x => bif cur.isEmpty then match look L cur a, (look L cur x).bind avCells, tySize P t with
        | some (.d (.o i off)), some ds, some n => match R[i]? with
          | some (.box u cells) => bif Nat.beq ds.length n && Nat.ble (off + n) cells.length && o.dst.isNone then some ⟨.tup [], R.set i (.box u (splice cells off ds)), none⟩ else none
          | _ => none
        | some (.d (.oe i k size off)), some ds, some n => match evPut R c o i k size off ds n with
          | some x => some x
          | none => match evPutD R c o i k size off ds n with
            | some x => some x
            | none => evPutF R c o i k size off ds n
        | _, _, _ => none
      else none
    | .buildSlice t len parts => match lookParts L cur parts.toList with
        | some ps => evBuildSlice P R c t len ps
        | none => none
    | .convert s d x => evConvs P R c s d (look L cur x)
    | .makeSlice t l k => bif sameOpd l k then evMake P R c t ((look L cur l).bind exactV) else none
    | .call k => match k.callee with
      | .value f => match look L cur f, lookAll L cur k.args.toList with
        | some (.d (.fn (.func g) first caps)), some args => evCall R (first.map AV.d ++ args ++ caps.map AV.d) g c
        | some (.d (.fb (.func g) ps)), some args => evCall R (.agg (ps.map D.p) :: args) g c
        | _, _ => none
      | .builtin .append => match lookAll L cur k.args.toList with
        | some [.d (.oi i g q size off), y] => evAppendD P R c k.argTypes.toList i g q size off y
        | some [.d (.osb i 0 n s), y] => evAppendB P R c k.argTypes.toList i n s y
        | some args => evAppendA P R c k.argTypes.toList args
        | none => none
      | .builtin .clear => match lookAll L cur k.args.toList with
        | some args => evClear P R c k.argTypes.toList args
        | none => none
      | .builtin .copy => match lookAll L cur k.args.toList with
        | some args => evCopy P R c k.argTypes.toList args
        | none => none
      | _ => none
    | _ => none

/-- may this be left out? -/
def noPi : Cl → Bool
  | .callB _ _ _ _ _ _ => true
  | .call _ _ _ _ _ pi => pi.isEmpty
  | _ => false
def isW : Cl → Bool
  | .appD .. => true
  | .appP .. => true
  | _ => false
def skipOk (r : Bool) (c : Cl) (o : Oper) : Bool :=
  match o.op with
  | .store .. => false
  | .call k => match k.callee with
    | .value _ => r || noPi c
    | .builtin .clear | .builtin .copy => false
    | _ => !isW c
  | _ => true
def isR : Cl → Bool
  | .whenR _ _ => true
  | _ => false
def strip : Cl → Cl
  | .when _ c => c
  | .whenR _ c => c
  | c => c
def wfPath (L : List Ent) : Path → Path → Bool
  | _, [] => true
  | acc, (t, b) :: p => match getE L t with
    | some e => prefixB e.p acc && wfPath L (acc ++ [(t, b)]) p
    | none => false
/-- under a guard: what is left out must be harmless -/
def guardB (L : List Ent) (cur : Path) (r : Bool) (c : Cl) (o : Oper) : Bool := cur.isEmpty || (skipOk r c o && (!r || wfPath L [] cur))
def wrapCl (cur : Path) (r : Bool) (cs : List (Bool × Bool)) (x : Cl) : Cl := bif cur.isEmpty then x else bif r then .whenR cs x else .when cs x

/-- put a temporary -/
def putE (L : List Ent) (t : Nat) (p : Path) (v : AV) : List Ent :=
  ⟨t, p, v⟩ :: L.filter fun e => !(Nat.beq e.t t) && e.p.all fun g => !(Nat.beq g.1 t)

def needs : Op → Bool
  | .binOp .quo .. | .binOp .rem .. | .indexAddr .. | .slice .. => true
  | _ => false

/-- an operation with its guard: the new temporaries, the new things, the claim that it took -/
def evStep (P : Program) (n : Nat) (ops : Array Oper) (L : List Ent) (R : List Res) (c : Cl) (o : Oper) : Option (List Ent × List Res × Option Cl) :=
  match guardPath ops L o with
  | none => none
  | some cur =>
    match evOp P L cur R (strip c) o, conds L cur with
    | some out, some cs => bif guardB L cur (isR c) (strip c) o then
      let k := out.c.map (wrapCl cur (isR c) cs)
      match o.dst with
      | some d => bif Nat.blt d n && cur.all (fun g => !(Nat.beq g.1 d)) then some (putE L d cur out.v, out.R, k) else none
      | none => bif cur.isEmpty then some (L, out.R, k) else none
      else none
    | _, _ => none

/-- operations one after the other -/
def evOps (P : Program) (n : Nat) (ops : Array Oper) : List Nat → List Ent → List Res → List Cl → Option (List Ent × List Res × List Cl)
  | [], L, R, _ => some (L, R, [])
  | i :: is, L, R, cls => match ops[i]? with
    | none => none
    | some o => match evStep P n ops L R (cls.headD .nop) o with
      | none => none
      | some (L', R', some c) => match evOps P n ops is L' R' cls.tail with
        | some (L2, R2, cs) => some (L2, R2, c :: cs)
        | none => none
      | some (L', R', none) => evOps P n ops is L' R' cls
end Go.SL
