import Derived.Test.YtedojeimigneaaaGreatDoorSlV
set_option linter.unusedVariables false
namespace Go.SL
variable{cur:A_}{c:Cl}{L:List Ent}{R:List Res}{o:Oper}{a i l x:Operand}{P:Program}
def qii(x y:Value)(f:IntKind->Int->Int->Value):Option Value:=
 match x with
 |.int k a=>match y with
  |.int k' b=>if k=k' then some (f k a b) else none
  |_=>none
 |_=>none
def qEq(x y:Value):Option Value:=
 match x with
 |.int _ _=>qii x y λ_ a b=>.bool (a==b)
 |.string a=>match y with
  |.string b=>some (.bool (a.toList==b.toList))
  |_=>none
 |_=>none
def qNe(x y:Value):Option Value:=
 match x with
 |.int _ _=>qii x y λ_ a b=>.bool (a != b)
 |.string a=>match y with
  |.string b=>some (.bool !(a.toList==b.toList))
  |_=>none
 |_=>none
def A6y(op:BinOp)(x y:Value):Option Value:=
 match op with
 |.add=>qii x y λk a b=>.int k (k.wrap (a+b))
 |.sub=>qii x y λk a b=>.int k (k.wrap (a-b))
 |.mul=>qii x y λk a b=>.int k (k.wrap (a*b))
 |.lss=>qii x y λ_ a b=>.bool (decide (a<b))
 |.leq=>qii x y λ_ a b=>.bool (decide (a<=b))
 |.gtr=>qii x y λ_ a b=>.bool (decide (a>b))
 |.geq=>qii x y λ_ a b=>.bool (decide (a>=b))
 |.eql=>qEq x y
 |.neq=>qNe x y
 |op=>bin op x y
theorem A2l{op:BinOp}{x y:Value}:A6y op x y=bin op x y:=by cases op <;> first|rfl|(cases x <;> first|rfl|(cases y <;> rfl))
def Aar(P:Program)(L:List Ent)(cur:A_)(R:List Res)(c:Cl)(x:Operand):Option (AV×Option Cl):=(look L cur x).map λv=>(v,none)
def Az3(P:Program)(L:List Ent)(cur:A_)(R:List Res)(c:Cl)(k a b:Operand):Option (AV×Option Cl):=(Zj L cur k a b).map λv=>(v,none)
def Anq(P : Program)(L : List Ent)(cur : A_)(R : List Res)(c : Cl)(t : TypeId)(parts : Array (Nat × Operand)) : Option (AV × Option Cl) := match (Dn P t).bind λz => Fp z.cells.toList, P.underlying t, H_ L cur parts.toList with
  |some zs,some (.struct fields),some ps=>match (Kn P fields.toList).bind λpl=>H5 pl zs ps with
   |some ds=>some (.agg ds,none)
   |none=>none
  | some zs,some (.array n e),some ps=>match A8 P e with
   |some s=>match H5 ((List.range n).map λi=>(i*s,s)) zs ps with
    |some ds=>some (.agg ds,none)
    |none=>none
   |none=>none
  |_,_,_=>none
def Az4(P:Program)(L:List Ent)(cur:A_)(R:List Res)(c:Cl)(t:TypeId)(x:Operand):Option (AV×Option Cl):=match x with
 |.global g=>match Qz g,A8 P t with
  |some cells,some n=>(Gr P t ((cells.take n).map D.p)).map λv=>(v,none)
  |_,_=>none
 |x=>Q5 P L cur R c t x
def A4d(P:Program)(L:List Ent)(cur:A_)(R:List Res)(c:Cl)(x:Operand):Option (AV×Option Cl):=match look L cur x with
  |some (.d (.o i off))=>some (.d (.o i off),none)
  |some (.d (.oe i k s off))=>some (.d (.oe i k s off),none)
  |some (.d (.ip cells))=>some (.d (.ip cells),none)
  |_=>none
def Asv(P : Program)(L : List Ent)(cur : A_)(R : List Res)(c : Cl)(b : BinOp)(t : TypeId)(x y : Operand) : Option (AV × Option Cl) := match (look L cur x).bind By, (look L cur y).bind By with
  | some u,some v=>match A6y b u v with
   |some z=>some (ofV z,none)
   | none=>match Alc b u v with
    |some (z,n)=>some (ofV z,some (.nz n))
    |none=>match P.underlying t with
     |some .bool=>(Ald b u v).map λz=>(ofV z,none)
     |_=>none
  |_,_=>Aa1 P L cur R b t x y
def qUn(P:Program)(L:List Ent)(cur:A_)(R:List Res)(c:Cl)(u:UnOp)(x:Operand):Option (AV×Option Cl):=match (look L cur x).bind By with
  |some v=>(un u v).map λz=>(ofV z,none)
  |none=>none
def Aje(P:Program)(L:List Ent)(cur:A_)(R:List Res)(c:Cl)(s d:TypeId)(x:Operand):Option (AV×Option Cl):=match P.underlying s,P.underlying d,(look L cur x).bind By with
  |some (.int _),some (.int k),some (.int _ n)=>some (ofV (.int k (k.wrap n)),none)
  |_,_,_=>U7 P L cur R c s d x
def qFn(P : Program)(L : List Ent)(cur : A_)(R : List Res)(c : Cl)(f : Fn)(first caps : Array Operand) : Option (AV × Option Cl) := match Cf L cur first.toList, Cf L cur caps.toList with
  | some a,some b=>match (a.mapM fun|.d x=>some x|_=>none),(b.mapM fun|.d x=>some x|_=>none) with
   |some a',some b'=>some (.d (.fn f a' b'),none)
   |_,_=>match a,b with
    | [.agg ds],[]=>(dPs ds).map λps=>(.d (.fb f ps),none)
    |_,_=>none
  |_,_=>none
def qFA(P:Program)(L:List Ent)(cur:A_)(R:List Res)(c:Cl)(s:TypeId)(x:Operand)(f:Nat):Option (AV×Option Cl):=match look L cur x,L5 P s f with
  |some (.d (.o i off)),some (k,ft)=>match A8 P ft with
   |some (_+1)=>some (.d (.o i (off+k)),none)
   |_=>none
  |some (.d (.ip cells)),some (k,ft)=>match A8 P ft with
   |some (_+1)=>some (.d (.ip (cells.drop k)),none)
   |_=>none
  |some (.d (.oe i r size off)),some (k,ft)=>match A8 P ft with
   |some (_+1)=>some (.d (.oe i r size (off+k)),none)
   |_=>none
  |_,_=>none
def qF(P:Program)(L:List Ent)(cur:A_)(R:List Res)(c:Cl)(s:TypeId)(x:Operand)(f:Nat):Option (AV×Option Cl):=match look L cur x,L5 P s f with
  |some (.agg ds),some (k,ft)=>match A8 P ft with
   |some n=>(Gr P ft ((ds.drop k).take n)).map λv=>(v,none)
   |none=>none
  |_,_=>none
def qI(P : Program)(L : List Ent)(cur : A_)(R : List Res)(c : Cl)(t : TypeId)(x i : Operand) : Option (AV × Option Cl) := match P.underlying t, look L cur x, (look L cur i).bind By with
  | some (.array n e),some (.agg ds),some (.int _ kk)=>match Aaw c with
   |some row=>Adp P n e ds kk row
   |none=>match kk,A8 P e with
    |.ofNat k,some s=>bif Nat.blt k n&&Nat.ble ((k+1)*s) ds.length then (Gr P e ((ds.drop (k*s)).take s)).map λv=>(v,none) else none
    |_,_=>none
  |some .string,some (.d (.p (.v (.string s)))),some (.int _ n)=>match c with
   |.byte _ _ b=>some (ofV (.int .u8 b.toNat),some (.byte s n b))
   |_=>none
  |_,_,_=>none
def qX(P:Program)(L:List Ent)(cur:A_)(R:List Res)(c:Cl)(x:Operand)(i:Nat):Option (AV×Option Cl):=match look L cur x with
  |some (.tup l)=>(l[i]?).map λv=>(v,none)
  |_=>none
def Aas(P : Program)(L : List Ent)(cur : A_)(R : List Res)(c : Cl)(k : Call) : Option (AV × Option Cl) := match k.callee with
  | .builtin b=>match Cf L cur k.args.toList with
   | some args=>match b,k.argTypes[0]? with
    | .len,some t=>match P.underlying t with
     |some (.slice _)=>match c with
      |.len _ n=>(Kc R args).map λk=>(ofV (.int .i64 n),some (.len k n))
      |_=>(Kc R args).map λn=>(ofV (.int .i64 n),none)
     |some .string=>(Zm args).map λn=>(ofV (.int .i64 n),none)
     |_=>none
    |.cap,some t=>match P.underlying t,args with
     |some (.slice _),[.d (.p (.v (.slice none 0 0)))]=>some (ofV (.int .i64 0),none)
     |_,_=>none
    |_,_=>(Aty b args).map λn=>(ofV (.int .i64 n),none)
   |none=>none
  |_=>none
def qSl(P : Program)(L : List Ent)(cur : A_)(R : List Res)(c : Cl)(t : TypeId)(x : Operand)(lo hi mx : Option Operand) : Option (AV × Option Cl) := match lo, hi, mx with
 | lo,hi,none=>match P.underlying t,look L cur x with
  | some (.slice e),some (.d (.p (.s rows)))=>match A8 P e,(match lo with|none=>some (Value.int .i64 0)|some y=>(look L cur y).bind By),(match hi with|none=>some (Value.int .i64 rows.length)|some y=>(look L cur y).bind By) with
   |some n,some (.int _ l),some (.int _ h)=>match c with
    |.cut _ _ _ _ rows'=>some (.d (.p (.s rows')),some (.cut rows n l h rows'))
    |_=>none
   |_,_,_=>none
  | some (.slice e),some (.d (.os i))=>match R[i]? with
   | some (.sl _ s rows)=>match A8 P e,(match lo with|none=>some (Value.int .i64 0)|some y=>(look L cur y).bind By),(match hi with|none=>some (Value.int .i64 rows.length)|some y=>(look L cur y).bind By) with
    |some n,some (.int _ l),some (.int _ h)=>match c with
     |.bnd _ _ _ h2=>bif Nat.beq s n then some (.d (.osb i l.toNat (h2.toNat-l.toNat) n),some (.bnd rows.length l h h2)) else none
     |_=>none
    |_,_,_=>none
   |_=>none
  | some (.slice e),some (.d (.osb i o0 n0 s0))=>match R[i]? with
   | some (.sl _ s rows)=>match A8 P e,(match lo with|none=>some (Value.int .i64 0)|some y=>(look L cur y).bind By),(match hi with|none=>some (Value.int .i64 n0)|some y=>(look L cur y).bind By) with
    |some n,some (.int _ l),some (.int _ h)=>match c with
     |.bnd _ _ _ h2=>bif Nat.beq s n&&Nat.beq s0 n then some (.d (.osb i (o0+l.toNat) (h2.toNat-l.toNat) n),some (.bnd (rows.length-o0) l h h2)) else none
     |_=>none
    |_,_,_=>none
   |_=>none
  | some .string,some (.d (.p (.v (.string s))))=>match (match lo with|none=>some (Value.int .i64 0)|some y=>(look L cur y).bind By),(match hi with|none=>some (Value.int .i64 s.size)|some y=>(look L cur y).bind By) with
   |some (.int _ l),some (.int _ h)=>match c with
    |.bnd _ _ _ h2=>some (ofV (.string (s.extract l.toNat h2.toNat)),some (.bnd s.size l h h2))
    |_=>none
   |_,_=>none
  | some (.slice e),some (.d (.p (.v (.slice none 0 0))))=>match lo,hi with
   |none,some y=>match A8 P e,(look L cur y).bind By with
    |some _,some (.int _ 0)=>some (.d (.p (.v (.slice none 0 0))),none)
    |_,_=>none
   |_,_=>none
  |_,_=>none
 | some lo,some hi,some mx=>match P.underlying t,look L cur x with
  | some (.slice e),some (.d (.os i))=>match R[i]? with
   | some (.sl _ _ rows)=>match (look L cur lo).bind By,(look L cur hi).bind By,(look L cur mx).bind By with
    |some (.int _ l),some (.int _ h),some (.int _ m)=>match c,A8 P e with
     |.bnd3 _ _ _ _,some _=>some (.d .any,some (.bnd3 rows.length l h m))
     |_,_=>none
    |_,_,_=>none
   |_=>none
  |_,_=>none
 |_,_,_=>none
def Wr(P:Program)(L:List Ent)(cur:A_)(R:List Res)(c:Cl)(op:Op):Option (AV×Option Cl):=
 match op with
 |.move x=>Aar P L cur R c x
 |.assign x=>Aar P L cur R c x
 |.pick k a b=>Az3 P L cur R c k a b
 |.build t parts=>Anq P L cur R c t parts
 |.load t x=>Az4 P L cur R c t x
 |.nilCheck x=>A4d P L cur R c x
 |.binOp b t x y _=>Asv P L cur R c b t x y
 |.unOp u _ x=>qUn P L cur R c u x
 |.convert s d x=>Aje P L cur R c s d x
 |.makeFunc f first caps=>qFn P L cur R c f first caps
 |.fieldAddr s x f=>qFA P L cur R c s x f
 |.field s x f=>qF P L cur R c s x f
 |.indexAddr t x i=>Zn P L cur R c t x i
 |.index t x i=>qI P L cur R c t x i
 |.extract x i=>qX P L cur R c x i
 |.slice t x lo hi mx=>qSl P L cur R c t x lo hi mx
 |.call k=>Aas P L cur R c k
 |_=>none
theorem Akg{op:Op}:Wr P L cur R c op=Cg P L cur R c op:=by
 cases op with
 |load t x=>cases x <;> rfl
 | slice t x lo hi mx=>cases mx with
  |none=>rfl
  | some mx=>cases lo with
   |none=>rfl
   |some lo=>cases hi with
    |none=>rfl
    |some hi=>rfl
 |binOp b t x y z=>simp only[Wr,Cg,Asv,A2l];rfl
 |_=>rfl
def Jt(R:List Res):Option (AV×Option Cl)->Option Out
 |some (v,k)=>some ⟨v,R,k⟩
 |none=>none
def A4i(P:Program)(L:List Ent)(cur:A_)(R:List Res)(t:TypeId)(x:Operand):Option Out:=
 match (look L cur x).bind G9,A8 P t with
 |some cells,some n=>bif Nat.beq cells.length n then some ⟨.d (.o R.length 0),R++[.box t cells],none⟩ else none
 |_,_=>none
def Ant(P:Program)(R:List Res)(t:TypeId):Option Out:=
 match (Dn P t).bind λz=>Fp z.cells.toList with
 |some cells=>some ⟨.d (.o R.length 0),R++[.box t cells],none⟩
 |none=>none
def Bc4(R:List Res)(o:Oper)(i off:Nat)(ds:List D)(n:Nat):Option Out:=
 match R[i]? with
 |some (.box u cells)=>bif Nat.beq ds.length n&&Nat.ble (off+n) cells.length&&o.dst.isNone then some ⟨.tup [],R.set i (.box u (Ik cells off ds)),none⟩ else none
 |_=>none
def Bc3(R:List Res)(c:Cl)(o:Oper)(i k size off:Nat)(ds:List D)(n:Nat):Option Out:=
 match Pv R c o i k size off ds n with
 |some x=>some x
 |none=>match Q4 R c o i k size off ds n with
  |some x=>some x
  |none=>Q3 R c o i k size off ds n
def Ans(P:Program)(L:List Ent)(cur:A_)(R:List Res)(c:Cl)(o:Oper)(t:TypeId)(a x:Operand):Option Out:=
 bif cur.isEmpty then match look L cur a,(look L cur x).bind G9,A8 P t with
  |some (.d (.o i off)),some ds,some n=>Bc4 R o i off ds n
  |some (.d (.oe i k size off)),some ds,some n=>Bc3 R c o i k size off ds n
  |_,_,_=>none
 else none
def oBS(P:Program)(L:List Ent)(cur:A_)(R:List Res)(c:Cl)(t:TypeId)(len:Nat)(parts:Array (Nat×Operand)):Option Out:=
 match H_ L cur parts.toList with
 |some ps=>He P R c t len ps
 |none=>none
def Aji(P:Program)(L:List Ent)(cur:A_)(R:List Res)(c:Cl)(k:Call):Option Out:=
 match k.callee with
 |.value f=>match look L cur f,Cf L cur k.args.toList with
  |some (.d (.fn (.func g) first caps)),some args=>Cx R (first.map AV.d++args++caps.map AV.d) g c
  |some (.d (.fb (.func g) ps)),some args=>Cx R (.agg (ps.map D.p)::args) g c
  |_,_=>none
 |.builtin .append=>match Cf L cur k.args.toList with
  |some [.d (.oi i g q size off),y]=>Jl P R c k.argTypes.toList i g q size off y
  |some [.d (.osb i 0 n s),y]=>M3 P R c k.argTypes.toList i n s y
  |some args=>M4 P R c k.argTypes.toList args
  |none=>none
 |.builtin .clear=>match Cf L cur k.args.toList with
  |some args=>N_ P R c k.argTypes.toList args
  |none=>none
 |.builtin .copy=>match Cf L cur k.args.toList with
  |some args=>Q6 P R c k.argTypes.toList args
  |none=>none
 |_=>none
def Az9(P:Program)(L:List Ent)(cur:A_)(R:List Res)(c:Cl)(t:TypeId)(l k:Operand):Option Out:=bif Kv l k then Lb P R c t ((look L cur l).bind By) else none
def Wh:Option Out->(Unit->Option Out)->Option Out
 |some x,_=>some x
 |none,f=>f ()
def Akh(P:Program)(L:List Ent)(cur:A_)(R:List Res)(c:Cl)(o:Oper):Option Out:=
 match o.op with
 |.box t x=>A4i P L cur R t x
 |.alloc t=>Ant P R t
 |.store t a x=>Ans P L cur R c o t a x
 |.buildSlice t len parts=>oBS P L cur R c t len parts
 |.makeSlice t l k=>Az9 P L cur R c t l k
 |.convert s d x=>Wh (Jt R (Aje P L cur R c s d x)) λ_=>L6 P R c s d (look L cur x)
 |.call k=>Wh (Jt R (Aas P L cur R c k)) λ_=>Aji P L cur R c k
 |op=>Jt R (Wr P L cur R c op)
theorem Atx:Akh P L cur R c o=H1 P L cur R c o:=by unfold H1;rw[←Akg];unfold Akh;cases o.op <;> simp only[Wr] <;> first|rfl|(split <;> rename_i h <;> simp only[Jt,Wh,h] <;> rfl)|skip
inductive QO where
 |pure (f:List Ent->A_->List Res->Option (AV×Option Cl))
 |call (f:Operand) (xs:List Operand) (fl:Bool)
 |eff (g:List Ent->A_->List Res->Bool->Cl) (f:List Ent->A_->List Res->Cl->Option Out)
def Aay(P:Program):Nat->TypeId->Bool
 |0,_=>false
 |k+1,t=>match P.underlying t with
  |some .bool=>true
  |some (.int _)=>true
  |some .string=>true
  |some (.struct fs)=>fs.toList.all λf=>Aay P k f.type
  |some (.array _ e)=>Aay P k e
  |some (.tuple ts)=>ts.toList.all (Aay P k)
  |_=>false
def Jb(R:List Res):AV->List (List Pd)
 |.d (.p (.s rows))=>rows
 | .d (.os j)=>match R[j]? with
  |some (.sl _ _ rows)=>rows
  |some (.zsl _ _ rows)=>rows
  |some (.dsl _ _ g)=>match R[g]? with
   |some (.gh _ _ rows _)=>rows
   |_=>[]
  |_=>[]
 |.d (.osb j lo n _)=>match R[j]? with
  |some (.sl _ _ rows)=>(rows.drop lo).take n
  |_=>[]
 |_=>[]
def Sl(L:List Ent)(cur:A_)(x:Operand):Int:=match (look L cur x).bind By with
 |some (.int _ n)=>n
 |_=>0
def Aj1(L:List Ent)(cur:A_)(d:Int):Option Operand->Int
 |some x=>Sl L cur x
 |none=>d
def Am5(P:Program)(t:TypeId):List D:=((Dn P t).bind λz=>Fp z.cells.toList).getD []
def Oe(P:Program)(t:TypeId):List Pd:=(dPs (Am5 P t)).getD []
def zAV(P:Program)(t:TypeId):AV:=match P.underlying t with
 |some (.tuple ts)=>.tup (ts.toList.map λu=>((Dn P u).bind L_).getD (.tup []))
 |_=>((Dn P t).bind L_).getD (.tup [])
def Ke(P:Program)(t:TypeId):TypeId:=match P.underlying t with
 |some (.slice e)=>e
 |some (.array _ e)=>e
 |_=>0
def Ta(L:List Ent)(cur:A_)(x:Operand):AV:=(look L cur x).getD (.tup [])
def Be7(P:Program)(L:List Ent)(cur:A_)(R:List Res)(t:TypeId)(x i:Operand):Cl:=.row [] 0 (((Jb R (Ta L cur x))[(Sl L cur i).toNat]?).getD (Oe P (Ke P t)))
def Akx(P:Program)(L:List Ent)(cur:A_)(R:List Res)(x:Operand):Cl:=
 match look L cur x with
 | some (.d (.oe i k _ _))=>match R[i]? with
  |some (.sl e _ rows)=>.row [] 0 ((rows[k]?).getD (Oe P e))
  |some (.dsl e _ g)=>match R[g]? with
   |some (.gh _ _ rows _)=>.row [] 0 ((rows[k]?).getD (Oe P e))
   |_=>.nop
  |_=>.nop
 |_=>.nop
def Ad7(L:List Ent)(cur:A_)(R:List Res)(x:Operand)(lo hi:Option Operand):Cl:=
 match Ta L cur x with
 |.d (.p (.s rows))=>.cut [] 0 0 0 ((rows.take (Aj1 L cur rows.length hi).toNat).drop (Aj1 L cur 0 lo).toNat)
 |.d (.os j)=>.bnd 0 0 0 (Aj1 L cur (Jb R (.d (.os j))).length hi)
 |.d (.osb _ _ n _)=>.bnd 0 0 0 (Aj1 L cur n hi)
 |_=>.nop
def Ac4:List Pd->Bool
 | []=>false
 |.v (.slice _ _ _)::_=>true
 |_::r=>Ac4 r
def Akw(P:Program)(L:List Ent)(cur:A_)(t:TypeId)(l:Operand):Cl:=
 bif Ac4 (Oe P (Ke P t))then .roomZ 0 [] (List.replicate (Sl L cur l).toNat ((Oe P (Ke P t)).map Pd.nz))
 else .room 0 [] (List.replicate (Sl L cur l).toNat (Oe P (Ke P t)))
def Akv(R:List Res)(g m k off:Nat):Cl:=
 match R[g]?,R[m]? with
 |some (.gh _ _ rows _),some (.sl _ _ r1)=>
  let row:=(rows[k]?).getD []
  .updD [] 0 0 row [] (rows.set k (row.take off++(.s r1::row.drop (off+1))))
 |_,_=>.nop
def Ad6(L : List Ent)(cur : A_)(R : List Res)(a x : Operand) : Cl :=
  match Ta L cur a with
  | .d (.oe i k size off)=>match R[i]?,Ta L cur x with
   |some (.dsl _ _ g),.d (.os m)=>Akv R g m k off
   |_,_=>
    let rows:=Jb R (.d (.os i))
    let ps:=match G9 (Ta L cur x) with
      |some [.os m]=>[Pd.s (Jb R (.d (.os m)))]
      |some ds=>(dPs ds).getD []
      |none=>[]
    let row:=(rows[k]?).getD []
    .upd [] 0 row [] (rows.set k (row.take off++(ps++row.drop (off+ps.length))))
  |_=>.nop
def Akz(P : Program)(L : List Ent)(cur : A_)(R : List Res)(k : Call) : Cl :=
 match k.callee with
 | .builtin .append=>match (Cf L cur k.args.toList).getD [] with
  | [.d (.oi _ g k _ off),y]=>match R[g]? with
   |some (.gh _ _ rows _)=>
    let row:=(rows[k]?).getD []
    match row[off]? with
    |some (.s r1)=>.appD [] 0 row 0 r1 [] 0 0 (r1++Jb R y)
    |_=>.nop
   |_=>.nop
  | [x,y]=>.app [] [] 0 0 (Jb R x++Jb R y)
  |_=>.nop
 | .builtin .copy=>match (Cf L cur k.args.toList).getD [] with
  | [x,y]=>match Px R x with
   |some (i,lo,n,_)=>
    let src:=Jb R y
    let m:=Nat.min src.length n
    let rows:=Jb R (.d (.os i))
    .cpy [] 0 0 m [] (rows.take lo++(src.take m++rows.drop (lo+m)))
   |none=>.nop
  |_=>.nop
 | .builtin .clear=>match (Cf L cur k.args.toList).getD [] with
  | [x]=>match Px R x with
   |some (i,lo,n,_)=>
    let rows:=Jb R (.d (.os i))
    .eqr [] (rows.take lo++(List.replicate n ((Oe P (Ke P (k.argTypes.toList.headD 0))).map Pd.nz)++rows.drop (lo+n)))
   |none=>.nop
  |_=>.nop
 |_=>.nop
def noW:Cl->Bool
 |.when _ _=>false
 |.whenR _ _=>false
 |_=>true
theorem Anw:∀{c:Cl},noW c=true->C_ c=c/\isR c=false
 |.when _ _,h=>by cases h
 |.whenR _ _,h=>by cases h
 |.call ..,_=>⟨rfl,rfl⟩
 |.callB ..,_=>⟨rfl,rfl⟩
 |.appD ..,_=>⟨rfl,rfl⟩
 |.updD ..,_=>⟨rfl,rfl⟩
 |.roomZ ..,_=>⟨rfl,rfl⟩
 |.bnd ..,_=>⟨rfl,rfl⟩
 |.bnd3 ..,_=>⟨rfl,rfl⟩
 |.appP ..,_=>⟨rfl,rfl⟩
 |.eqr ..,_=>⟨rfl,rfl⟩
 |.cpy ..,_=>⟨rfl,rfl⟩
 |.row ..,_=>⟨rfl,rfl⟩
 |.upd ..,_=>⟨rfl,rfl⟩
 |.nz ..,_=>⟨rfl,rfl⟩
 |.len ..,_=>⟨rfl,rfl⟩
 |.cut ..,_=>⟨rfl,rfl⟩
 |.room ..,_=>⟨rfl,rfl⟩
 |.app ..,_=>⟨rfl,rfl⟩
 |.own,_=>⟨rfl,rfl⟩
 |.byte ..,_=>⟨rfl,rfl⟩
 |.fnv ..,_=>⟨rfl,rfl⟩
 |.idx ..,_=>⟨rfl,rfl⟩
 |.strb ..,_=>⟨rfl,rfl⟩
 |.flts ..,_=>⟨rfl,rfl⟩
 |.flt ..,_=>⟨rfl,rfl⟩
 |.fltm ..,_=>⟨rfl,rfl⟩
 |.nop,_=>⟨rfl,rfl⟩
def Aso:List (List Pd)->List UInt8
 | []=>[]
 | [.v (.int _ n)]::l=>n.toNat.toUInt8::Aso l
 |_::l=>Aso l
def Aky(P:Program)(L:List Ent)(cur:A_)(R:List Res)(s d:TypeId)(x:Operand):Cl:=
 match P.underlying s,P.underlying d with
 |some (.slice _),some .string=>.strb [] ⟨(Aso (Jb R (Ta L cur x))).toArray⟩
 |some .string,some (.slice _)=>match Ta L cur x with
  |.d (.p (.v (.string b)))=>.room 0 [] (Hf b)
  |_=>.nop
 |_,_=>.nop
def Auc(L:List Ent)(cur:A_)(x i:Operand):Cl:=
 match Ta L cur x with
 |.d (.p (.v (.string b)))=>.byte b 0 ((b.data[(Sl L cur i).toNat]?).getD 0)
 |_=>.nop
theorem Apl{s d:TypeId}:noW (Aky P L cur R s d x)=true:=by
 unfold Aky;split
 .rfl
 .split <;> rfl
 .rfl
theorem Aub:noW (Auc L cur x i)=true:=by unfold Auc;split <;> rfl
def vA(P:Program)(o:Oper):QO:=
 match o.op with
 |.move x=>.pure λL cur R=>Aar P L cur R .nop x
 |.assign x=>.pure λL cur R=>Aar P L cur R .nop x
 |.pick k a b=>.pure λL cur R=>Az3 P L cur R .nop k a b
 |.build t parts=>.pure λL cur R=>Anq P L cur R .nop t parts
 |.nilCheck x=>.pure λL cur R=>A4d P L cur R .nop x
 |.binOp b t x y _=>.pure λL cur R=>Asv P L cur R .nop b t x y
 |.unOp u _ x=>.pure λL cur R=>qUn P L cur R .nop u x
 |.makeFunc f first caps=>.pure λL cur R=>qFn P L cur R .nop f first caps
 |.fieldAddr s x f=>.pure λL cur R=>qFA P L cur R .nop s x f
 |.field s x f=>.pure λL cur R=>qF P L cur R .nop s x f
 |.extract x i=>.pure λL cur R=>qX P L cur R .nop x i
 |.load t x=>.eff (λL cur R _=>Akx P L cur R x) λL cur R c=>Jt R (Az4 P L cur R c t x)
 |.indexAddr t x i=>.eff (λL cur R _=>Be7 P L cur R t x i) λL cur R c=>Jt R (Zn P L cur R c t x i)
 |.index t x i=>.eff (λL cur _ _=>Auc L cur x i) λL cur R c=>Jt R (qI P L cur R c t x i)
 |.slice t x lo hi mx=>.eff (λL cur R _=>Ad7 L cur R x lo hi) λL cur R c=>Jt R (qSl P L cur R c t x lo hi mx)
 |.box t x=>.eff (λ_ _ _ _=>.nop) λL cur R c=>A4i P L cur R t x
 |.alloc t=>.eff (λ_ _ _ _=>.nop) λL cur R c=>Ant P R t
 |.store t a x=>.eff (λL cur R _=>Ad6 L cur R a x) λL cur R c=>Ans P L cur R c o t a x
 |.buildSlice t len parts=>.eff (λ_ _ _ fz=>bif fz then .nop else .own) λL cur R c=>oBS P L cur R c t len parts
 |.makeSlice t l k=>.eff (λL cur R _=>Akw P L cur t l) λL cur R c=>Az9 P L cur R c t l k
 |.convert s d x=>.eff (λL cur R _=>Aky P L cur R s d x) λL cur R c=>Wh (Jt R (Aje P L cur R c s d x)) λ_=>L6 P R c s d (look L cur x)
 |.call k=>match k.callee with
  |.value f=>.call f k.args.toList (Aay P 20 o.type)
  |_=>.eff (λL cur R _=>Akz P L cur R k) λL cur R c=>Wh (Jt R (Aas P L cur R c k)) λ_=>Aji P L cur R c k
 |_=>.eff (λ_ _ _ _=>.nop) λ_ _ _ _=>none
def callee(L:List Ent)(cur:A_)(f:Operand)(xs:List Operand):Option (FuncId×List AV):=
 match look L cur f,Cf L cur xs with
 |some (.d (.fn (.func g) first caps)),some args=>some (g,first.map AV.d++args++caps.map AV.d)
 |some (.d (.fb (.func g) ps)),some args=>some (g,.agg (ps.map D.p)::args)
 |_,_=>none
def QO.run(q:QO)(L:List Ent)(cur:A_)(R:List Res)(c:Cl):Option Out:=
 match q with
 |.pure f=>Jt R (f L cur R)
 |.eff _ f=>f L cur R c
 |.call f xs _=>match callee L cur f xs with
  |some (g,args)=>Cx R args g c
  |none=>none
theorem Yz:(vA P o).run L cur R c=H1 P L cur R c o:=by
 rw[←Atx];unfold vA Akh;cases o.op with
 | call k=>
  obtain⟨cl,args,at_⟩:=k;cases cl with
  | value f=>
   simp only[QO.run,Aas,Jt,Wh,Aji,callee];cases look L cur f with
   |none=>rfl
   | some v=>
    cases Cf L cur args.toList with
    | none=>cases v with
     |d x=>cases x with
      |fn g a b=>cases g <;> rfl
      |fb g a=>cases g <;> rfl
      |_=>rfl
     |_=>rfl
    | some as=>cases v with
     |d x=>cases x with
      |fn g a b=>cases g <;> rfl
      |fb g a=>cases g <;> rfl
      |_=>rfl
     |_=>rfl
  |_=>rfl
 |_=>rfl
theorem Apk:noW (Akx P L cur R x)=true:=by
 unfold Akx;split
 .split
  .rfl
  .split <;> rfl
  .rfl
 .rfl
theorem Apj{t:TypeId}:noW (Akw P L cur t l)=true:=by unfold Akw;cases Ac4 (Oe P (Ke P t)) <;> rfl
theorem Aku{lo hi:Option Operand}:noW (Ad7 L cur R x lo hi)=true:=by unfold Ad7;split <;> rfl
theorem Api{g m k off:Nat}:noW (Akv R g m k off)=true:=by unfold Akv;split <;> rfl
theorem Akt:noW (Ad6 L cur R a x)=true:=by
 unfold Ad6;split
 .split
  .exact Api
  .rfl
 .rfl
theorem Apm{k:Call}:noW (Akz P L cur R k)=true:=by
 unfold Akz;split
 .split
  .split
   .dsimp only;split <;> rfl
   .rfl
  .rfl
  .rfl
 .split
  .split <;> rfl
  .rfl
 .split
  .split <;> rfl
  .rfl
 .rfl
theorem At6{g:List Ent->A_->List Res->Bool->Cl}{f:List Ent->A_->List Res->Cl->Option Out}(h:vA P o=.eff g f)(L:List Ent)(cur:A_)(R:List Res)(fz:Bool):noW (g L cur R fz)=true:=by
 unfold vA at h;split at h
 all_goals first|(cases h;done)|(cases h;rfl)|(cases h;exact Apk)|(cases h;exact Aku)|(cases h;exact Akt)|(cases h;exact Apj)|(cases h;exact Apl)|(cases h;exact Aub)|(cases h;cases fz <;> rfl)|skip
 split at h
 .cases h
 .cases h;exact Apm
end Go.SL
