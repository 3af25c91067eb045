import Derived.Test.YtaplakgdkkmpfaaGreatDoorSlB
namespace Go.SL
abbrev A6:=List (Nat×Bool)
structure Ent where
 t:Nat
 p:A6
 v:AV
 deriving Inhabited
inductive Cl where
 | call (f:FuncId) (args:List AV) (R:List Res) (res:AV) (R2:List Res) (pi:List Nat)
 | callB (f:FuncId) (args:List AV) (res:AV) (rows:List (List Pd)) (k:Nat) (rw:List Pd)
 | appD (rows:List (List Pd)) (k:Nat) (row:List Pd) (off:Nat) (rows1 rows2:List (List Pd)) (size:Nat) (n:Nat) (rows':List (List Pd))
 | updD (rows:List (List Pd)) (k0 k:Nat) (row row':List Pd) (rows':List (List Pd))
 | roomZ (n:Int) (rows rows':List (List Pd))
 | bnd (k:Nat) (lo hi hi2:Int)
 | bnd3 (k:Nat) (lo hi mx:Int)
 | appP (rows src:List (List Pd)) (size n m:Nat) (l rows':List (List Pd))
 | eqr (rows rows':List (List Pd))
 | cpy (src:List (List Pd)) (size n m:Nat) (rows rows':List (List Pd))
 | row (rows:List (List Pd)) (n:Int) (row:List Pd)
 | upd (rows:List (List Pd)) (k:Nat) (row row':List Pd) (rows':List (List Pd))
 | nz (n:Int)
 | len (k n:Int)
 | cut (rows:List (List Pd)) (size:Nat) (lo hi:Int) (rows':List (List Pd))
 | room (n:Int) (rows rows':List (List Pd))
 | app (rows1 rows2:List (List Pd)) (size:Nat) (n:Nat) (rows':List (List Pd))
 | own
 | byte (s:ByteArray) (n:Int) (b:UInt8)
 | fnv (x:Value) (g:FuncId)
 | idx (rows:List (List Pd)) (n:Int) (row:List Pd)
 | strb (rows:List (List Pd)) (s:ByteArray)
 | when (Cq:List (Bool×Bool)) (c:Cl)
 | whenR (Cq:List (Bool×Bool)) (c:Cl)
 | flts (rs:List Res)
 | flt (i:Nat) (r r':Res)
 | fltm (i:Nat) (c:Cl) (r r':Res)
 | nop
 deriving Inhabited
def Cs:List (Bool×Bool)->Prop
 | []=>True
 | (a,b)::r=>a=b/\Cs r
def Cl.keeps:Cl->Prop
 | .call _ _ R _ R2 pi=>R2.take pi.length=R
 | _=>False
def C9 (P:Program) (f:FuncId):Prop:=∀ (args:Array Value) (w:World),(callFunc f args).run P w = .ok (.enter f args) w
def Cl.ok (P:Program):Cl->Prop
 | .call f args R res R2 _=>C9 P f/\CallOk P f args R res R2
 | .callB f args res rows k rw=>(C9 P f/\CallOk P f args [] res [])/\rows[k]? = some rw
 | .appD rows k l0 off rows1 rows2 size n rows'=>(rows[k]? = some l0/\l0[off]? = some (.s rows1))/\(n<=140737488355328/\(∀ l,l∈rows2->l.length=size)/\rows1++rows2=rows')
 | .updD rows k0 k l l' rows'=>k0=k/\rows[k]? = some l/\rows.set k l'=rows'
 | .roomZ n rows rows'=>0<=n/\n<=140737488355328/\rows=rows'
 | .bnd k lo hi hi2=>0<=lo/\lo<=hi/\hi<=k/\hi=hi2
 | .bnd3 k lo hi mx=>0<=lo/\lo<=hi/\hi<=mx/\mx<=k
 | .appP rows src size n m l rows'=>(n+src.length=m/\m<=rows.length)/\(∀ x,x∈src->x.length=size)/\l=rows'
 | .eqr rows rows'=>rows=rows'
 | .cpy src size n m rows rows'=>Nat.min src.length n=m/\(∀ l,l∈src->l.length=size)/\rows=rows'
 | .row rows n l=>0<=n/\rows[n.toNat]? = some l
 | .upd rows k l l' rows'=>rows[k]? = some l/\rows.set k l'=rows'
 | .nz n=>n≠0
 | .len k n=>k=n
 | .cut rows size lo hi rows'=>0<=lo/\lo<=hi/\hi<=rows.length/\(∀ l,l∈rows->l.length=size)/\(rows.take hi.toNat).drop lo.toNat=rows'
 | .room n rows rows'=>0<=n/\n<=140737488355328/\rows=rows'
 | .app rows1 rows2 size n rows'=>n<=140737488355328/\(∀ l,l∈rows2->l.length=size)/\rows1++rows2=rows'
 | .own=>True
 | .byte s n b=>0<=n/\s.data[n.toNat]? = some b
 | .fnv x g=>x = .func (.func g) #[] #[]
 | .idx rows n l=>0<=n/\rows[n.toNat]? = some l
 | .strb rows s=>rows=s.data.toList.map λ b=>[Pd.v (.int .u8 (b.toNat:Int))]
 | .when Cq c=>Cs Cq->c.ok P
 | .whenR Cq c=>(Cs Cq->c.ok P)/\(¬Cs Cq->c.keeps)
 | .flts _=>True
 | .flt _ r r'=>r=r'
 | .fltm _ c r r'=>c.ok P/\r=r'
 | .nop=>True
def B1 (P:Program):List Cl->Prop
 | []=>True
 | c::r=>c.ok P/\B1 P r
def Ct:List Ent->Nat->Option Ent
 | [],_=>none
 | e::r,t=>bif Nat.beq e.t t then some e else Ct r t
def Cm:A6->A6->Bool
 | [],_=>true
 | (a,x)::p,(b,y)::q=>Nat.beq a b&&(x==y)&&Cm p q
 | _::_,[]=>false
def dOf (v:Value):Option D:=bif v.oneCell' then some (.p (.v v)) else none
def Cc:List Value->Option (List D)
 | []=>some []
 | v::r=>match dOf v,Cc r with
  | some d,some ds=>some (d::ds)
  | _,_=>none
def G1:Value->Option AV
 | .agg cs=>(Cc cs.toList).map .agg
 | .tuple _=>none
 | v=>(dOf v).map .d
def Am (L:List Ent) (cur:A6):Operand->Option AV
 | .const v=>G1 v
 | .tmp t=>match Ct L t with
  | some e=>bif Cm e.p cur then some e.v else none
  | none=>none
 | .func f=>some (.d (.fn (.func f) [] []))
 | .global _=>none
def D.norm:D->D
 | .p (.v (.slice none 0 0))=>.p (.s [])
 | d=>d
def AV.norm:AV->AV
 | .d x=>.d x.norm
 | .agg ds=>.agg (ds.map D.norm)
 | .tup l=>.tup l
def Gu:TypeDesc->Bool
 | .struct _ | .array _ _=>true
 | _=>false
def Im (P:Program) (t:TypeId):Option Bool:=(P.underlying t).map Gu
def Aj (P:Program) (t:TypeId):Option Nat:=(P.info? t).map (·.size)
def By (P:Program) (t:TypeId):Option Value:=(P.info? t).bind (·.zero)
def Dd:AV->Option (List D)
 | .d x=>some [x]
 | .agg ds=>some ds
 | .tup _=>none
def Cz (P:Program) (t:TypeId) (ds:List D):Option AV:=
 match Im P t,Aj P t with
 | some true,some n=>bif Nat.beq ds.length n then some (.agg ds) else none
 | some false,some 1=>match ds with
  | [d]=>some (.d d)
  | _=>none
 | _,_=>none
def Gk (cells:List D) (off:Nat) (ds:List D):List D:=cells.take off++(ds++cells.drop (off+ds.length))
def Dt (places:List (Nat×Nat)):List D->List (Nat×List D)->Option (List D)
 | cells,[]=>some cells
 | cells,(i,ds)::r=>match places[i]? with
  | some (off,size)=>bif Nat.beq ds.length size&&Nat.ble (off+ds.length) cells.length then Dt places (Gk cells off ds) r else none
  | none=>none
def uR (k:IntKind) (a b:Int):Int:=k.wrap (BitVec.ofInt k.bits a &&& BitVec.ofInt k.bits b).toNat
def orI (k:IntKind) (a b:Int):Int:=k.wrap (BitVec.ofInt k.bits a ||| BitVec.ofInt k.bits b).toNat
def qI (k:IntKind) (a b:Int):Int:=k.wrap (BitVec.ofInt k.bits a ^^^ BitVec.ofInt k.bits b).toNat
def qP (k:IntKind) (a:Int) (n:Nat):Int:=a.fdiv (2 ^ min n k.bits)
def qQ (k:IntKind) (a:Int) (n:Nat):Int:=k.wrap (a*2 ^ min n k.bits)
def bin (op:BinOp) (x y:Value):Option Value:=
 match op,x,y with
 | .and,.int k a,.int k' b=>if k=k' then some (.int k (uR k a b)) else none
 | .or,.int k a,.int k' b=>if k=k' then some (.int k (orI k a b)) else none
 | .xor,.int k a,.int k' b=>if k=k' then some (.int k (qI k a b)) else none
 | .shr,.int k a,.int _ (.ofNat n)=>some (.int k (qP k a n))
 | .shl,.int k a,.int _ (.ofNat n)=>some (.int k (qQ k a n))
 | .add,.int k a,.int k' b=>if k=k' then some (.int k (k.wrap (a+b))) else none
 | .sub,.int k a,.int k' b=>if k=k' then some (.int k (k.wrap (a-b))) else none
 | .mul,.int k a,.int k' b=>if k=k' then some (.int k (k.wrap (a*b))) else none
 | .eql,.int k a,.int k' b=>if k=k' then some (.bool (a==b)) else none
 | .neq,.int k a,.int k' b=>if k=k' then some (.bool (a != b)) else none
 | .lss,.int k a,.int k' b=>if k=k' then some (.bool (decide (a<b))) else none
 | .leq,.int k a,.int k' b=>if k=k' then some (.bool (decide (a<=b))) else none
 | .gtr,.int k a,.int k' b=>if k=k' then some (.bool (decide (a>b))) else none
 | .geq,.int k a,.int k' b=>if k=k' then some (.bool (decide (a>=b))) else none
 | .eql,.string a,.string b=>some (.bool (a.toList==b.toList))
 | .neq,.string a,.string b=>some (.bool !(a.toList==b.toList))
 | _,_,_=>none
def Y9 (op:BinOp) (x y:Value):Option Value:=
 match op,x,y with
 | .eql,.bool a,.bool b=>some (.bool (a==b))
 | .neq,.bool a,.bool b=>some (.bool !(a==b))
 | _,_,_=>none
def B7 (a b:ByteArray):Int:=bif decide (((a.size+b.size:Nat):Int)<=9223372036854775807) then 1 else 0
def Y8 (op:BinOp) (x y:Value):Option (Value×Int):=
 match op,x,y with
 | .quo,.int k a,.int k' b=>if k=k' then some (.int k (k.wrap (a.tdiv b)),b) else none
 | .rem,.int k a,.int k' b=>if k=k' then some (.int k (a.tmod b),b) else none
 | .add,.string a,.string b=>some (.string (a++b),B7 a b)
 | _,_,_=>none
def un (op:UnOp) (x:Value):Option Value:=
 match op,x with
 | .neg,.int k n=>some (.int k (k.wrap (0-n)))
 | .not,.bool b=>some (.bool !b)
 | _,_=>none
def A0:AV->Option Value
 | .d (.p (.v x))=>some x
 | _=>none
def Gx:List AV->Option (List Value)
 | []=>some []
 | a::r=>match A0 a,Gx r with
  | some x,some xs=>some (x::xs)
  | _,_=>none
def ofV (v:Value):AV:=.d (.p (.v v))
def Ez:AV->Option Bool
 | .d (.p (.v (.bool b)))=>some b
 | _=>none
def Q1:Int->List Value->Option Int
 | m,[]=>some m
 | m,x::r=>match x with
  | .int .i64 y=>Q1 (max m y) r
  | _=>none
def Qx:Int->List Value->Option Int
 | m,[]=>some m
 | m,x::r=>match x with
  | .int .i64 y=>Qx (min m y) r
  | _=>none
mutual
def D.ren (f:Nat->Option Nat):D->Option D
 | .p x=>some (.p x)
 | .o i off=>match f i with
  | some j=>some (.o j off)
  | none=>none
 | .os i=>match f i with
  | some j=>some (.os j)
  | none=>none
 | .oe i k size off=>match f i with
  | some j=>some (.oe j k size off)
  | none=>none
 | .osb i lo n size=>match f i with
  | some j=>some (.osb j lo n size)
  | none=>none
 | .oi i g k size off=>match f i,f g with
  | some j,some q=>some (.oi j q k size off)
  | _,_=>none
 | .ip cells=>some (.ip cells)
 | .fn g a b=>match D.renL f a,D.renL f b with
  | some a',some b'=>some (.fn g a' b')
  | _,_=>none
 | .any=>some .any
 | .nq rows=>some (.nq rows)
def D.renL (f:Nat->Option Nat):List D->Option (List D)
 | []=>some []
 | d::r=>match D.ren f d,D.renL f r with
  | some d',some r'=>some (d'::r')
  | _,_=>none
end
mutual
def AV.ren (f:Nat->Option Nat):AV->Option AV
 | .d x=>match x.ren f with
  | some y=>some (.d y)
  | none=>none
 | .agg ds=>match D.renL f ds with
  | some es=>some (.agg es)
  | none=>none
 | .tup l=>match AV.renL f l with
  | some m=>some (.tup m)
  | none=>none
def AV.renL (f:Nat->Option Nat):List AV->Option (List AV)
 | []=>some []
 | a::r=>match AV.ren f a,AV.renL f r with
  | some a',some r'=>some (a'::r')
  | _,_=>none
end
def Res.ren (f:Nat->Option Nat):Res->Option Res
 | .box t cells=>match D.renL f cells with
  | some cs=>some (.box t cs)
  | none=>none
 | .sl e size rows=>some (.sl e size rows)
 | .zsl e size rows=>some (.zsl e size rows)
 | .dsl e size g=>match f g with
  | some q=>some (.dsl e size q)
  | none=>none
 | .gh size tys rows hole=>some (.gh size tys rows hole)
 | .non=>some .non
def Dr (f:Nat->Option Nat):List Res->Option (List Res)
 | []=>some []
 | r::l=>match r.ren f,Dr f l with
  | some r',some l'=>some (r'::l')
  | _,_=>none
def idxOf:List Nat->Nat->Option Nat
 | [],_=>none
 | a::r,i=>bif Nat.beq a i then some 0 else match idxOf r i with
  | some j=>some (j+1)
  | none=>none
def Cf:List Nat->Bool
 | []=>true
 | a::r=>(idxOf r a).isNone&&Cf r
def Er (R:List Res):List Nat->Option (List Res)
 | []=>some []
 | i::r=>match R[i]?,Er R r with
  | some x,some xs=>some (x::xs)
  | _,_=>none
def Cd (pi:List Nat) (n:Nat) (j:Nat):Option Nat:=
 match pi[j]? with
 | some i=>some i
 | none=>some (n+(j-pi.length))
def B5:List Res->List Nat->List Res->List Res
 | R,i::pi,r::l=>B5 (R.set i r) pi l
 | R,_,_=>R
structure Out where
 v:AV
 R:List Res
 c:Option Cl
 deriving Inhabited
def Em (R:List Res):D->Option Pd
 | .p x=>some x
 | .os i=>match R[i]? with
  | some (.sl _ _ rows)=>some (.s rows)
  | some (.zsl _ _ rows)=>some (.s rows)
  | _=>none
 | _=>none
def Da (R:List Res):List D->Option (List Pd)
 | []=>some []
 | d::r=>match Em R d,Da R r with
  | some x,some l=>some (x::l)
  | _,_=>none
mutual
def D.view (R:List Res) (rw:List Pd):D->Option D
 | .p x=>some (.p x)
 | .ip c=>some (.ip c)
 | .os i=>match R[i]? with
  | some (.sl _ _ rows)=>some (.p (.s rows))
  | some (.zsl _ _ rows)=>some (.p (.s rows))
  | _=>none
 | .o i off=>match R[i]? with
  | some (.box _ cells)=>match Da R cells with
   | some ps=>some (.ip (ps.drop off))
   | none=>none
  | _=>none
 | .oe _ _ _ _=>none
 | .osb i lo n size=>match R[i]? with
  | some (.sl _ s rows)=>bif Nat.beq s size then some (.p (.s ((rows.drop lo).take n))) else none
  | _=>none
 | .oi _ g _ size off=>match R[g]? with
  | some (.gh s _ _ none)=>bif Nat.beq s size&&Nat.blt off s then match rw[off]? with
   | some (.s r)=>some (.p (.s r))
   | _=>none
   else none
  | _=>none
 | .fn g a b=>match D.viewL R rw a,D.viewL R rw b with
  | some a',some b'=>some (.fn g a' b')
  | _,_=>none
 | .any=>some .any
 | .nq rows=>some (.nq rows)
def D.viewL (R:List Res) (rw:List Pd):List D->Option (List D)
 | []=>some []
 | d::r=>match D.view R rw d,D.viewL R rw r with
  | some d',some r'=>some (d'::r')
  | _,_=>none
end
def AV.view (R:List Res) (rw:List Pd):AV->Option AV
 | .d x=>match x.view R rw with
  | some y=>some (.d y)
  | none=>none
 | .agg ds=>match D.viewL R rw ds with
  | some es=>some (.agg es)
  | none=>none
 | .tup _=>none
def AV.viewL (R:List Res) (rw:List Pd):List AV->Option (List AV)
 | []=>some []
 | a::r=>match AV.view R rw a,AV.viewL R rw r with
  | some a',some r'=>some (a'::r')
  | _,_=>none
def D.flat:D->Bool
 | .p (.v _)=>true
 | _=>false
mutual
def AV.flat:AV->Bool
 | .d x=>x.flat
 | .agg ds=>ds.all D.flat
 | .tup l=>cx l
def cx:List AV->Bool
 | []=>true
 | a::r=>a.flat&&cx r
end
mutual
def D.ois:D->List (Nat×Nat)
 | .oi _ g k _ _=>[(g,k)]
 | .fn _ a b=>cd a++cd b
 | _=>[]
def cd:List D->List (Nat×Nat)
 | []=>[]
 | d::r=>D.ois d++cd r
end
def AV.ois:AV->List (Nat×Nat)
 | .d x=>x.ois
 | .agg ds=>cd ds
 | .tup _=>[]
def oisL:List AV->List (Nat×Nat)
 | []=>[]
 | a::r=>a.ois++oisL r
def Cu (R : List Res) (args : List AV) (f : FuncId) : Cl -> Option Out
 | .callB f' _ res _ _ rw=>bif Nat.beq f f'&&res.flat then
   match oisL args with
   | []=>match AV.viewL R [] (args.map AV.norm) with
    | some args'=>some ⟨res,R,some (.callB f args' res [[]] 0 [])⟩
    | none=>none
   | [(g,k)]=>match R[g]?,AV.viewL R rw (args.map AV.norm) with
    | some (.gh _ _ rows none),some args'=>some ⟨res,R,some (.callB f args' res rows k rw)⟩
    | _,_=>none
   | _=>none
  else none
 | .call f' _ _ res R2 pi=>
  bif Nat.beq f f'&&Cf pi&&Nat.ble pi.length R2.length then
   match AV.renL (idxOf pi) (args.map AV.norm),Er R pi with
   | some args',some Rp=>match Dr (idxOf pi) Rp,res.ren (Cd pi R.length),Dr (Cd pi R.length) R2 with
    | some Rp',some res',some R2'=>some ⟨res',B5 R pi R2'++R2'.drop pi.length,some (.call f args' Rp' res R2 pi)⟩
    | _,_,_=>none
   | _,_=>none
  else none
 | _=>none
def Bv (L:List Ent) (cur:A6):List Operand->Option (List AV)
 | []=>some []
 | x::r=>match Am L cur x,Bv L cur r with
  | some a,some l=>some (a::l)
  | _,_=>none
def Ef (L:List Ent) (cur:A6):List (Nat×Operand)->Option (List (Nat×List D))
 | []=>some []
 | (i,x)::r=>match (Am L cur x).bind Dd,Ef L cur r with
  | some a,some l=>some ((i,a)::l)
  | _,_=>none
def H4 (P:Program) (s:TypeId) (f:Nat):Option (Nat×TypeId):=
 match P.underlying s with
 | some (.struct fields)=>match fields[f]? with
  | some x=>some (x.offset,x.type)
  | none=>none
 | _=>none
def E6 (P:Program):List Field->Option (List (Nat×Nat))
 | []=>some []
 | f::r=>match Aj P f.type,E6 P r with
  | some n,some l=>some ((f.offset,n)::l)
  | _,_=>none
def Fp (R:List Res):List AV->Option Int
 | [.d (.p (.s rows))]=>some rows.length
 | [.d (.p (.v (.slice none 0 _)))]=>some 0
 | [.d (.os i)]=>match R[i]? with
  | some (.sl _ _ rows)=>some rows.length
  | some (.dsl _ s g)=>match R[g]? with
   | some (.gh s2 _ rows _)=>bif Nat.beq s s2&&Nat.blt 0 s then some rows.length else none
   | _=>none
  | _=>none
 | [.d (.osb _ _ n _)]=>some n
 | _=>none
def Rh:List AV->Option Int
 | [.d (.p (.v (.string s)))]=>some s.size
 | _=>none
def uH (b:Builtin) (l:List AV):Option Int:=
 match Gx l with
 | some (.int .i64 x::r)=>match b with
  | .max=>Q1 x r
  | .min=>Qx x r
  | _=>none
 | _=>none
def Fj (ops : Array Oper) (L : List Ent) (o : Oper) : Option A6 :=
 match o.guard with
 | none=>some []
 | some (j,want)=>match (ops[j]?).bind (·.dst) with
  | none=>none
  | some t=>match Ct L t with
   | some e=>match Ez e.v with
    | some _=>some (e.p++[(t,want)])
    | none=>none
   | none=>none
def Cq (L:List Ent):A6->Option (List (Bool×Bool))
 | []=>some []
 | (t,want)::p=>match Ct L t with
  | some e=>match Ez e.v,Cq L p with
   | some c,some l=>some ((c,want)::l)
   | _,_=>none
  | none=>none
def N7:Operand->Bool
 | .const (.bool b)=>b
 | _=>false
def Mb:Operand->Bool
 | .const (.bool b)=>!b
 | _=>false
def Rf (L : List Ent) (cur : A6) (c a b : Operand) : Option AV :=
 match c with
 | .tmp t=>match (Am L cur (.tmp t)).bind Ez with
  | some x=>
   bif N7 a then match (Am L (cur++[(t,false)]) b).bind Ez with
    | some y=>some (ofV (.bool (x || y)))
    | none=>none
   else bif Mb b then match (Am L (cur++[(t,true)]) a).bind Ez with
    | some y=>some (ofV (.bool (x&&y)))
    | none=>none
   else none
  | none=>none
 | _=>none
def Od (P : Program) (same : TypeId -> AV -> AV -> Option Bool) : List Field -> List D -> List D -> Option Bool
 | [],_,_=>some true
 | f :: fs, ds, es => bif f.name == "_" then Od P same fs ds es else match Aj P f.type with
  | some n=>match Cz P f.type ((ds.drop f.offset).take n),Cz P f.type ((es.drop f.offset).take n) with
   | some a,some b=>match same f.type a b,Od P same fs ds es with
    | some r,some q=>some (r&&q)
    | _,_=>none
   | _,_=>none
  | none=>none
def eqA (P:Program):Nat->TypeId->AV->AV->Option Bool
 | 0,_,_,_=>none
 | m+1,t,a,b=>match P.underlying t with
  | some .bool=>match a,b with
   | .d (.p (.v (.bool x))),.d (.p (.v (.bool y)))=>some (x==y)
   | _,_=>none
  | some (.int _)=>match a,b with
   | .d (.p (.v (.int k x))),.d (.p (.v (.int k' y)))=>if k=k' then some (x==y) else none
   | _,_=>none
  | some .string=>match a,b with
   | .d (.p (.v (.string x))),.d (.p (.v (.string y)))=>some (x.toList==y.toList)
   | _,_=>none
  | some (.struct fs)=>match a,b with
   | .agg ds,.agg es=>bif P.stoodInHeld t then none else Od P (eqA P m) fs.toList ds es
   | _,_=>none
  | _=>none
def Zt (P:Program) (L:List Ent) (cur:A6) (b:BinOp) (t:TypeId) (x y:Operand):Option (AV×Option Cl):=
 match Am L cur x,Am L cur y with
 | some (.d (.p (.s rows))),some (.d (.p (.v (.slice none 0 0))))=>match b,P.underlying t with
  | .eql,some (.slice _)=>some (.d (.nq rows),none)
  | _,_=>none
 | some (.agg ds),some (.agg es)=>bif P.eqGuardType P.depth t then none else match b with
  | .eql=>(eqA P 100 t (.agg ds) (.agg es)).map λ z=>(ofV (.bool z),none)
  | .neq=>(eqA P 100 t (.agg ds) (.agg es)).map λ z=>(ofV (.bool !z),none)
  | _=>none
 | _,_=>none
def Dk (i g k size:Nat):Nat->List Pd->List D
 | _,[]=>[]
 | off,.v x::r=>.p (.v x)::Dk i g k size (off+1) r
 | off,.s _::r=>.oi i g k size off::Dk i g k size (off+1) r
def fnV (P:Program) (t:TypeId) (c:Cl) (v:AV):Option (AV×Option Cl):=
 match v,c,P.underlying t with
 | .d (.p (.v y)),.fnv _ g,some (.func _ _ _)=>some (.d (.fn (.func g) [] []),some (.fnv y g))
 | v,_,_=>some (v,none)
def J_ (P:Program) (L:List Ent) (cur:A6) (R:List Res) (c:Cl) (t:TypeId) (x:Operand):Option (AV×Option Cl):=
 match Am L cur x,Aj P t with
 | some (.d (.o i off)),some n=>match R[i]? with
  | some (.box _ cells)=>(Cz P t ((cells.drop off).take n)).bind (fnV P t c)
  | _=>none
 | some (.d (.ip cells)),some n=>(Cz P t ((cells.take n).map D.p)).map λ v=>(v,none)
 | some (.d (.oe i k size off)),some n=>match R[i]?,c with
  | some (.sl _ s rows),.row _ _ row=>bif Nat.beq s size then (Cz P t (((row.drop off).take n).map D.p)).map λ v=>(v,some (.row rows k row)) else none
  | some (.dsl _ s g),.row _ _ row=>match R[g]? with
   | some (.gh s2 _ rows none)=>bif Nat.blt 0 s&&(Nat.beq s size&&Nat.beq s s2) then (Cz P t (Dk i g k size off ((row.drop off).take n))).map λ v=>(v,some (.row rows k row)) else none
   | _=>none
  | _,_=>none
 | _,_=>none
def Un (P:Program) (L:List Ent) (cur:A6) (R:List Res) (c:Cl) (t:TypeId) (x i:Operand):Option (AV×Option Cl):=
 match P.underlying t,Am L cur x,(Am L cur i).bind A0 with
 | some (.slice e),some (.d (.p (.s rows))),some (.int _ n)=>match c with
  | .row _ _ row=>match Aj P e with
   | some (k+1)=>bif Nat.beq row.length (k+1) then some (.d (.ip row),some (.row rows n row)) else none
   | _=>none
  | _=>none
 | some (.slice e),some (.d (.os j)),some (.int _ n)=>match R[j]?,c with
  | some (.sl _ s rows),.row _ _ row=>match Aj P e with
   | some (k+1)=>bif Nat.beq s (k+1) then some (.d (.oe j n.toNat (k+1) 0),some (.row rows n row)) else none
   | _=>none
  | some (.dsl _ s g),.row _ _ row=>match Aj P e,R[g]? with
   | some (k+1),some (.gh s2 _ rows _)=>bif Nat.beq s (k+1)&&Nat.beq s s2 then some (.d (.oe j n.toNat (k+1) 0),some (.row rows n row)) else none
   | _,_=>none
  | _,_=>none
 | some (.array m e),some (.d (.o j off)),some (.int _ (.ofNat k))=>match Aj P e with
  | some s=>bif Nat.blt k m then some (.d (.o j (off+k*s)),none) else none
  | _=>none
 | some (.array m e),some (.d (.ip cells)),some (.int _ (.ofNat k))=>match Aj P e with
  | some s=>bif Nat.blt k m then some (.d (.ip (cells.drop (k*s))),none) else none
  | _=>none
 | _,_,_=>none
def dP:D->Option Pd
 | .p x=>some x
 | .fn f [] []=>some (.v (.func f #[] #[]))
 | _=>none
def dPs:List D->Option (List Pd)
 | []=>some []
 | d::r=>match dP d,dPs r with
  | some x,some l=>some (x::l)
  | _,_=>none
def Bh {α:Type} (size:Nat):Nat->List α->List (List α)
 | 0,_=>[]
 | n+1,l=>l.take size::Bh size n (l.drop size)
def W5 (P:Program) (n:Nat) (e:TypeId) (ds:List D) (k:Int) (row:List Pd):Option (AV×Option Cl):=
 match Aj P e,dPs ds with
 | some (s+1),some ps=>bif Nat.beq ps.length (n*(s+1)) then (Cz P e (row.map D.p)).map λ v=>(v,some (.idx (Bh (s+1) n ps) k row)) else none
 | _,_=>none
def Ug:Cl->Option (List Pd)
 | .idx _ _ row=>some row
 | _=>none
def M_ (P:Program) (L:List Ent) (cur:A6) (R:List Res) (c:Cl) (s d:TypeId) (x:Operand):Option (AV×Option Cl):=
 match P.underlying s,P.underlying d,c with
 | some (.slice e),some .string,.strb _ b=>match P.underlying e,Am L cur x with
  | some (.int .u8),some (.d (.os i))=>match R[i]? with
   | some (.sl _ z rows)=>bif Nat.beq z 1 then some (ofV (.string b),some (.strb rows b)) else none
   | _=>none
  | some (.int .u8),some (.d (.p (.s rows)))=>some (ofV (.string b),some (.strb rows b))
  | _,_=>none
 | _,_,_=>none
def Ap (P : Program) (L : List Ent) (cur : A6) (R : List Res) (c : Cl) (op : Op) : Option (AV × Option Cl) :=
 match op with
 | .move x | .assign x=>(Am L cur x).map λ v=>(v,none)
 | .pick k a b=>(Rf L cur k a b).map λ v=>(v,none)
 | .build t parts=>match (By P t).bind λ z=>Cc z.cells.toList,P.underlying t,Ef L cur parts.toList with
  | some zs,some (.struct fields),some ps=>match (E6 P fields.toList).bind λ pl=>Dt pl zs ps with
   | some ds=>some (.agg ds,none)
   | none=>none
  | some zs,some (.array n e),some ps=>match Aj P e with
   | some s=>match Dt ((List.range n).map λ i=>(i*s,s)) zs ps with
    | some ds=>some (.agg ds,none)
    | none=>none
   | none=>none
  | _,_,_=>none
 | .load t (.global g)=>match N8 g,Aj P t with
  | some cells,some n=>(Cz P t ((cells.take n).map D.p)).map λ v=>(v,none)
  | _,_=>none
 | .load t x=>J_ P L cur R c t x
 | .nilCheck x=>match Am L cur x with
  | some (.d (.o i off))=>some (.d (.o i off),none)
  | some (.d (.oe i k s off))=>some (.d (.oe i k s off),none)
  | some (.d (.ip cells))=>some (.d (.ip cells),none)
  | _=>none
 | .binOp b t x y _=>match (Am L cur x).bind A0,(Am L cur y).bind A0 with
  | some u,some v=>match bin b u v with
   | some z=>some (ofV z,none)
   | none=>match Y8 b u v with
    | some (z,n)=>some (ofV z,some (.nz n))
    | none=>match P.underlying t with
     | some .bool=>(Y9 b u v).map λ z=>(ofV z,none)
     | _=>none
  | _,_=>Zt P L cur b t x y
 | .unOp u _ x=>match (Am L cur x).bind A0 with
  | some v=>(un u v).map λ z=>(ofV z,none)
  | none=>none
 | .convert s d x=>match P.underlying s,P.underlying d,(Am L cur x).bind A0 with
  | some (.int _),some (.int k),some (.int _ n)=>some (ofV (.int k (k.wrap n)),none)
  | _,_,_=>M_ P L cur R c s d x
 | .makeFunc f first caps=>match Bv L cur first.toList,Bv L cur caps.toList with
  | some a,some b=>match (a.mapM fun | .d x=>some x | _=>none),(b.mapM fun | .d x=>some x | _=>none) with
   | some a',some b'=>some (.d (.fn f a' b'),none)
   | _,_=>none
  | _,_=>none
 | .fieldAddr s x f=>match Am L cur x,H4 P s f with
  | some (.d (.o i off)),some (k,ft)=>match Aj P ft with
   | some (_+1)=>some (.d (.o i (off+k)),none)
   | _=>none
  | some (.d (.ip cells)),some (k,ft)=>match Aj P ft with
   | some (_+1)=>some (.d (.ip (cells.drop k)),none)
   | _=>none
  | some (.d (.oe i r size off)),some (k,ft)=>match Aj P ft with
   | some (_+1)=>some (.d (.oe i r size (off+k)),none)
   | _=>none
  | _,_=>none
 | .field s x f=>match Am L cur x,H4 P s f with
  | some (.agg ds),some (k,ft)=>match Aj P ft with
   | some n=>(Cz P ft ((ds.drop k).take n)).map λ v=>(v,none)
   | none=>none
  | _,_=>none
 | .indexAddr t x i=>Un P L cur R c t x i
 | .index t x i=>match P.underlying t,Am L cur x,(Am L cur i).bind A0 with
  | some (.array n e),some (.agg ds),some (.int _ kk)=>match Ug c with
   | some row=>W5 P n e ds kk row
   | none=>match kk,Aj P e with
    | .ofNat k,some s=>bif Nat.blt k n&&Nat.ble ((k+1)*s) ds.length then (Cz P e ((ds.drop (k*s)).take s)).map λ v=>(v,none) else none
    | _,_=>none
  | some .string,some (.d (.p (.v (.string s)))),some (.int _ n)=>match c with
   | .byte _ _ b=>some (ofV (.int .u8 b.toNat),some (.byte s n b))
   | _=>none
  | _,_,_=>none
 | .extract x i=>match Am L cur x with
  | some (.tup l)=>(l[i]?).map λ v=>(v,none)
  | _=>none
 | .slice t x lo hi none=>match P.underlying t,Am L cur x with
  | some (.slice e),some (.d (.p (.s rows)))=>match Aj P e,(match lo with | none=>some (Value.int .i64 0) | some y=>(Am L cur y).bind A0),(match hi with | none=>some (Value.int .i64 rows.length) | some y=>(Am L cur y).bind A0) with
   | some n,some (.int _ l),some (.int _ h)=>match c with
    | .cut _ _ _ _ rows'=>some (.d (.p (.s rows')),some (.cut rows n l h rows'))
    | _=>none
   | _,_,_=>none
  | some (.slice e),some (.d (.os i))=>match R[i]? with
   | some (.sl _ s rows)=>match Aj P e,(match lo with | none=>some (Value.int .i64 0) | some y=>(Am L cur y).bind A0),(match hi with | none=>some (Value.int .i64 rows.length) | some y=>(Am L cur y).bind A0) with
    | some n,some (.int _ l),some (.int _ h)=>match c with
     | .bnd _ _ _ h2=>bif Nat.beq s n then some (.d (.osb i l.toNat (h2.toNat-l.toNat) n),some (.bnd rows.length l h h2)) else none
     | _=>none
    | _,_,_=>none
   | _=>none
  | some (.slice e),some (.d (.osb i o0 n0 s0))=>match R[i]? with
   | some (.sl _ s rows)=>match Aj P e,(match lo with | none=>some (Value.int .i64 0) | some y=>(Am L cur y).bind A0),(match hi with | none=>some (Value.int .i64 n0) | some y=>(Am L cur y).bind A0) with
    | some n,some (.int _ l),some (.int _ h)=>match c with
     | .bnd _ _ _ h2=>bif Nat.beq s n&&Nat.beq s0 n then some (.d (.osb i (o0+l.toNat) (h2.toNat-l.toNat) n),some (.bnd (rows.length-o0) l h h2)) else none
     | _=>none
    | _,_,_=>none
   | _=>none
  | some .string,some (.d (.p (.v (.string s))))=>match (match lo with | none=>some (Value.int .i64 0) | some y=>(Am L cur y).bind A0),(match hi with | none=>some (Value.int .i64 s.size) | some y=>(Am L cur y).bind A0) with
   | some (.int _ l),some (.int _ h)=>match c with
    | .bnd _ _ _ h2=>some (ofV (.string (s.extract l.toNat h2.toNat)),some (.bnd s.size l h h2))
    | _=>none
   | _,_=>none
  | _,_=>none
 | .slice t x (some lo) (some hi) (some mx)=>match P.underlying t,Am L cur x with
  | some (.slice e),some (.d (.os i))=>match R[i]? with
   | some (.sl _ _ rows)=>match (Am L cur lo).bind A0,(Am L cur hi).bind A0,(Am L cur mx).bind A0 with
    | some (.int _ l),some (.int _ h),some (.int _ m)=>match c,Aj P e with
     | .bnd3 _ _ _ _,some _=>some (.d .any,some (.bnd3 rows.length l h m))
     | _,_=>none
    | _,_,_=>none
   | _=>none
  | _,_=>none
 | .call k=>match k.callee with
  | .builtin b=>match Bv L cur k.args.toList with
   | some args=>match b,k.argTypes[0]? with
    | .len,some t=>match P.underlying t with
     | some (.slice _)=>match c with
      | .len _ n=>(Fp R args).map λ k=>(ofV (.int .i64 n),some (.len k n))
      | _=>(Fp R args).map λ n=>(ofV (.int .i64 n),none)
     | some .string=>(Rh args).map λ n=>(ofV (.int .i64 n),none)
     | _=>none
    | _,_=>(uH b args).map λ n=>(ofV (.int .i64 n),none)
   | none=>none
  | _=>none
 | _=>none
def Bt {α:Type}:Nat->List α->List α
 | 0,_=>[]
 | n+1,l=>l++Bt n l
def Pd.nz:Pd->Pd
 | .v (.slice none 0 0)=>.s []
 | x=>x
def Ky:Cl->Bool
 | .own=>true
 | _=>false
def C3 (P : Program) (R : List Res) (c : Cl) (t : TypeId) (len : Nat) (parts : List (Nat × List D)) : Option Out :=
 match P.underlying t with
 | some (.slice e)=>match Aj P e,(By P e).bind λ z=>Cc z.cells.toList with
  | some (size+1),some zs=>
   bif Nat.beq zs.length (size+1)&&Nat.ble (len*(size+1)) 16777216 then
    match (Dt ((List.range len).map λ i=>(i*(size+1),size+1)) (Bt len zs) parts).bind dPs with
    | some ps=>bif Ky c then some ⟨.d (.os R.length),R++[.sl e (size+1) (Bh (size+1) len (ps.map Pd.nz))],some .own⟩ else some ⟨.d (.p (.s (Bh (size+1) len (ps.map Pd.nz)))),R,none⟩
    | none=>none
   else none
  | _,_=>none
 | _=>none
def Db (R:List Res) (size:Nat):AV->Option (List (List Pd))
 | .d (.p (.s rows))=>some rows
 | .d (.p (.v (.slice none 0 0)))=>some []
 | .d (.os i)=>match R[i]? with
  | some (.sl _ s rows)=>bif Nat.beq s size then some rows else none
  | _=>none
 | .d (.osb i lo n s2)=>match R[i]? with
  | some (.sl _ s rows)=>bif Nat.beq s size&&Nat.beq s2 s then some ((rows.drop lo).take n) else none
  | _=>none
 | _=>none
def Bj (P : Program) (R : List Res) (c : Cl) (ts : List TypeId) (args : List AV) : Option Out :=
 match ts,args with
 | [t, u], [x, y] => bif Nat.beq t u then match P.underlying t with
  | some (.slice e)=>match Aj P e,(P.info? e).map (·.bytes),(By P e).map (λ z=>z.cells.size) with
   | some (size+1),some bytes,some zn=>match c,Db R (size+1) y with
    | .app _ _ _ _ rows',some rows2=>bif Nat.beq zn (size+1) then match x with
     | .d (.p (.v (.slice none 0 0)))=>some ⟨.d (.os (R.length+1)),R++[.non,.sl e (size+1) rows'],some (.app [] rows2 (size+1) (rows2.length*(bytes+1)) rows')⟩
     | .d (.os i)=>match R[i]? with
      | some (.sl e' s' rows)=>bif Nat.beq e' e&&Nat.beq s' (size+1) then some ⟨.d (.os R.length),R.set i .non++[.sl e (size+1) rows'],some (.app rows rows2 (size+1) ((rows.length+rows2.length)*(bytes+1)) rows')⟩ else none
      | _=>none
     | _=>none
     else none
    | _,_=>none
   | _,_,_=>none
  | _=>none
  else none
 | _,_=>none
def zB:Pd->Bool
 | .v (.slice none 0 0)=>true
 | .v (.slice _ _ _)=>false
 | .v _=>true
 | .s _=>false
def Ei (P:Program) (R:List Res) (c:Cl) (ts:List TypeId) (i g k size off:Nat) (y:AV):Option Out:=
 match R[i]?,R[g]?,c with
 | some (.dsl e s g'),some (.gh s2 tys rows none),.appD _ _ row _ r1 r2 sz n rows'=>match tys[off]? with
  | some (e2,sz2)=>bif (Nat.beq g g'&&Nat.beq s s2)&&(Nat.beq s size&&Nat.blt off s) then
   match Bj P ((R.set g .non).set i (.dsl e s R.length)++[.gh s tys rows (some (k,off)),.sl e2 sz2 r1]) (.app r1 r2 sz n rows') ts [.d (.os (R.length+1)),y] with
   | some ⟨v,R',some (.app _ b z m r')⟩=>some ⟨v,R',some (.appD rows k row off r1 b z m r')⟩
   | _=>none
   else none
  | none=>none
 | _,_,_=>none
def J9 (R : List Res) (c : Cl) (o : Oper) (i k size off : Nat) (ds : List D) (n : Nat) : Option Out :=
 match R[i]?,ds,c with
 | some (.dsl e s g),[.os m],.updD _ _ _ row _ rows'=>match R[g]?,R[m]? with
  | some (.gh s2 tys rows (some (k0,off0))),some (.sl e2 sz2 r1)=>match tys[off]? with
   | some (e3,sz3)=>
    bif (Nat.beq s size&&Nat.beq s s2)&&((Nat.beq off off0&&Nat.beq n 1)&&((Nat.blt off s&&o.dst.isNone)&&(Nat.beq e2 e3&&Nat.beq sz2 sz3))) then
     some ⟨.tup [],(((R.set m .non).set g .non).set i (.dsl e s R.length))++[.gh s tys rows' none],some (.updD rows k0 k row (row.take off++(.s r1::row.drop (off+1))) rows')⟩
    else none
   | none=>none
  | _,_=>none
 | _,_,_=>none
def Eh (P : Program) (R : List Res) (c : Cl) (ts : List TypeId) (i n s : Nat) (y : AV) : Option Out :=
 match ts with
 | [t, u] => bif Nat.beq t u then match P.underlying t with
  | some (.slice e)=>match Aj P e,Db R s y,R[i]? with
   | some (size+1),some src,some (.sl e' s' rows)=>match c with
    | .appP _ _ _ _ m _ rows'=>bif Nat.beq s' s&&Nat.beq s (size+1) then
      some ⟨.d (.osb i 0 m s),R.set i (.sl e' s' rows'),some (.appP rows src s n m (rows.take n++(src++rows.drop (n+src.length))) rows')⟩
     else none
    | _=>none
   | _,_,_=>none
  | _=>none
  else none
 | _=>none
def K2 (R:List Res):AV->Option (Nat×Nat×Nat×Nat)
 | .d (.os i)=>match R[i]? with
  | some (.sl _ s rows)=>some (i,0,rows.length,s)
  | _=>none
 | .d (.osb i lo n s)=>some (i,lo,n,s)
 | _=>none
def H6 (P : Program) (R : List Res) (c : Cl) (ts : List TypeId) (args : List AV) : Option Out :=
 match ts,args with
 | [t], [x] => match P.underlying t with
  | some (.slice e)=>match Aj P e,(By P e).bind λ z=>Cc z.cells.toList,K2 R x with
   | some (size+1),some zd,some (i,lo,n,s)=>match dPs zd,R[i]?,c with
    | some zs,some (.sl e' s2 rows),.eqr _ rows'=>bif (Nat.beq s s2&&Nat.beq s (size+1))&&Nat.beq zs.length (size+1) then
      some ⟨.tup [],R.set i (.sl e' s2 rows'),some (.eqr (rows.take lo++(List.replicate n (zs.map Pd.nz)++rows.drop (lo+n))) rows')⟩
     else none
    | _,_,_=>none
   | _,_,_=>none
  | _=>none
 | _,_=>none
def Ka (P : Program) (R : List Res) (c : Cl) (ts : List TypeId) (args : List AV) : Option Out :=
 match ts,args with
 | t :: _, [x, y] => match P.underlying t with
  | some (.slice e)=>match Aj P e,K2 R x with
   | some (size+1),some (i,lo,n,s)=>match Db R (size+1) y,R[i]?,c with
    | some src,some (.sl e' s2 rows),.cpy _ _ _ m _ rows'=>bif Nat.beq s s2&&Nat.beq s (size+1) then
      some ⟨ofV (.int .i64 m),R.set i (.sl e' s2 rows'),some (.cpy src (size+1) n m (rows.take lo++(src.take m++rows.drop (lo+m))) rows')⟩
     else none
    | _,_,_=>none
   | _,_=>none
  | _=>none
 | _,_=>none
def Fo (P:Program) (R:List Res) (c:Cl) (t:TypeId) (len:Option Value):Option Out:=
 match P.underlying t,len,c with
 | some (.slice e),some (.int .i64 l),.room _ _ rows'=>match Aj P e,(P.info? e).map (·.bytes),(By P e).bind λ z=>Cc z.cells.toList with
  | some (size+1),some bytes,some ds=>match dPs ds with
   | some zs=>bif Nat.beq zs.length (size+1) then some ⟨.d (.os R.length),R++[.sl e (size+1) rows'],some (.room (l*(bytes+1)) (List.replicate l.toNat zs) rows')⟩ else none
   | none=>none
  | _,_,_=>none
 | some (.slice e),some (.int .i64 l),.roomZ _ _ rows'=>match Aj P e,(P.info? e).map (·.bytes),(By P e).bind λ z=>Cc z.cells.toList with
  | some (size+1),some bytes,some ds=>match dPs ds with
   | some zs=>bif Nat.beq zs.length (size+1)&&zs.all zB then some ⟨.d (.os R.length),R++[.zsl e (size+1) rows'],some (.roomZ (l*(bytes+1)) (List.replicate l.toNat (zs.map Pd.nz)) rows')⟩ else none
   | none=>none
  | _,_,_=>none
 | _,_,_=>none
def B8 (s:ByteArray):List Int:=s.data.toList.map λ b=>(b.toNat:Int)
def Cv (s:ByteArray):List (List Pd):=(B8 s).map λ n=>[Pd.v (.int .u8 n)]
def Kb (P:Program) (R:List Res) (c:Cl) (s d:TypeId) (x:Option Value):Option Out:=
 match P.underlying s,P.underlying d,x,c with
 | some .string,some (.slice e),some (.string b),.room _ _ rows'=>match P.underlying e with
  | some (.int .u8)=>some ⟨.d (.p (.s rows')),R,some (.room b.size (Cv b) rows')⟩
  | _=>none
 | _,_,_,_=>none
def Ge (P:Program) (R:List Res) (c:Cl) (s d:TypeId) (x:Option Value):Option Out:=
 match P.underlying s,P.underlying d,x,c with
 | some .string,some (.slice e),some (.string b),.roomZ _ _ rows'=>match P.underlying e with
  | some (.int .u8)=>some ⟨.d (.os R.length),R++[.sl e 1 rows'],some (.roomZ b.size (Cv b) rows')⟩
  | _=>none
 | _,_,_,_=>none
def Gf (P:Program) (R:List Res) (c:Cl) (s d:TypeId) (x:Option AV):Option Out:=
 match P.underlying d,x,c with
 | some (.slice e),some (.d (.os i)),.own=>match R[i]?,P.underlying e with
  | some (.sl _ _ (_::_)),some (.int .u8)=>bif Nat.beq s d then some ⟨.d (.os i),R,some .own⟩ else none
  | _,_=>none
 | _,_,_=>none
def H5 (P:Program) (R:List Res) (c:Cl) (s d:TypeId) (x:Option AV):Option Out:=
 match Kb P R c s d (x.bind A0) with
 | some o=>some o
 | none=>match Ge P R c s d (x.bind A0) with
  | some o=>some o
  | none=>Gf P R c s d x
def isZ:Cl->Bool
 | .own=>true
 | .roomZ ..=>true
 | _=>false
def E5:Operand->Operand->Bool
 | .tmp a,.tmp b=>Nat.beq a b
 | .const (.int .i64 a),.const (.int .i64 b)=>a==b
 | _,_=>false
def T9:Cl->Bool
 | .call _ _ _ _ R2 pi=>R2.isEmpty&&pi.isEmpty
 | _=>false
def I5 (R:List Res) (c:Cl) (o:Oper) (i k size off:Nat) (ds:List D) (n:Nat):Option Out:=
 match R[i]?,c,dPs ds with
 | some (.sl e s rows),.upd _ _ row _ rows',some ps=>
  bif Nat.beq s size&&(Nat.beq ds.length n&&(Nat.ble (off+n) size&&o.dst.isNone)) then some ⟨.tup [],R.set i (.sl e s rows'),some (.upd rows k row (row.take off++(ps++row.drop (off+n))) rows')⟩ else none
 | _,_,_=>none
def J8 (R:List Res) (c:Cl) (o:Oper) (i k size off:Nat) (ds:List D) (n:Nat):Option Out:=
 match ds with
 | [.os m]=>match R[m]? with
  | some (.sl _ _ rows2)=>bif Nat.beq m i then none else I5 (R.set m .non) c o i k size off [.p (.s rows2)] n
  | _=>none
 | _=>none
def Dw (P : Program) (L : List Ent) (cur : A6) (R : List Res) (c : Cl) (o : Oper) : Option Out :=
 match Ap P L cur R c o.op with
 | some (v,k)=>some ⟨v,R,k⟩
 | none=>match o.op with
  | .box t x=>match (Am L cur x).bind Dd,Aj P t with
    | some cells,some n=>bif Nat.beq cells.length n then some ⟨.d (.o R.length 0),R++[.box t cells],none⟩ else none
    | _,_=>none
  | .alloc t=>match (By P t).bind λ z=>Cc z.cells.toList with
    | some cells=>some ⟨.d (.o R.length 0),R++[.box t cells],none⟩
    | none=>none
  | .store t a x=>bif cur.isEmpty then match Am L cur a,(Am L cur x).bind Dd,Aj P t with
    | some (.d (.o i off)),some ds,some n=>match R[i]? with
     | some (.box u cells)=>bif Nat.beq ds.length n&&Nat.ble (off+n) cells.length&&o.dst.isNone then some ⟨.tup [],R.set i (.box u (Gk cells off ds)),none⟩ else none
     | _=>none
    | some (.d (.oe i k size off)),some ds,some n=>match I5 R c o i k size off ds n with
     | some x=>some x
     | none=>match J9 R c o i k size off ds n with
      | some x=>some x
      | none=>J8 R c o i k size off ds n
    | _,_,_=>none
   else none
  | .buildSlice t len parts=>match Ef L cur parts.toList with
    | some ps=>C3 P R c t len ps
    | none=>none
  | .convert s d x=>H5 P R c s d (Am L cur x)
  | .makeSlice t l k=>bif E5 l k then Fo P R c t ((Am L cur l).bind A0) else none
  | .call k=>match k.callee with
   | .value f=>match Am L cur f,Bv L cur k.args.toList with
    | some (.d (.fn (.func g) first caps)),some args=>Cu R (first.map AV.d++args++caps.map AV.d) g c
    | _,_=>none
   | .builtin .append=>match Bv L cur k.args.toList with
    | some [.d (.oi i g q size off),y]=>Ei P R c k.argTypes.toList i g q size off y
    | some [.d (.osb i 0 n s),y]=>Eh P R c k.argTypes.toList i n s y
    | some args=>Bj P R c k.argTypes.toList args
    | none=>none
   | .builtin .clear=>match Bv L cur k.args.toList with
    | some args=>H6 P R c k.argTypes.toList args
    | none=>none
   | .builtin .copy=>match Bv L cur k.args.toList with
    | some args=>Ka P R c k.argTypes.toList args
    | none=>none
   | _=>none
  | _=>none
def Yk:Cl->Bool
 | .callB _ _ _ _ _ _=>true
 | .call _ _ _ _ _ pi=>pi.isEmpty
 | _=>false
def isW:Cl->Bool
 | .appD ..=>true
 | .appP ..=>true
 | _=>false
def Gl (r:Bool) (c:Cl) (o:Oper):Bool:=
 match o.op with
 | .store ..=>false
 | .call k=>match k.callee with
  | .value _=>r || Yk c
  | .builtin .clear | .builtin .copy=>false
  | _=>!isW c
 | _=>true
def isR:Cl->Bool
 | .whenR _ _=>true
 | _=>false
def Cp:Cl->Cl
 | .when _ c=>c
 | .whenR _ c=>c
 | c=>c
def Jj (L:List Ent):A6->A6->Bool
 | _,[]=>true
 | acc,(t,b)::p=>match Ct L t with
  | some e=>Cm e.p acc&&Jj L (acc++[(t,b)]) p
  | none=>false
def Gv (L:List Ent) (cur:A6) (r:Bool) (c:Cl) (o:Oper):Bool:=cur.isEmpty || (Gl r c o&&(!r || Jj L [] cur))
def El (cur:A6) (r:Bool) (cs:List (Bool×Bool)) (x:Cl):Cl:=bif cur.isEmpty then x else bif r then .whenR cs x else .when cs x
def Jt (L:List Ent) (t:Nat) (p:A6) (v:AV):List Ent:=
 ⟨t,p,v⟩::L.filter λ e=>!(Nat.beq e.t t)&&e.p.all λ g=>!(Nat.beq g.1 t)
def yU:Op->Bool
 | .binOp .quo .. | .binOp .rem .. | .indexAddr .. | .slice ..=>true
 | _=>false
def Rc (P:Program) (n:Nat) (ops:Array Oper) (L:List Ent) (R:List Res) (c:Cl) (o:Oper):Option (List Ent×List Res×Option Cl):=
 match Fj ops L o with
 | none=>none
 | some cur=>
  match Dw P L cur R (Cp c) o,Cq L cur with
  | some out,some cs=>bif Gv L cur (isR c) (Cp c) o then
   let k:=out.c.map (El cur (isR c) cs)
   match o.dst with
   | some d=>bif Nat.blt d n&&cur.all (λ g=>!(Nat.beq g.1 d)) then some (Jt L d cur out.v,out.R,k) else none
   | none=>bif cur.isEmpty then some (L,out.R,k) else none
   else none
  | _,_=>none
def K1 (P : Program) (n : Nat) (ops : Array Oper) : List Nat -> List Ent -> List Res -> List Cl -> Option (List Ent × List Res × List Cl)
 | [],L,R,_=>some (L,R,[])
 | i::is,L,R,cls=>match ops[i]? with
  | none=>none
  | some o=>match Rc P n ops L R (cls.headD .nop) o with
   | none=>none
   | some (L',R',some c)=>match K1 P n ops is L' R' cls.tail with
    | some (L2,R2,cs)=>some (L2,R2,c::cs)
    | none=>none
   | some (L',R',none)=>K1 P n ops is L' R' cls
end Go.SL
