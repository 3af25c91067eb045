import Derived.Test.YtpdbkiafikdgpaaGreatDoorSlB
namespace Go.SL
abbrev Ci:=List (Nat×Bool)
structure Ent where
 t:Nat
 p:Ci
 v:AV
 deriving Inhabited
inductive Cl where
 | call (f:FuncId) (args:List AV) (R:List Res) (res:AV) (R2:List Res) (pi:List Nat)
 | callB (f:FuncId) (args:List AV) (res:AV) (rows:List (List Pd)) (k:Nat) (rw:List Pd)
 | appD (rows:List (List Pd)) (k:Nat) (row:List Pd) (off:Nat) (rows1 rows2:List (List Pd)) (size:Nat) (n:Nat) (rows':List (List Pd))
 | updD (rows:List (List Pd)) (k0 k:Nat) (row row':List Pd) (rows':List (List Pd))
 | roomZ (n:Int) (rows rows':List (List Pd))
 | bnd (k:Nat) (lo hi hi2:Int)
 | bnd3 (k:Nat) (lo hi mx:Int)
 | appP (rows src:List (List Pd)) (size n m:Nat) (l rows':List (List Pd))
 | eqr (rows rows':List (List Pd))
 | cpy (src:List (List Pd)) (size n m:Nat) (rows rows':List (List Pd))
 | row (rows:List (List Pd)) (n:Int) (row:List Pd)
 | upd (rows:List (List Pd)) (k:Nat) (row row':List Pd) (rows':List (List Pd))
 | nz (n:Int)
 | len (k n:Int)
 | cut (rows:List (List Pd)) (size:Nat) (lo hi:Int) (rows':List (List Pd))
 | room (n:Int) (rows rows':List (List Pd))
 | app (rows1 rows2:List (List Pd)) (size:Nat) (n:Nat) (rows':List (List Pd))
 | own
 | byte (s:ByteArray) (n:Int) (b:UInt8)
 | when (E5:List (Bool×Bool)) (c:Cl)
 | whenR (E5:List (Bool×Bool)) (c:Cl)
 | flts (rs:List Res)
 | flt (i:Nat) (r r':Res)
 | fltm (i:Nat) (c:Cl) (r r':Res)
 | nop
 deriving Inhabited
def Da:List (Bool×Bool)->Prop
 | []=>True
 | (a,b)::r=>a=b/\Da r
def Cl.keeps:Cl->Prop
 | .call _ _ R _ R2 pi=>R2.take pi.length=R
 | _=>False
def Fj (P:Program) (f:FuncId):Prop:=∀ (args:Array Value) (w:World),(callFunc f args).run P w = .ok (.enter f args) w
def Cl.ok (P:Program):Cl->Prop
 | .call f args R res R2 _=>Fj P f/\CallOk P f args R res R2
 | .callB f args res rows k rw=>(Fj P f/\CallOk P f args [] res [])/\rows[k]? = some rw
 | .appD rows k l0 off rows1 rows2 size n rows'=>(rows[k]? = some l0/\l0[off]? = some (.s rows1))/\(n<=140737488355328/\(∀ l,l∈rows2->l.length=size)/\rows1++rows2=rows')
 | .updD rows k0 k l l' rows'=>k0=k/\rows[k]? = some l/\rows.set k l'=rows'
 | .roomZ n rows rows'=>0<=n/\n<=140737488355328/\rows=rows'
 | .bnd k lo hi hi2=>0<=lo/\lo<=hi/\hi<=k/\hi=hi2
 | .bnd3 k lo hi mx=>0<=lo/\lo<=hi/\hi<=mx/\mx<=k
 | .appP rows src size n m l rows'=>(n+src.length=m/\m<=rows.length)/\(∀ x,x∈src->x.length=size)/\l=rows'
 | .eqr rows rows'=>rows=rows'
 | .cpy src size n m rows rows'=>Nat.min src.length n=m/\(∀ l,l∈src->l.length=size)/\rows=rows'
 | .row rows n l=>0<=n/\rows[n.toNat]? = some l
 | .upd rows k l l' rows'=>rows[k]? = some l/\rows.set k l'=rows'
 | .nz n=>n≠0
 | .len k n=>k=n
 | .cut rows size lo hi rows'=>0<=lo/\lo<=hi/\hi<=rows.length/\(∀ l,l∈rows->l.length=size)/\(rows.take hi.toNat).drop lo.toNat=rows'
 | .room n rows rows'=>0<=n/\n<=140737488355328/\rows=rows'
 | .app rows1 rows2 size n rows'=>n<=140737488355328/\(∀ l,l∈rows2->l.length=size)/\rows1++rows2=rows'
 | .own=>True
 | .byte s n b=>0<=n/\s.data[n.toNat]? = some b
 | .when E5 c=>Da E5->c.ok P
 | .whenR E5 c=>(Da E5->c.ok P)/\(¬Da E5->c.keeps)
 | .flts _=>True
 | .flt _ r r'=>r=r'
 | .fltm _ c r r'=>c.ok P/\r=r'
 | .nop=>True
def Di (P:Program):List Cl->Prop
 | []=>True
 | c::r=>c.ok P/\Di P r
def D_:List Ent->Nat->Option Ent
 | [],_=>none
 | e::r,t=>bif Nat.beq e.t t then some e else D_ r t
def Ey:Ci->Ci->Bool
 | [],_=>true
 | (a,x)::p,(b,y)::q=>Nat.beq a b&&(x==y)&&Ey p q
 | _::_,[]=>false
def dOf (v:Value):Option D:=bif v.oneCell' then some (.p (.v v)) else none
def Ej:List Value->Option (List D)
 | []=>some []
 | v::r=>match dOf v,Ej r with
  | some d,some ds=>some (d::ds)
  | _,_=>none
def M2:Value->Option AV
 | .agg cs=>(Ej cs.toList).map .agg
 | .tuple _=>none
 | v=>(dOf v).map .d
def B0 (L:List Ent) (cur:Ci):Operand->Option AV
 | .const v=>M2 v
 | .tmp t=>match D_ L t with
  | some e=>bif Ey e.p cur then some e.v else none
  | none=>none
 | .func f=>some (.d (.fn (.func f) [] []))
 | .global _=>none
def D.norm:D->D
 | .p (.v (.slice none 0 0))=>.p (.s [])
 | d=>d
def AV.norm:AV->AV
 | .d x=>.d x.norm
 | .agg ds=>.agg (ds.map D.norm)
 | .tup l=>.tup l
def Mt:TypeDesc->Bool
 | .struct _ | .array _ _=>true
 | _=>false
def Pt (P:Program) (t:TypeId):Option Bool:=(P.underlying t).map Mt
def Bu (P:Program) (t:TypeId):Option Nat:=(P.info? t).map (·.size)
def Dk (P:Program) (t:TypeId):Option Value:=(P.info? t).bind (·.zero)
def Gu:AV->Option (List D)
 | .d x=>some [x]
 | .agg ds=>some ds
 | .tup _=>none
def G2 (P:Program) (t:TypeId) (ds:List D):Option AV:=
 match Pt P t,Bu P t with
 | some true,some n=>bif Nat.beq ds.length n then some (.agg ds) else none
 | some false,some 1=>match ds with
  | [d]=>some (.d d)
  | _=>none
 | _,_=>none
def L_ (cells:List D) (off:Nat) (ds:List D):List D:=cells.take off++(ds++cells.drop (off+ds.length))
def H0 (places:List (Nat×Nat)):List D->List (Nat×List D)->Option (List D)
 | cells,[]=>some cells
 | cells,(i,ds)::r=>match places[i]? with
  | some (off,size)=>bif Nat.beq ds.length size&&Nat.ble (off+ds.length) cells.length then H0 places (L_ cells off ds) r else none
  | none=>none
def Ol (k:IntKind) (a b:Int):Int:=k.wrap (BitVec.ofInt k.bits a &&& BitVec.ofInt k.bits b).toNat
def orI (k:IntKind) (a b:Int):Int:=k.wrap (BitVec.ofInt k.bits a ||| BitVec.ofInt k.bits b).toNat
def Awt (k:IntKind) (a b:Int):Int:=k.wrap (BitVec.ofInt k.bits a ^^^ BitVec.ofInt k.bits b).toNat
def G6 (k:IntKind) (a:Int) (n:Nat):Int:=a.fdiv (2 ^ min n k.bits)
def A2w (k:IntKind) (a:Int) (n:Nat):Int:=k.wrap (a*2 ^ min n k.bits)
def bin (op:BinOp) (x y:Value):Option Value:=
 match op,x,y with
 | .and,.int k a,.int k' b=>if k=k' then some (.int k (Ol k a b)) else none
 | .or,.int k a,.int k' b=>if k=k' then some (.int k (orI k a b)) else none
 | .xor,.int k a,.int k' b=>if k=k' then some (.int k (Awt k a b)) else none
 | .shr,.int k a,.int _ (.ofNat n)=>some (.int k (G6 k a n))
 | .shl,.int k a,.int _ (.ofNat n)=>some (.int k (A2w k a n))
 | .add,.int k a,.int k' b=>if k=k' then some (.int k (k.wrap (a+b))) else none
 | .sub,.int k a,.int k' b=>if k=k' then some (.int k (k.wrap (a-b))) else none
 | .mul,.int k a,.int k' b=>if k=k' then some (.int k (k.wrap (a*b))) else none
 | .eql,.int k a,.int k' b=>if k=k' then some (.bool (a==b)) else none
 | .neq,.int k a,.int k' b=>if k=k' then some (.bool (a != b)) else none
 | .lss,.int k a,.int k' b=>if k=k' then some (.bool (decide (a<b))) else none
 | .leq,.int k a,.int k' b=>if k=k' then some (.bool (decide (a<=b))) else none
 | .gtr,.int k a,.int k' b=>if k=k' then some (.bool (decide (a>b))) else none
 | .geq,.int k a,.int k' b=>if k=k' then some (.bool (decide (a>=b))) else none
 | .eql,.string a,.string b=>some (.bool (a.toList==b.toList))
 | .neq,.string a,.string b=>some (.bool !(a.toList==b.toList))
 | _,_,_=>none
def Ayw (op:BinOp) (x y:Value):Option Value:=
 match op,x,y with
 | .eql,.bool a,.bool b=>some (.bool (a==b))
 | .neq,.bool a,.bool b=>some (.bool !(a==b))
 | _,_,_=>none
def Ayv (op:BinOp) (x y:Value):Option (Value×Int):=
 match op,x,y with
 | .quo,.int k a,.int k' b=>if k=k' then some (.int k (k.wrap (a.tdiv b)),b) else none
 | .rem,.int k a,.int k' b=>if k=k' then some (.int k (a.tmod b),b) else none
 | _,_,_=>none
def un (op:UnOp) (x:Value):Option Value:=
 match op,x with
 | .neg,.int k n=>some (.int k (k.wrap (0-n)))
 | .not,.bool b=>some (.bool !b)
 | _,_=>none
def Cp:AV->Option Value
 | .d (.p (.v x))=>some x
 | _=>none
def Mx:List AV->Option (List Value)
 | []=>some []
 | a::r=>match Cp a,Mx r with
  | some x,some xs=>some (x::xs)
  | _,_=>none
def ofV (v:Value):AV:=.d (.p (.v v))
def Jl:AV->Option Bool
 | .d (.p (.v (.bool b)))=>some b
 | _=>none
def Af0:Int->List Value->Option Int
 | m,[]=>some m
 | m,x::r=>match x with
  | .int .i64 y=>Af0 (max m y) r
  | _=>none
def Afx:Int->List Value->Option Int
 | m,[]=>some m
 | m,x::r=>match x with
  | .int .i64 y=>Afx (min m y) r
  | _=>none
mutual
def D.ren (f:Nat->Option Nat):D->Option D
 | .p x=>some (.p x)
 | .o i off=>match f i with
  | some j=>some (.o j off)
  | none=>none
 | .os i=>match f i with
  | some j=>some (.os j)
  | none=>none
 | .oe i k size off=>match f i with
  | some j=>some (.oe j k size off)
  | none=>none
 | .osb i lo n size=>match f i with
  | some j=>some (.osb j lo n size)
  | none=>none
 | .oi i g k size off=>match f i,f g with
  | some j,some q=>some (.oi j q k size off)
  | _,_=>none
 | .ip cells=>some (.ip cells)
 | .fn g a b=>match D.renL f a,D.renL f b with
  | some a',some b'=>some (.fn g a' b')
  | _,_=>none
 | .any=>some .any
 | .nq rows=>some (.nq rows)
def D.renL (f:Nat->Option Nat):List D->Option (List D)
 | []=>some []
 | d::r=>match D.ren f d,D.renL f r with
  | some d',some r'=>some (d'::r')
  | _,_=>none
end
mutual
def AV.ren (f:Nat->Option Nat):AV->Option AV
 | .d x=>match x.ren f with
  | some y=>some (.d y)
  | none=>none
 | .agg ds=>match D.renL f ds with
  | some es=>some (.agg es)
  | none=>none
 | .tup l=>match AV.renL f l with
  | some m=>some (.tup m)
  | none=>none
def AV.renL (f:Nat->Option Nat):List AV->Option (List AV)
 | []=>some []
 | a::r=>match AV.ren f a,AV.renL f r with
  | some a',some r'=>some (a'::r')
  | _,_=>none
end
def Res.ren (f:Nat->Option Nat):Res->Option Res
 | .box t cells=>match D.renL f cells with
  | some cs=>some (.box t cs)
  | none=>none
 | .sl e size rows=>some (.sl e size rows)
 | .zsl e size rows=>some (.zsl e size rows)
 | .dsl e size g=>match f g with
  | some q=>some (.dsl e size q)
  | none=>none
 | .gh size tys rows hole=>some (.gh size tys rows hole)
 | .non=>some .non
def G1 (f:Nat->Option Nat):List Res->Option (List Res)
 | []=>some []
 | r::l=>match r.ren f,G1 f l with
  | some r',some l'=>some (r'::l')
  | _,_=>none
def Dh:List Nat->Nat->Option Nat
 | [],_=>none
 | a::r,i=>bif Nat.beq a i then some 0 else match Dh r i with
  | some j=>some (j+1)
  | none=>none
def Eb:List Nat->Bool
 | []=>true
 | a::r=>(Dh r a).isNone&&Eb r
def I_ (R:List Res):List Nat->Option (List Res)
 | []=>some []
 | i::r=>match R[i]?,I_ R r with
  | some x,some xs=>some (x::xs)
  | _,_=>none
def Ek (pi:List Nat) (n:Nat) (j:Nat):Option Nat:=
 match pi[j]? with
 | some i=>some i
 | none=>some (n+(j-pi.length))
def D6:List Res->List Nat->List Res->List Res
 | R,i::pi,r::l=>D6 (R.set i r) pi l
 | R,_,_=>R
structure Out where
 v:AV
 R:List Res
 c:Option Cl
 deriving Inhabited
def I7 (R:List Res):D->Option Pd
 | .p x=>some x
 | .os i=>match R[i]? with
  | some (.sl _ _ rows)=>some (.s rows)
  | some (.zsl _ _ rows)=>some (.s rows)
  | _=>none
 | _=>none
def Gp (R:List Res):List D->Option (List Pd)
 | []=>some []
 | d::r=>match I7 R d,Gp R r with
  | some x,some l=>some (x::l)
  | _,_=>none
mutual
def D.view (R:List Res) (rw:List Pd):D->Option D
 | .p x=>some (.p x)
 | .ip c=>some (.ip c)
 | .os i=>match R[i]? with
  | some (.sl _ _ rows)=>some (.p (.s rows))
  | some (.zsl _ _ rows)=>some (.p (.s rows))
  | _=>none
 | .o i off=>match R[i]? with
  | some (.box _ cells)=>match Gp R cells with
   | some ps=>some (.ip (ps.drop off))
   | none=>none
  | _=>none
 | .oe _ _ _ _=>none
 | .osb i lo n size=>match R[i]? with
  | some (.sl _ s rows)=>bif Nat.beq s size then some (.p (.s ((rows.drop lo).take n))) else none
  | _=>none
 | .oi _ g _ size off=>match R[g]? with
  | some (.gh s _ _ none)=>bif Nat.beq s size&&Nat.blt off s then match rw[off]? with
   | some (.s r)=>some (.p (.s r))
   | _=>none
   else none
  | _=>none
 | .fn g a b=>match D.viewL R rw a,D.viewL R rw b with
  | some a',some b'=>some (.fn g a' b')
  | _,_=>none
 | .any=>some .any
 | .nq rows=>some (.nq rows)
def D.viewL (R:List Res) (rw:List Pd):List D->Option (List D)
 | []=>some []
 | d::r=>match D.view R rw d,D.viewL R rw r with
  | some d',some r'=>some (d'::r')
  | _,_=>none
end
def AV.view (R:List Res) (rw:List Pd):AV->Option AV
 | .d x=>match x.view R rw with
  | some y=>some (.d y)
  | none=>none
 | .agg ds=>match D.viewL R rw ds with
  | some es=>some (.agg es)
  | none=>none
 | .tup _=>none
def AV.viewL (R:List Res) (rw:List Pd):List AV->Option (List AV)
 | []=>some []
 | a::r=>match AV.view R rw a,AV.viewL R rw r with
  | some a',some r'=>some (a'::r')
  | _,_=>none
def D.flat:D->Bool
 | .p (.v _)=>true
 | _=>false
mutual
def AV.flat:AV->Bool
 | .d x=>x.flat
 | .agg ds=>ds.all D.flat
 | .tup l=>dw l
def dw:List AV->Bool
 | []=>true
 | a::r=>a.flat&&dw r
end
mutual
def D.ois:D->List (Nat×Nat)
 | .oi _ g k _ _=>[(g,k)]
 | .fn _ a b=>dl a++dl b
 | _=>[]
def dl:List D->List (Nat×Nat)
 | []=>[]
 | d::r=>D.ois d++dl r
end
def AV.ois:AV->List (Nat×Nat)
 | .d x=>x.ois
 | .agg ds=>dl ds
 | .tup _=>[]
def oisL:List AV->List (Nat×Nat)
 | []=>[]
 | a::r=>a.ois++oisL r
def Fg (R : List Res) (args : List AV) (f : FuncId) : Cl -> Option Out
 | .callB f' _ res _ _ rw=>bif Nat.beq f f'&&res.flat then
   match oisL args with
   | []=>match AV.viewL R [] (args.map AV.norm) with
    | some args'=>some ⟨res,R,some (.callB f args' res [[]] 0 [])⟩
    | none=>none
   | [(g,k)]=>match R[g]?,AV.viewL R rw (args.map AV.norm) with
    | some (.gh _ _ rows none),some args'=>some ⟨res,R,some (.callB f args' res rows k rw)⟩
    | _,_=>none
   | _=>none
  else none
 | .call f' _ _ res R2 pi=>
  bif Nat.beq f f'&&Eb pi&&Nat.ble pi.length R2.length then
   match AV.renL (Dh pi) (args.map AV.norm),I_ R pi with
   | some args',some Rp=>match G1 (Dh pi) Rp,res.ren (Ek pi R.length),G1 (Ek pi R.length) R2 with
    | some Rp',some res',some R2'=>some ⟨res',D6 R pi R2'++R2'.drop pi.length,some (.call f args' Rp' res R2 pi)⟩
    | _,_,_=>none
   | _,_=>none
  else none
 | _=>none
def Df (L:List Ent) (cur:Ci):List Operand->Option (List AV)
 | []=>some []
 | x::r=>match B0 L cur x,Df L cur r with
  | some a,some l=>some (a::l)
  | _,_=>none
def Iy (L:List Ent) (cur:Ci):List (Nat×Operand)->Option (List (Nat×List D))
 | []=>some []
 | (i,x)::r=>match (B0 L cur x).bind Gu,Iy L cur r with
  | some a,some l=>some ((i,a)::l)
  | _,_=>none
def O6 (P:Program) (s:TypeId) (f:Nat):Option (Nat×TypeId):=
 match P.underlying s with
 | some (.struct fields)=>match fields[f]? with
  | some x=>some (x.offset,x.type)
  | none=>none
 | _=>none
def Jw (P:Program):List Field->Option (List (Nat×Nat))
 | []=>some []
 | f::r=>match Bu P f.type,Jw P r with
  | some n,some l=>some ((f.offset,n)::l)
  | _,_=>none
def Ks (R:List Res):List AV->Option Int
 | [.d (.p (.s rows))]=>some rows.length
 | [.d (.p (.v (.slice none 0 _)))]=>some 0
 | [.d (.os i)]=>match R[i]? with
  | some (.sl _ _ rows)=>some rows.length
  | some (.dsl _ s g)=>match R[g]? with
   | some (.gh s2 _ rows _)=>bif Nat.beq s s2&&Nat.blt 0 s then some rows.length else none
   | _=>none
  | _=>none
 | [.d (.osb _ _ n _)]=>some n
 | _=>none
def Agu:List AV->Option Int
 | [.d (.p (.v (.string s)))]=>some s.size
 | _=>none
def A4f (b:Builtin) (l:List AV):Option Int:=
 match Mx l with
 | some (.int .i64 x::r)=>match b with
  | .max=>Af0 x r
  | .min=>Afx x r
  | _=>none
 | _=>none
def Kp (ops : Array Oper) (L : List Ent) (o : Oper) : Option Ci :=
 match o.guard with
 | none=>some []
 | some (j,want)=>match (ops[j]?).bind (·.dst) with
  | none=>none
  | some t=>match D_ L t with
   | some e=>match Jl e.v with
    | some _=>some (e.p++[(t,want)])
    | none=>none
   | none=>none
def E5 (L:List Ent):Ci->Option (List (Bool×Bool))
 | []=>some []
 | (t,want)::p=>match D_ L t with
  | some e=>match Jl e.v,E5 L p with
   | some c,some l=>some ((c,want)::l)
   | _,_=>none
  | none=>none
def yA:Operand->Bool
 | .const (.bool b)=>b
 | _=>false
def X3:Operand->Bool
 | .const (.bool b)=>!b
 | _=>false
def Agt (L : List Ent) (cur : Ci) (c a b : Operand) : Option AV :=
 match c with
 | .tmp t=>match (B0 L cur (.tmp t)).bind Jl with
  | some x=>
   bif yA a then match (B0 L (cur++[(t,false)]) b).bind Jl with
    | some y=>some (ofV (.bool (x || y)))
    | none=>none
   else bif X3 b then match (B0 L (cur++[(t,true)]) a).bind Jl with
    | some y=>some (ofV (.bool (x&&y)))
    | none=>none
   else none
  | none=>none
 | _=>none
def yJ (P : Program) (same : TypeId -> AV -> AV -> Option Bool) : List Field -> List D -> List D -> Option Bool
 | [],_,_=>some true
 | f :: fs, ds, es => bif f.name == "_" then yJ P same fs ds es else match Bu P f.type with
  | some n=>match G2 P f.type ((ds.drop f.offset).take n),G2 P f.type ((es.drop f.offset).take n) with
   | some a,some b=>match same f.type a b,yJ P same fs ds es with
    | some r,some q=>some (r&&q)
    | _,_=>none
   | _,_=>none
  | none=>none
def eqA (P:Program):Nat->TypeId->AV->AV->Option Bool
 | 0,_,_,_=>none
 | m+1,t,a,b=>match P.underlying t with
  | some .bool=>match a,b with
   | .d (.p (.v (.bool x))),.d (.p (.v (.bool y)))=>some (x==y)
   | _,_=>none
  | some (.int _)=>match a,b with
   | .d (.p (.v (.int k x))),.d (.p (.v (.int k' y)))=>if k=k' then some (x==y) else none
   | _,_=>none
  | some .string=>match a,b with
   | .d (.p (.v (.string x))),.d (.p (.v (.string y)))=>some (x.toList==y.toList)
   | _,_=>none
  | some (.struct fs)=>match a,b with
   | .agg ds,.agg es=>bif P.stoodInHeld t then none else yJ P (eqA P m) fs.toList ds es
   | _,_=>none
  | _=>none
def Azq (P:Program) (L:List Ent) (cur:Ci) (b:BinOp) (t:TypeId) (x y:Operand):Option (AV×Option Cl):=
 match B0 L cur x,B0 L cur y with
 | some (.d (.p (.s rows))),some (.d (.p (.v (.slice none 0 0))))=>match b,P.underlying t with
  | .eql,some (.slice _)=>some (.d (.nq rows),none)
  | _,_=>none
 | some (.agg ds),some (.agg es)=>bif P.eqGuardType P.depth t then none else match b with
  | .eql=>(eqA P 100 t (.agg ds) (.agg es)).map λ z=>(ofV (.bool z),none)
  | .neq=>(eqA P 100 t (.agg ds) (.agg es)).map λ z=>(ofV (.bool !z),none)
  | _=>none
 | _,_=>none
def Hf (i g k size:Nat):Nat->List Pd->List D
 | _,[]=>[]
 | off,.v x::r=>.p (.v x)::Hf i g k size (off+1) r
 | off,.s _::r=>.oi i g k size off::Hf i g k size (off+1) r
def Tm (P:Program) (L:List Ent) (cur:Ci) (R:List Res) (c:Cl) (t:TypeId) (x:Operand):Option (AV×Option Cl):=
 match B0 L cur x,Bu P t with
 | some (.d (.o i off)),some n=>match R[i]? with
  | some (.box _ cells)=>(G2 P t ((cells.drop off).take n)).map λ v=>(v,none)
  | _=>none
 | some (.d (.ip cells)),some n=>(G2 P t ((cells.take n).map D.p)).map λ v=>(v,none)
 | some (.d (.oe i k size off)),some n=>match R[i]?,c with
  | some (.sl _ s rows),.row _ _ row=>bif Nat.beq s size then (G2 P t (((row.drop off).take n).map D.p)).map λ v=>(v,some (.row rows k row)) else none
  | some (.dsl _ s g),.row _ _ row=>match R[g]? with
   | some (.gh s2 _ rows none)=>bif Nat.blt 0 s&&(Nat.beq s size&&Nat.beq s s2) then (G2 P t (Hf i g k size off ((row.drop off).take n))).map λ v=>(v,some (.row rows k row)) else none
   | _=>none
  | _,_=>none
 | _,_=>none
def Aoo (P:Program) (L:List Ent) (cur:Ci) (R:List Res) (c:Cl) (t:TypeId) (x i:Operand):Option (AV×Option Cl):=
 match P.underlying t,B0 L cur x,(B0 L cur i).bind Cp with
 | some (.slice e),some (.d (.p (.s rows))),some (.int _ n)=>match c with
  | .row _ _ row=>match Bu P e with
   | some (k+1)=>bif Nat.beq row.length (k+1) then some (.d (.ip row),some (.row rows n row)) else none
   | _=>none
  | _=>none
 | some (.slice e),some (.d (.os j)),some (.int _ n)=>match R[j]?,c with
  | some (.sl _ s rows),.row _ _ row=>match Bu P e with
   | some (k+1)=>bif Nat.beq s (k+1) then some (.d (.oe j n.toNat (k+1) 0),some (.row rows n row)) else none
   | _=>none
  | some (.dsl _ s g),.row _ _ row=>match Bu P e,R[g]? with
   | some (k+1),some (.gh s2 _ rows _)=>bif Nat.beq s (k+1)&&Nat.beq s s2 then some (.d (.oe j n.toNat (k+1) 0),some (.row rows n row)) else none
   | _,_=>none
  | _,_=>none
 | some (.array m e),some (.d (.o j off)),some (.int _ (.ofNat k))=>match Bu P e with
  | some s=>bif Nat.blt k m then some (.d (.o j (off+k*s)),none) else none
  | _=>none
 | some (.array m e),some (.d (.ip cells)),some (.int _ (.ofNat k))=>match Bu P e with
  | some s=>bif Nat.blt k m then some (.d (.ip (cells.drop (k*s))),none) else none
  | _=>none
 | _,_,_=>none
def B5 (P : Program) (L : List Ent) (cur : Ci) (R : List Res) (c : Cl) (op : Op) : Option (AV × Option Cl) :=
 match op with
 | .move x | .assign x=>(B0 L cur x).map λ v=>(v,none)
 | .pick k a b=>(Agt L cur k a b).map λ v=>(v,none)
 | .build t parts=>match (Dk P t).bind λ z=>Ej z.cells.toList,P.underlying t,Iy L cur parts.toList with
  | some zs,some (.struct fields),some ps=>match (Jw P fields.toList).bind λ pl=>H0 pl zs ps with
   | some ds=>some (.agg ds,none)
   | none=>none
  | some zs,some (.array n e),some ps=>match Bu P e with
   | some s=>match H0 ((List.range n).map λ i=>(i*s,s)) zs ps with
    | some ds=>some (.agg ds,none)
    | none=>none
   | none=>none
  | _,_,_=>none
 | .load t (.global g)=>match Al8 g,Bu P t with
  | some cells,some n=>(G2 P t ((cells.take n).map D.p)).map λ v=>(v,none)
  | _,_=>none
 | .load t x=>Tm P L cur R c t x
 | .nilCheck x=>match B0 L cur x with
  | some (.d (.o i off))=>some (.d (.o i off),none)
  | some (.d (.oe i k s off))=>some (.d (.oe i k s off),none)
  | some (.d (.ip cells))=>some (.d (.ip cells),none)
  | _=>none
 | .binOp b t x y _=>match (B0 L cur x).bind Cp,(B0 L cur y).bind Cp with
  | some u,some v=>match bin b u v with
   | some z=>some (ofV z,none)
   | none=>match Ayv b u v with
    | some (z,n)=>some (ofV z,some (.nz n))
    | none=>match P.underlying t with
     | some .bool=>(Ayw b u v).map λ z=>(ofV z,none)
     | _=>none
  | _,_=>Azq P L cur b t x y
 | .unOp u _ x=>match (B0 L cur x).bind Cp with
  | some v=>(un u v).map λ z=>(ofV z,none)
  | none=>none
 | .convert s d x=>match P.underlying s,P.underlying d,(B0 L cur x).bind Cp with
  | some (.int _),some (.int k),some (.int _ n)=>some (ofV (.int k (k.wrap n)),none)
  | _,_,_=>none
 | .makeFunc f first caps=>match Df L cur first.toList,Df L cur caps.toList with
  | some a,some b=>match (a.mapM fun | .d x=>some x | _=>none),(b.mapM fun | .d x=>some x | _=>none) with
   | some a',some b'=>some (.d (.fn f a' b'),none)
   | _,_=>none
  | _,_=>none
 | .fieldAddr s x f=>match B0 L cur x,O6 P s f with
  | some (.d (.o i off)),some (k,ft)=>match Bu P ft with
   | some (_+1)=>some (.d (.o i (off+k)),none)
   | _=>none
  | some (.d (.ip cells)),some (k,ft)=>match Bu P ft with
   | some (_+1)=>some (.d (.ip (cells.drop k)),none)
   | _=>none
  | some (.d (.oe i r size off)),some (k,ft)=>match Bu P ft with
   | some (_+1)=>some (.d (.oe i r size (off+k)),none)
   | _=>none
  | _,_=>none
 | .field s x f=>match B0 L cur x,O6 P s f with
  | some (.agg ds),some (k,ft)=>match Bu P ft with
   | some n=>(G2 P ft ((ds.drop k).take n)).map λ v=>(v,none)
   | none=>none
  | _,_=>none
 | .indexAddr t x i=>Aoo P L cur R c t x i
 | .index t x i=>match P.underlying t,B0 L cur x,(B0 L cur i).bind Cp with
  | some (.array n e),some (.agg ds),some (.int _ (.ofNat k))=>match Bu P e with
   | some s=>bif Nat.blt k n&&Nat.ble ((k+1)*s) ds.length then (G2 P e ((ds.drop (k*s)).take s)).map λ v=>(v,none) else none
   | none=>none
  | some .string,some (.d (.p (.v (.string s)))),some (.int _ n)=>match c with
   | .byte _ _ b=>some (ofV (.int .u8 b.toNat),some (.byte s n b))
   | _=>none
  | _,_,_=>none
 | .extract x i=>match B0 L cur x with
  | some (.tup l)=>(l[i]?).map λ v=>(v,none)
  | _=>none
 | .slice t x lo hi none=>match P.underlying t,B0 L cur x with
  | some (.slice e),some (.d (.p (.s rows)))=>match Bu P e,(match lo with | none=>some (Value.int .i64 0) | some y=>(B0 L cur y).bind Cp),(match hi with | none=>some (Value.int .i64 rows.length) | some y=>(B0 L cur y).bind Cp) with
   | some n,some (.int _ l),some (.int _ h)=>match c with
    | .cut _ _ _ _ rows'=>some (.d (.p (.s rows')),some (.cut rows n l h rows'))
    | _=>none
   | _,_,_=>none
  | some (.slice e),some (.d (.os i))=>match R[i]? with
   | some (.sl _ s rows)=>match Bu P e,(match lo with | none=>some (Value.int .i64 0) | some y=>(B0 L cur y).bind Cp),(match hi with | none=>some (Value.int .i64 rows.length) | some y=>(B0 L cur y).bind Cp) with
    | some n,some (.int _ l),some (.int _ h)=>match c with
     | .bnd _ _ _ h2=>bif Nat.beq s n then some (.d (.osb i l.toNat (h2.toNat-l.toNat) n),some (.bnd rows.length l h h2)) else none
     | _=>none
    | _,_,_=>none
   | _=>none
  | some (.slice e),some (.d (.osb i o0 n0 s0))=>match R[i]? with
   | some (.sl _ s rows)=>match Bu P e,(match lo with | none=>some (Value.int .i64 0) | some y=>(B0 L cur y).bind Cp),(match hi with | none=>some (Value.int .i64 n0) | some y=>(B0 L cur y).bind Cp) with
    | some n,some (.int _ l),some (.int _ h)=>match c with
     | .bnd _ _ _ h2=>bif Nat.beq s n&&Nat.beq s0 n then some (.d (.osb i (o0+l.toNat) (h2.toNat-l.toNat) n),some (.bnd (rows.length-o0) l h h2)) else none
     | _=>none
    | _,_,_=>none
   | _=>none
  | _,_=>none
 | .slice t x (some lo) (some hi) (some mx)=>match P.underlying t,B0 L cur x with
  | some (.slice e),some (.d (.os i))=>match R[i]? with
   | some (.sl _ _ rows)=>match (B0 L cur lo).bind Cp,(B0 L cur hi).bind Cp,(B0 L cur mx).bind Cp with
    | some (.int _ l),some (.int _ h),some (.int _ m)=>match c,Bu P e with
     | .bnd3 _ _ _ _,some _=>some (.d .any,some (.bnd3 rows.length l h m))
     | _,_=>none
    | _,_,_=>none
   | _=>none
  | _,_=>none
 | .call k=>match k.callee with
  | .builtin b=>match Df L cur k.args.toList with
   | some args=>match b,k.argTypes[0]? with
    | .len,some t=>match P.underlying t with
     | some (.slice _)=>match c with
      | .len _ n=>(Ks R args).map λ k=>(ofV (.int .i64 n),some (.len k n))
      | _=>(Ks R args).map λ n=>(ofV (.int .i64 n),none)
     | some .string=>(Agu args).map λ n=>(ofV (.int .i64 n),none)
     | _=>none
    | _,_=>(A4f b args).map λ n=>(ofV (.int .i64 n),none)
   | none=>none
  | _=>none
 | _=>none
def dP:D->Option Pd
 | .p x=>some x
 | _=>none
def dPs:List D->Option (List Pd)
 | []=>some []
 | d::r=>match dP d,dPs r with
  | some x,some l=>some (x::l)
  | _,_=>none
def E1 {α:Type} (size:Nat):Nat->List α->List (List α)
 | 0,_=>[]
 | n+1,l=>l.take size::E1 size n (l.drop size)
def De {α:Type}:Nat->List α->List α
 | 0,_=>[]
 | n+1,l=>l++De n l
def Pd.nz:Pd->Pd
 | .v (.slice none 0 0)=>.s []
 | x=>x
def Vx:Cl->Bool
 | .own=>true
 | _=>false
def F2 (P : Program) (R : List Res) (c : Cl) (t : TypeId) (len : Nat) (parts : List (Nat × List D)) : Option Out :=
 match P.underlying t with
 | some (.slice e)=>match Bu P e,(Dk P e).bind λ z=>Ej z.cells.toList with
  | some (size+1),some zs=>
   bif Nat.beq zs.length (size+1)&&Nat.ble (len*(size+1)) 16777216 then
    match (H0 ((List.range len).map λ i=>(i*(size+1),size+1)) (De len zs) parts).bind dPs with
    | some ps=>bif Vx c then some ⟨.d (.os R.length),R++[.sl e (size+1) (E1 (size+1) len (ps.map Pd.nz))],some .own⟩ else some ⟨.d (.p (.s (E1 (size+1) len (ps.map Pd.nz)))),R,none⟩
    | none=>none
   else none
  | _,_=>none
 | _=>none
def Gq (R:List Res) (size:Nat):AV->Option (List (List Pd))
 | .d (.p (.s rows))=>some rows
 | .d (.p (.v (.slice none 0 0)))=>some []
 | .d (.os i)=>match R[i]? with
  | some (.sl _ s rows)=>bif Nat.beq s size then some rows else none
  | _=>none
 | .d (.osb i lo n s2)=>match R[i]? with
  | some (.sl _ s rows)=>bif Nat.beq s size&&Nat.beq s2 s then some ((rows.drop lo).take n) else none
  | _=>none
 | _=>none
def C6 (P : Program) (R : List Res) (c : Cl) (ts : List TypeId) (args : List AV) : Option Out :=
 match ts,args with
 | [t, u], [x, y] => bif Nat.beq t u then match P.underlying t with
  | some (.slice e)=>match Bu P e,(P.info? e).map (·.bytes),(Dk P e).map (λ z=>z.cells.size) with
   | some (size+1),some bytes,some zn=>match c,Gq R (size+1) y with
    | .app _ _ _ _ rows',some rows2=>bif Nat.beq zn (size+1) then match x with
     | .d (.p (.v (.slice none 0 0)))=>some ⟨.d (.os (R.length+1)),R++[.non,.sl e (size+1) rows'],some (.app [] rows2 (size+1) (rows2.length*(bytes+1)) rows')⟩
     | .d (.os i)=>match R[i]? with
      | some (.sl e' s' rows)=>bif Nat.beq e' e&&Nat.beq s' (size+1) then some ⟨.d (.os R.length),R.set i .non++[.sl e (size+1) rows'],some (.app rows rows2 (size+1) ((rows.length+rows2.length)*(bytes+1)) rows')⟩ else none
      | _=>none
     | _=>none
     else none
    | _,_=>none
   | _,_,_=>none
  | _=>none
  else none
 | _,_=>none
def zB:Pd->Bool
 | .v (.slice none 0 0)=>true
 | .v (.slice _ _ _)=>false
 | .v _=>true
 | .s _=>false
def I1 (P:Program) (R:List Res) (c:Cl) (ts:List TypeId) (i g k size off:Nat) (y:AV):Option Out:=
 match R[i]?,R[g]?,c with
 | some (.dsl e s g'),some (.gh s2 tys rows none),.appD _ _ row _ r1 r2 sz n rows'=>match tys[off]? with
  | some (e2,sz2)=>bif (Nat.beq g g'&&Nat.beq s s2)&&(Nat.beq s size&&Nat.blt off s) then
   match C6 P ((R.set g .non).set i (.dsl e s R.length)++[.gh s tys rows (some (k,off)),.sl e2 sz2 r1]) (.app r1 r2 sz n rows') ts [.d (.os (R.length+1)),y] with
   | some ⟨v,R',some (.app a b z m r')⟩=>some ⟨v,R',some (.appD rows k row off r1 b z m r')⟩
   | _=>none
   else none
  | none=>none
 | _,_,_=>none
def Tl (R : List Res) (c : Cl) (o : Oper) (i k size off : Nat) (ds : List D) (n : Nat) : Option Out :=
 match R[i]?,ds,c with
 | some (.dsl e s g),[.os m],.updD _ _ _ row _ rows'=>match R[g]?,R[m]? with
  | some (.gh s2 tys rows (some (k0,off0))),some (.sl e2 sz2 r1)=>match tys[off]? with
   | some (e3,sz3)=>
    bif (Nat.beq s size&&Nat.beq s s2)&&((Nat.beq off off0&&Nat.beq n 1)&&((Nat.blt off s&&o.dst.isNone)&&(Nat.beq e2 e3&&Nat.beq sz2 sz3))) then
     some ⟨.tup [],(((R.set m .non).set g .non).set i (.dsl e s R.length))++[.gh s tys rows' none],some (.updD rows k0 k row (row.take off++(.s r1::row.drop (off+1))) rows')⟩
    else none
   | none=>none
  | _,_=>none
 | _,_,_=>none
def I0 (P : Program) (R : List Res) (c : Cl) (ts : List TypeId) (i n s : Nat) (y : AV) : Option Out :=
 match ts with
 | [t, u] => bif Nat.beq t u then match P.underlying t with
  | some (.slice e)=>match Bu P e,Gq R s y,R[i]? with
   | some (size+1),some src,some (.sl e' s' rows)=>match c with
    | .appP _ _ _ _ m _ rows'=>bif Nat.beq s' s&&Nat.beq s (size+1) then
      some ⟨.d (.osb i 0 m s),R.set i (.sl e' s' rows'),some (.appP rows src s n m (rows.take n++(src++rows.drop (n+src.length))) rows')⟩
     else none
    | _=>none
   | _,_,_=>none
  | _=>none
  else none
 | _=>none
def V1 (R:List Res):AV->Option (Nat×Nat×Nat×Nat)
 | .d (.os i)=>match R[i]? with
  | some (.sl _ s rows)=>some (i,0,rows.length,s)
  | _=>none
 | .d (.osb i lo n s)=>some (i,lo,n,s)
 | _=>none
def O8 (P : Program) (R : List Res) (c : Cl) (ts : List TypeId) (args : List AV) : Option Out :=
 match ts,args with
 | [t], [x] => match P.underlying t with
  | some (.slice e)=>match Bu P e,(Dk P e).bind λ z=>Ej z.cells.toList,V1 R x with
   | some (size+1),some zd,some (i,lo,n,s)=>match dPs zd,R[i]?,c with
    | some zs,some (.sl e' s2 rows),.eqr _ rows'=>bif (Nat.beq s s2&&Nat.beq s (size+1))&&Nat.beq zs.length (size+1) then
      some ⟨.tup [],R.set i (.sl e' s2 rows'),some (.eqr (rows.take lo++(List.replicate n (zs.map Pd.nz)++rows.drop (lo+n))) rows')⟩
     else none
    | _,_,_=>none
   | _,_,_=>none
  | _=>none
 | _,_=>none
def Tn (P : Program) (R : List Res) (c : Cl) (ts : List TypeId) (args : List AV) : Option Out :=
 match ts,args with
 | t :: _, [x, y] => match P.underlying t with
  | some (.slice e)=>match Bu P e,V1 R x with
   | some (size+1),some (i,lo,n,s)=>match Gq R (size+1) y,R[i]?,c with
    | some src,some (.sl e' s2 rows),.cpy _ _ _ m _ rows'=>bif Nat.beq s s2&&Nat.beq s (size+1) then
      some ⟨ofV (.int .i64 m),R.set i (.sl e' s2 rows'),some (.cpy src (size+1) n m (rows.take lo++(src.take m++rows.drop (lo+m))) rows')⟩
     else none
    | _,_,_=>none
   | _,_=>none
  | _=>none
 | _,_=>none
def Kr (P:Program) (R:List Res) (c:Cl) (t:TypeId) (len:Option Value):Option Out:=
 match P.underlying t,len,c with
 | some (.slice e),some (.int .i64 l),.room _ _ rows'=>match Bu P e,(P.info? e).map (·.bytes),(Dk P e).bind λ z=>Ej z.cells.toList with
  | some (size+1),some bytes,some ds=>match dPs ds with
   | some zs=>bif Nat.beq zs.length (size+1) then some ⟨.d (.os R.length),R++[.sl e (size+1) rows'],some (.room (l*(bytes+1)) (List.replicate l.toNat zs) rows')⟩ else none
   | none=>none
  | _,_,_=>none
 | some (.slice e),some (.int .i64 l),.roomZ _ _ rows'=>match Bu P e,(P.info? e).map (·.bytes),(Dk P e).bind λ z=>Ej z.cells.toList with
  | some (size+1),some bytes,some ds=>match dPs ds with
   | some zs=>bif Nat.beq zs.length (size+1)&&zs.all zB then some ⟨.d (.os R.length),R++[.zsl e (size+1) rows'],some (.roomZ (l*(bytes+1)) (List.replicate l.toNat (zs.map Pd.nz)) rows')⟩ else none
   | none=>none
  | _,_,_=>none
 | _,_,_=>none
def Tz (s:ByteArray):List Int:=s.data.toList.map λ b=>(b.toNat:Int)
def Ku (s:ByteArray):List (List Pd):=(Tz s).map λ n=>[Pd.v (.int .u8 n)]
def O7 (P:Program) (R:List Res) (c:Cl) (s d:TypeId) (x:Option Value):Option Out:=
 match P.underlying s,P.underlying d,x,c with
 | some .string,some (.slice e),some (.string b),.room _ _ rows'=>match P.underlying e with
  | some (.int .u8)=>some ⟨.d (.p (.s rows')),R,some (.room b.size (Ku b) rows')⟩
  | _=>none
 | _,_,_,_=>none
def Jr:Operand->Operand->Bool
 | .tmp a,.tmp b=>Nat.beq a b
 | .const (.int .i64 a),.const (.int .i64 b)=>a==b
 | _,_=>false
def An0:Cl->Bool
 | .call _ _ _ _ R2 pi=>R2.isEmpty&&pi.isEmpty
 | _=>false
def Aon (R:List Res) (c:Cl) (o:Oper) (i k size off:Nat) (ds:List D) (n:Nat):Option Out:=
 match R[i]?,c,dPs ds with
 | some (.sl e s rows),.upd _ _ row _ rows',some ps=>
  bif Nat.beq s size&&(Nat.beq ds.length n&&(Nat.ble (off+n) size&&o.dst.isNone)) then some ⟨.tup [],R.set i (.sl e s rows'),some (.upd rows k row (row.take off++(ps++row.drop (off+n))) rows')⟩ else none
 | _,_,_=>none
def H8 (P : Program) (L : List Ent) (cur : Ci) (R : List Res) (c : Cl) (o : Oper) : Option Out :=
 match B5 P L cur R c o.op with
 | some (v,k)=>some ⟨v,R,k⟩
 | none=>match o.op with
  | .box t x=>match (B0 L cur x).bind Gu,Bu P t with
    | some cells,some n=>bif Nat.beq cells.length n then some ⟨.d (.o R.length 0),R++[.box t cells],none⟩ else none
    | _,_=>none
  | .alloc t=>match (Dk P t).bind λ z=>Ej z.cells.toList with
    | some cells=>some ⟨.d (.o R.length 0),R++[.box t cells],none⟩
    | none=>none
  | .store t a x=>bif cur.isEmpty then match B0 L cur a,(B0 L cur x).bind Gu,Bu P t with
    | some (.d (.o i off)),some ds,some n=>match R[i]? with
     | some (.box u cells)=>bif Nat.beq ds.length n&&Nat.ble (off+n) cells.length&&o.dst.isNone then some ⟨.tup [],R.set i (.box u (L_ cells off ds)),none⟩ else none
     | _=>none
    | some (.d (.oe i k size off)),some ds,some n=>match Aon R c o i k size off ds n with
     | some x=>some x
     | none=>Tl R c o i k size off ds n
    | _,_,_=>none
   else none
  | .buildSlice t len parts=>match Iy L cur parts.toList with
    | some ps=>F2 P R c t len ps
    | none=>none
  | .convert s d x=>O7 P R c s d ((B0 L cur x).bind Cp)
  | .makeSlice t l k=>bif Jr l k then Kr P R c t ((B0 L cur l).bind Cp) else none
  | .call k=>match k.callee with
   | .value f=>match B0 L cur f,Df L cur k.args.toList with
    | some (.d (.fn (.func g) first caps)),some args=>Fg R (first.map AV.d++args++caps.map AV.d) g c
    | _,_=>none
   | .builtin .append=>match Df L cur k.args.toList with
    | some [.d (.oi i g q size off),y]=>I1 P R c k.argTypes.toList i g q size off y
    | some [.d (.osb i 0 n s),y]=>I0 P R c k.argTypes.toList i n s y
    | some args=>C6 P R c k.argTypes.toList args
    | none=>none
   | .builtin .clear=>match Df L cur k.args.toList with
    | some args=>O8 P R c k.argTypes.toList args
    | none=>none
   | .builtin .copy=>match Df L cur k.args.toList with
    | some args=>Tn P R c k.argTypes.toList args
    | none=>none
   | _=>none
  | _=>none
def Axg:Cl->Bool
 | .callB _ _ _ _ _ _=>true
 | .call _ _ _ _ _ pi=>pi.isEmpty
 | _=>false
def isW:Cl->Bool
 | .appD ..=>true
 | .appP ..=>true
 | _=>false
def Ma (r:Bool) (c:Cl) (o:Oper):Bool:=
 match o.op with
 | .store ..=>false
 | .call k=>match k.callee with
  | .value _=>r || Axg c
  | .builtin .clear | .builtin .copy=>false
  | _=>!isW c
 | _=>true
def isR:Cl->Bool
 | .whenR _ _=>true
 | _=>false
def E4:Cl->Cl
 | .when _ c=>c
 | .whenR _ c=>c
 | c=>c
def Rx (L:List Ent):Ci->Ci->Bool
 | _,[]=>true
 | acc,(t,b)::p=>match D_ L t with
  | some e=>Ey e.p acc&&Rx L (acc++[(t,b)]) p
  | none=>false
def Mu (L:List Ent) (cur:Ci) (r:Bool) (c:Cl) (o:Oper):Bool:=cur.isEmpty || (Ma r c o&&(!r || Rx L [] cur))
def I4 (cur:Ci) (r:Bool) (cs:List (Bool×Bool)) (x:Cl):Cl:=bif cur.isEmpty then x else bif r then .whenR cs x else .when cs x
def Sv (L:List Ent) (t:Nat) (p:Ci) (v:AV):List Ent:=
 ⟨t,p,v⟩::L.filter λ e=>!(Nat.beq e.t t)&&e.p.all λ g=>!(Nat.beq g.1 t)
def A97:Op->Bool
 | .binOp .quo .. | .binOp .rem .. | .indexAddr .. | .slice ..=>true
 | _=>false
def Agr (P:Program) (n:Nat) (ops:Array Oper) (L:List Ent) (R:List Res) (c:Cl) (o:Oper):Option (List Ent×List Res×Option Cl):=
 match Kp ops L o with
 | none=>none
 | some cur=>
  match H8 P L cur R (E4 c) o,E5 L cur with
  | some out,some cs=>bif Mu L cur (isR c) (E4 c) o then
   let k:=out.c.map (I4 cur (isR c) cs)
   match o.dst with
   | some d=>bif Nat.blt d n&&cur.all (λ g=>!(Nat.beq g.1 d)) then some (Sv L d cur out.v,out.R,k) else none
   | none=>bif cur.isEmpty then some (L,out.R,k) else none
   else none
  | _,_=>none
def V0 (P : Program) (n : Nat) (ops : Array Oper) : List Nat -> List Ent -> List Res -> List Cl -> Option (List Ent × List Res × List Cl)
 | [],L,R,_=>some (L,R,[])
 | i::is,L,R,cls=>match ops[i]? with
  | none=>none
  | some o=>match Agr P n ops L R (cls.headD .nop) o with
   | none=>none
   | some (L',R',some c)=>match V0 P n ops is L' R' cls.tail with
    | some (L2,R2,cs)=>some (L2,R2,c::cs)
    | none=>none
   | some (L',R',none)=>V0 P n ops is L' R' cls
end Go.SL
