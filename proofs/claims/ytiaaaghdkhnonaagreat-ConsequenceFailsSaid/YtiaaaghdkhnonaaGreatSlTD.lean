import Derived.Test.YtiaaaghdkhnonaaGreatSlN
import Derived.RangeFuncNested
import Derived.RangeFuncLeaves
import Derived.KernelRfl
namespace Go.SL
structure Rec where
 i:Nat
 o:Oper
 need:List Ent
 cur:Dn
 cs:List (Bool×Bool)
 c:Cl
 Rin:List Res
 out:Out
 eff:Bool
 r:Bool
 fl:Option Nat
def Xq(ops:Array Oper)(o:Oper):eR:=
  (o.op.operands.toList.filterMap fun|.tmp t=>some t|_=>none) ++
  (match o.guard with
   |none=>[]
   | some (j,_)=>match (ops[j]?).bind (·.dst) with
     |some t=>[t]
     |none=>[])
def Lf(L:List Ent):eR->List Ent
 | []=>[]
 |t::r=>match Eu L t with
  |some e=>e::(e.p.filterMap λg=>Eu L g.1)++Lf L r
  |none=>Lf L r
def Aby:Cl->Bool
 |.call _ _ _ res _ _=>(res.ren λ_=>none).isSome
 |_=>false
def Amx:Cl->Bool
 |.callB ..=>true
 |_=>false
def G7(c:Cl)(o:Oper):Bool:=
 match o.op with
 |.box .. | .alloc _|.store .. | .makeSlice ..=>false
 |.buildSlice ..=>!Mp c
 |.convert ..=>!isZ c
 |.call k=>match k.callee with
  |.builtin .append|.builtin .clear|.builtin .copy=>false
  |.builtin _=>true
  |_=>Amx c || (Amm c&&Aby c)
 |_=>true
def Anh(n:Nat)(o:Oper)(cur:Dn):Bool:=
 match o.dst with
 |some d=>Nat.blt d n&&cur.all (λg=>!(Nat.beq g.1 d))
 |none=>cur.isEmpty
def qJ(P : Program)(L : List Ent)(cur : Dn)(R : List Res)(c : Cl)(i : Nat)(o : Oper) : Option Out :=
 match o.op with
 | .makeSlice t l k=>match c,R[i]? with
  | .fltm _ c0 _ _,some r'=>match Ly l k,M8 P [] c0 t ((look L cur l).bind Dm) with
   |true,some out=>match out.R,out.c with
    | [r1],some c1=>some ⟨.d (.os i),R,some (.fltm i c1 r1 r')⟩
    |_,_=>none
   |_,_=>none
  |_,_=>none
 |.alloc t=>match (Fp P t).bind λz=>Gu z.cells.toList,R[i]? with
  |some cells,some r'=>some ⟨.d (.o i 0),R,some (.flt i (.box t cells) r')⟩
  |_,_=>none
 |_=>none
def Td(o:Oper)(c:Cl):Option Nat:=
 match o.op with
 |.alloc _=>match c with
  |.flt i _ _=>some i
  |_=>none
 |.makeSlice ..=>match c with
  |.fltm i _ _ _=>some i
  |_=>none
 |_=>none
def Anf(P:Program)(L:List Ent)(cur:Dn)(R:List Res)(c:Cl)(o:Oper):Option Out:=
 match Td o c with
 |some i=>qJ P L cur R c i o
 |none=>J7 P L cur R c o
def Sv(P : Program)(n : Nat)(ops : Array Oper) : eR -> List Ent -> List Res -> List Cl -> Option (List Rec × List Ent × List Res × List Cl)
 | [],L,R,_=>some ([],L,R,[])
 | i :: is, L, R, cls => match ops[i]? with
  |none=>none
  | some o=>
   let need:=Lf L (Xq ops o)
   match M6 ops need o with
   |none=>none
   | some cur=>
    let c:=cls.headD .nop
    match Anf P need cur R (Hj c) o,Hk need cur with
    | some out,some cs=>
     let L':=match o.dst with|some d=>U4 L d cur out.v|none=>L
     bif Anh n o cur&&O9 need cur (isR c) (Hj c) o then
      match out.c with
      |some x=>match Sv P n ops is L' out.R cls.tail with
       |some (rs,L2,R2,ks)=>some (⟨i,o,need,cur,cs,Hj c,R,out,(Td o (Hj c)).isNone && !G7 (Hj c) o,isR c,Td o (Hj c)⟩::rs,L2,R2,K5 cur (isR c) cs x::ks)
       |none=>none
      |none=>match Sv P n ops is L' out.R cls with
       |some (rs,L2,R2,ks)=>some (⟨i,o,need,cur,cs,Hj c,R,out,(Td o (Hj c)).isNone && !G7 (Hj c) o,isR c,Td o (Hj c)⟩::rs,L2,R2,ks)
       |none=>none
     else none
    |_,_=>none
def Nl:eR->Nat->Bool
 | [],_=>false
 |a::r,t=>Nat.beq a t || Nl r t
def orE(l:eR):List Edge->Nat->Nat
 | [],m=>m
 |e::r,m=>orE l r (bif Region.binds .any e&&Nat.blt e.on l.length then Nat.lor m (Nat.lor (Nat.shiftLeft 1 e.on) ((l[e.on]?).getD 0)) else m)
def Nt(ops:Array Oper):Nat->eR
 |0=>[]
 | j+1=>
  let l:=Nt ops j
  l++[match ops[j]? with
   |some o=>orE l o.after.toList 0
   |none=>0]
def Y6(m i:Nat):Bool:=Nat.beq (Nat.land (Nat.shiftRight m i) 1) 1
def C_:List Ent->eR
 | []=>[]
 |e::r=>match e.v with
  |.d (.o i _)=>i::C_ r
  |.d (.os i)=>i::C_ r
  |.d (.oe i _ _ _)=>i::C_ r
  |.d (.osb i _ _ _)=>i::C_ r
  |.d (.oi i g _ _ _)=>i::g::C_ r
  |_=>C_ r
def Rb(R:List Res):eR->eR
 | []=>[]
 |i::r=>match R[i]? with
  |some (.dsl _ _ g)=>g::Rb R r
  |_=>Rb R r
def deepen(R:List Res)(l:eR):eR:=l++Rb R l
def Lw(o:Op)(L:List Ent):eR:=
 match o with
 |.move _|.assign _|.nilCheck _|.fieldAddr .. | .extract .. | .pick .. | .build .. | .unOp ..=>[]
 |_=>C_ L
def yE:List D->eR
 | []=>[]
 |.os j::r=>j::yE r
 |_::r=>yE r
mutual
def D.touchV(R:List Res):D->eR
 |.os i=>[i]
 |.osb i _ _ _=>[i]
 |.oi _ g _ _ _=>[g]
 |.o i _=>i::(match R[i]? with
  |some (.box _ cells)=>yE cells
  |_=>[])
 |.fn _ a b=>db R a++db R b
 |_=>[]
def db(R:List Res):List D->eR
 | []=>[]
 |d::r=>D.touchV R d++db R r
end
def AV.touchV(R:List Res):AV->eR
 |.d x=>x.touchV R
 |.agg ds=>db R ds
 |.tup _=>[]
def touchV(R:List Res):List Ent->eR
 | []=>[]
 |e::r=>e.v.touchV R++touchV R r
def Awr(c:Cl)(R:List Res)(L:List Ent):eR:=bif Amx c then touchV R L else []
def Ov(r:Rec):eR:=
 match r.fl with
 |some i=>[i]
 |none=>deepen r.Rin (Lw r.o.op r.need)++Awr r.c r.Rin r.need
def Af9(L:List Ent)(cur:Dn):List Operand->eR
 |x::_=>match look L cur x with
  |some (.d (.os j))=>[j]
  |some (.d (.osb j _ _ _))=>[j]
  |_=>C_ L
 | []=>C_ L
def Ep(r:Rec):eR:=
 match r.o.op with
 |.store _ a _=>match look r.need r.cur a with
  |some (.d (.o i _))=>[i]
  |some (.d (.oe i _ _ _))=>i::(deepen r.Rin (C_ r.need)++touchV r.Rin r.need)
  |_=>[]
 | .call k=>match k.callee with
  |.value _=>match r.c with
   |.call _ _ _ _ _ pi=>pi
   |_=>[]
  |.builtin .append=>Af9 r.need r.cur k.args.toList
  |.builtin .clear|.builtin .copy=>C_ r.need
  |_=>[]
 |_=>[]
def clear(need:List Ent)(d:Nat):Bool:=need.all λe=>!(Nat.beq e.t d)&&e.p.all λg=>!(Nat.beq g.1 d)
def Q6(r q:Rec):Bool:=
 (!r.eff || !q.eff) &&
 (match r.o.dst with|some d=>clear q.need d && !(q.cur.any λg=>Nat.beq g.1 d)&&(match q.o.dst with|some d'=>!(Nat.beq d d')|none=>true)|none=>true) &&
 (match q.o.dst with|some d=>clear r.need d|none=>true) &&
 (!r.eff || (Ov q).all λi=>!(Nl (Ep r) i)&&Nat.blt i r.Rin.length) &&
 (!q.eff || (Ov r).all λi=>!(Nl (Ep q) i)&&Nat.blt i q.Rin.length)
def Kg:List Rec->eR
 | []=>[]
 |r::rs=>match r.fl with
  |some i=>i::Kg rs
  |none=>Kg rs
def Pb(lo hi:Nat)(rs:List Rec):Bool:=Gq (Kg rs)&&(Kg rs).all λi=>Nat.ble lo i&&Nat.blt i hi
def Oh(ops:Array Oper)(L0:List Ent)(rs:List Rec):Bool:=
 let cl:=Nt ops ops.size
 L0.all (λe=>e.p.isEmpty) &&
 (rs.all λr=>r.o.after.all λe=>!(Region.binds .any e) || Nat.blt e.on r.i) &&
 rs.all λr=>rs.all λq=>Nat.ble q.i r.i || (Y6 ((cl[q.i]?).getD 0) r.i || Q6 r q)
end Go.SL
namespace Go.SL
variable{res y:AV}{c:Cl}{f:FuncId}{args q vs:List AV}{ds:List D}{l:List Operand}{rw:List Pd}{ts:List TypeId}{g i i' j k n off s size:Nat}{o:Oper}{x:Operand}{out:Out}{v:Value}
section
variable{P:Program}{C:Ctx}{S S':Nat->Prop}{w w':World}{ρ ρ':eU}{R R':List Res}{L:List Ent}{cur:Dn}{a:Act}
theorem Aa5:∀{L:List Ent}{e:Ent}{i off:Nat},e∈L->e.v=.d (.o i off)->i∈C_ L
 | x::r,e,i,off,h,hv=>by
  rcases ag.1 h with rfl|h
  .simp[C_,hv]
  .have:=Aa5 h hv;unfold C_;split <;> simp[this]
 | [],_,_,_,h,_=>by cases h
theorem Yc:∀{L:List Ent}{e:Ent}{i:Nat},e∈L->e.v=.d (.os i)->i∈C_ L
 | x::r,e,i,h,hv=>by
  rcases ag.1 h with rfl|h
  .simp[C_,hv]
  .have:=Yc h hv;unfold C_;split <;> simp[this]
 | [],_,_,h,_=>by cases h
theorem Yd:∀{L:List Ent}{e:Ent}{i a b c:Nat},e∈L->e.v=.d (.oe i a b c)->i∈C_ L
 | x::r,e,i,a,b,c,h,hv=>by
  rcases ag.1 h with rfl|h
  .simp[C_,hv]
  .have:=Yd h hv;unfold C_;split <;> simp[this]
 | [],_,_,_,_,_,h,_=>by cases h
theorem Ye:∀{L:List Ent}{e:Ent}{i a b c:Nat},e∈L->e.v=.d (.osb i a b c)->i∈C_ L
 | x::r,e,i,a,b,c,h,hv=>by
  rcases ag.1 h with rfl|h
  .simp[C_,hv]
  .have:=Ye h hv;unfold C_;split <;> simp[this]
 | [],_,_,_,_,_,h,_=>by cases h
theorem Uq:∀{L:List Ent}{e:Ent}{i g a b c:Nat},e∈L->e.v=.d (.oi i g a b c)->i∈C_ L/\g∈C_ L
 | x::r,e,i,g,a,b,c,h,hv=>by
  rcases ag.1 h with rfl|h
  .simp[C_,hv]
  .have:=Uq h hv;unfold C_;split <;> simp[this]
 | [],_,_,_,_,_,_,h,_=>by cases h
theorem qB{i g e s:Nat}:∀{l:eR},i∈l->R[i]?=some (.dsl e s g)->g∈Rb R l
 | [],h,_=>by cases h
 | j::l,h,hi=>by
  rcases ag.1 h with rfl|h
  .simp[Rb,hi]
  .have:=qB h hi;unfold Rb;split <;> simp[this]
variable{l:eR}
theorem Ani(h:i∈l):i∈deepen R l:=bp _ h
theorem Afd{e:Nat}(h:i∈l)(hi:R[i]?=some (.dsl e s g)):g∈deepen R l:=bx _ (qB h hi)
theorem Rs{a b c:Nat}:Pm v≠some (.d (.o i off))/\Pm v≠some (.d (.os i))/\Pm v≠some (.d (.oe i a b c))/\Pm v≠some (.d (.osb i a b c))/\∀g,Pm v≠some (.d (.oi i g a b c)):=by
 unfold Pm;split
 .refine⟨?_,?_,?_,?_,λ_=>?_⟩ <;> (cases Gu (_:Array Value).toList <;> simp)
 .simp
 grind[dOf]
theorem Ams(h:look L cur x=some (.d (.o i off))):i∈C_ L:=by
 unfold look at h;split at h
 .exact absurd h (Rs (a:=0) (b:=0) (c:=0)).1
 .split at h
  .rename_i e he;cases hb:G8 e.p cur with
   |false=>rw[hb]at h;simp at h
   |true=>rw[hb]at h;simp at h;exact Aa5 (Dh he).1 h
  .cases h
 .simp at h
 .cases h
theorem E1(h:look L cur x=some (.d (.os i))):i∈C_ L:=by
 unfold look at h;split at h
 .exact absurd h (Rs (off:=0) (a:=0) (b:=0) (c:=0)).2.1
 .split at h
  .rename_i e he;cases hb:G8 e.p cur with
   |false=>rw[hb]at h;simp at h
   |true=>rw[hb]at h;simp at h;exact Yc (Dh he).1 h
  .cases h
 .simp at h
 .cases h
theorem O4(h:look L cur x=some (.d (.oe i k s off))):i∈C_ L:=by
 unfold look at h;split at h
 .exact absurd h (Rs (off:=0)).2.2.1
 .split at h
  .rename_i e he;cases hb:G8 e.p cur with
   |false=>rw[hb]at h;simp at h
   |true=>rw[hb]at h;simp at h;exact Yd (Dh he).1 h
  .cases h
 .simp at h
 .cases h
theorem Vb(h:look L cur x=some (.d (.osb i k s off))):i∈C_ L:=by
 unfold look at h;split at h
 .exact absurd h (Rs (off:=0)).2.2.2.1
 .split at h
  .rename_i e he;cases hb:G8 e.p cur with
   |false=>rw[hb]at h;simp at h
   |true=>rw[hb]at h;simp at h;exact Ye (Dh he).1 h
  .cases h
 .simp at h
 .cases h
theorem Acz(h:look L cur x=some (.d (.oi i g k s off))):i∈C_ L/\g∈C_ L:=by
 unfold look at h;split at h
 .exact absurd h ((Rs (off:=0)).2.2.2.2 g)
 .split at h
  .rename_i e he;cases hb:G8 e.p cur with
   |false=>rw[hb]at h;simp at h
   |true=>rw[hb]at h;simp at h;exact Uq (Dh he).1 h
  .cases h
 .simp at h
 .cases h
theorem G6:∀{l:List Operand}{avs:List AV}{av:AV},Ek L cur l=some avs->av∈avs->∃x,look L cur x=some av
 | [],avs,av,h,hm=>by simp[Ek]at h;subst h;cases hm
 | x::r,avs,av,h,hm=>by
  simp only[Ek]at h;split at h
  .rename_i v l h1 h2;simp at h;subst h;rcases ag.1 hm with rfl|hm
   .exact⟨x,h1⟩
   .exact G6 h2 hm
  .cases h
theorem Ae5(h:∀i,AV.d (.os i)∈args->R[i]?=R'[i]?)(hg:∀i e s g,AV.d (.os i)∈args->R[i]?=some (.dsl e s g)->R[g]?=R'[g]?):M9 R args=M9 R' args:=by
 unfold M9;split
 .rfl
 .rfl
 .rename_i i;rw[←h i (by simp)];split
  .rfl
  .rename_i e s g hd;rw[hg i e s g (by simp) hd]
  .rfl
  .rfl
 .rfl
 .rfl
theorem Ae2{op:Op}(h0:∀i,i∈deepen R (Lw op L)->R[i]?=R'[i]?):Cw P L cur R c op=Cw P L cur R' c op:=by
 have h:∀i,i∈Lw op L->R[i]?=R'[i]?:=λi hi=>h0 i (Ani hi);have hgh:∀i e s g,i∈Lw op L->R[i]?=some (.dsl e s g)->R[g]?=R'[g]?:=λi e s g hi hd=>h0 g (Afd hi hd);cases op with
 | load t x=>
  by_cases hg:∃g,x=.global g
  .obtain⟨g,rfl⟩:=hg;rfl
  have e:∀R,Cw P L cur R c (.load t x)=Vx P L cur R c t x:=λR=>by
   cases x with
   |global g=>exact absurd ⟨g,rfl⟩ hg
   |_=>rfl
  rw[e,e];unfold Vx;split
  .rename_i i off n e1 e2;rw[h i (Ams e1)]
  .rfl
  .rename_i i k size off n e1 e2;rw[←h i (O4 e1)];split
   .rfl
   .rename_i e s g _ _ _ hd;rw[hgh i _ _ _ (O4 e1) hd]
   .rfl
   .rfl
  .rfl
 | binOp b t x y z=>
  simp only[Cw];unfold Anb;split
  .rfl
  .split
   .rfl
   .rename_i i e1 e2;rw[h i (E1 e1)]
   .rfl
   .rfl
 | convert s d x=>
  simp only[Cw];unfold qG;split
  .rfl
  .split
   .split
    .rename_i i e1 e2;rw[h i (E1 e2)]
    .rfl
    .rfl
   .rfl
 | indexAddr t x i=>
  simp only[Cw];unfold Ana;split
  .rfl
  .rename_i e j ik n e1 e2 e3;rw[←h j (E1 e2)];split
   .rfl
   .rename_i e s g _ _ _ hd;rw[hgh j _ _ _ (E1 e2) hd]
   .rfl
   .rfl
  .rfl
  .rfl
  .rfl
  .rfl
 | call k=>
  simp only[Cw];split
  .split
   .rename_i args e1;split
    .split
     .rw[Ae5 (R':=R') (λi hi=>by
       obtain⟨x,hx⟩:=G6 e1 hi;exact h i (E1 hx)) (λi e s g hi hd=>by
       obtain⟨x,hx⟩:=G6 e1 hi;exact hgh i e s g (E1 hx) hd)]
     .rfl
     .rfl
    .rfl
   .rfl
  .rfl
 | slice t x lo hi mx=>
  cases mx with
  | none=>
   simp only[Cw];split
   .rfl
   .rename_i e i e1 e2;rw[h i (E1 e2)]
   .rename_i e i o0 n0 s0 e1 e2;rw[h i (Vb e2)]
   .rfl
   .rfl
  | some mx=>
   cases lo with
   |none=>rfl
   | some lo=>
    cases hi with
    |none=>rfl
    | some hi=>
     simp only[Cw];split
     .rename_i e i e1 e2;rw[h i (E1 e2)]
     .rfl
 |_=>rfl
mutual
theorem Abw(f:Nat->Option Nat):∀(d d':D),D.ren (λ_=>none) d=some d'->D.ren f d=some d'
 |.p x,d',h=>h
 |.o i off,d',h=>by simp[D.ren]at h
 |.os i,d',h=>by simp[D.ren]at h
 |.oe i k s off,d',h=>by simp[D.ren]at h
 |.ip c,d',h=>h
 |.any,d',h=>h
 |.nq _,d',h=>h
 |.osb _ _ _ _,d',h=>by simp[D.ren]at h
 |.oi _ _ _ _ _,d',h=>by simp[D.ren]at h
 | .fn g a b,d',h=>by
  simp only[D.ren]at h ⊢;split at h
  .rename_i a' b' h1 h2;rw[Oc f a a' h1,Oc f b b' h2];exact h
  .cases h
theorem Oc(f:Nat->Option Nat):∀(l l':List D),D.renL (λ_=>none) l=some l'->D.renL f l=some l'
 | [],l',h=>h
 | d::r,l',h=>by
  simp only[D.renL]at h ⊢;split at h
  .rename_i d' r' h1 h2;rw[Abw f d d' h1,Oc f r r' h2];exact h
  .cases h
end
mutual
theorem uC(f:Nat->Option Nat):∀(d d':AV),AV.ren (λ_=>none) d=some d'->AV.ren f d=some d'
 | .d x,d',h=>by
  simp only[AV.ren]at h ⊢;split at h
  .rename_i y hy;rw[Abw f x y hy];exact h
  .cases h
 | .agg ds,d',h=>by
  simp only[AV.ren]at h ⊢;split at h
  .rename_i y hy;rw[Oc f ds y hy];exact h
  .cases h
 | .tup l,d',h=>by
  simp only[AV.ren]at h ⊢;split at h
  .rename_i y hy;rw[Yq f l y hy];exact h
  .cases h
theorem Yq(f:Nat->Option Nat):∀(l l':List AV),AV.renL (λ_=>none) l=some l'->AV.renL f l=some l'
 | [],l',h=>h
 | d::r,l',h=>by
  simp only[AV.renL]at h ⊢;split at h
  .rename_i d' r' h1 h2;rw[uC f d d' h1,Yq f r r' h2];exact h
  .cases h
end
theorem Ae7(hn:Amm c=true)(hc:Aby c=true)
  (h:Hu R args f c=some out):out.R=R/\Hu R' args f c=some {out with R:=R'}:=by
 unfold Amm at hn;split at hn
 .rename_i g q1 q2 res R2 pi;simp only[ac,cH]at hn;obtain⟨rfl,rfl⟩:=hn;obtain⟨res',hres⟩:=Option.isSome_iff_exists.1 hc;unfold Hu at h ⊢;simp only at h ⊢;generalize hbb:(Nat.beq f g&&Gq []&&Nat.ble ([]:eR).length ([]:List Res).length)=bb at h ⊢;cases bb with
  |false=>simp at h
  | true=>
   simp only[ez]at h ⊢;split at h
   .rename_i a' Rp e1 e2;rw[e1];simp only[Le]at e2 ⊢;simp only[ah]at e2;subst e2;simp only[Jb,uC _ res res' hres]at h ⊢;simp at h;subst h;simp[Gh]
   .cases h
 .cases hn
theorem Uf:∀{l:List D},(∀i,i∈yE l->R[i]?=R'[i]?)->Iz R l=Iz R' l
 | [],_=>rfl
 | d::r,h=>by
  have ih:Iz R r=Iz R' r:=Uf λi hi=>h i (by cases d <;> simp[yE,hi]);have hd:K8 R d=K8 R' d:=by
   cases d with
   |os i=>simp only[K8];rw[h i (by simp[yE])]
   |_=>rfl
  simp only[Iz,ih,hd]
mutual
theorem Yr{rw:List Pd}:∀{d:D},(∀i,i∈d.touchV R->R[i]?=R'[i]?)->d.view R rw=d.view R' rw
 |.p _,_=>rfl
 |.ip _,_=>rfl
 |.any,_=>rfl
 |.nq _,_=>rfl
 |.oe _ _ _ _,_=>rfl
 |.osb i _ _ _,h=>by simp only[D.view];rw[h i (by simp[D.touchV])]
 |.oi _ g _ _ _,h=>by simp only[D.view];rw[h g (by simp[D.touchV])]
 |.os i,h=>by simp only[D.view];rw[h i (by simp[D.touchV])]
 | .o i off,h=>by
  have h0:=h i (by simp[D.touchV]);simp only[D.view];rw[←h0];cases hi:R[i]? with
  |none=>rfl
  | some r=>cases r with
   |box t cells=>simp only;rw[Uf (R':=R') λk hk=>h k (by simp only[D.touchV,hi];exact al _ hk)]
   |_=>rfl
 |.fn g a b,h=>by have h1:=Lt (rw:=rw) (l:=a) λi hi=>h i (by simp only[D.touchV];exact bp _ hi);have h2:=Lt (rw:=rw) (l:=b) λi hi=>h i (by simp only[D.touchV];exact bx _ hi);simp only[D.view,h1,h2]
theorem Lt{rw:List Pd}:∀{l:List D},(∀i,i∈db R l->R[i]?=R'[i]?)->D.viewL R rw l=D.viewL R' rw l
 | [],_=>rfl
 |d::r,h=>by have h1:=Yr (rw:=rw) (d:=d) λi hi=>h i (by simp only[db];exact bp _ hi);have h2:=Lt (rw:=rw) (l:=r) λi hi=>h i (by simp only[db];exact bx _ hi);simp only[D.viewL,h1,h2]
end
variable{x:AV}
theorem Aie(h:∀i,i∈x.touchV R->R[i]?=R'[i]?):x.view R rw=x.view R' rw:=by
 cases x with
 |d x=>simp only[AV.view];rw[Yr (R':=R') h]
 |agg l=>simp only[AV.view];rw[Lt (R':=R') h]
 |tup l=>rfl
theorem Ui{rw:List Pd}:∀{l:List AV},(∀x,x∈l->∀i,i∈x.touchV R->R[i]?=R'[i]?)->AV.viewL R rw l=AV.viewL R' rw l
 | [],_=>rfl
 |x::r,h=>by have h1:=Aie (rw:=rw) (x:=x) (h x ai);have h2:=Ui (rw:=rw) (l:=r) λy hy=>h y (al _ hy);simp only[AV.viewL,h1,h2]
theorem Z3{e:Ent}{i:Nat}:∀{L:List Ent},e∈L->i∈e.v.touchV R->i∈touchV R L
 | [],h,_=>by cases h
 |x::r,h,hi=>by
  simp only[touchV];rcases ag.1 h with rfl|h
  .exact bp _ hi
  .exact bx _ (Z3 h hi)
theorem Aj7{i:Nat}:∀{l:eU}{ds:List D},Gu l=some ds->i∉db R ds
 | [],ds,h=>by grind[Gu,db]
 | v::l,ds,h=>by
  simp only[Gu]at h;split at h
  .rename_i d r h1 h2;simp at h;subst h;unfold dOf at h1;cases hb:v.oneCell' with
   |false=>rw[hb]at h1;simp at h1
   |true=>rw[hb]at h1;simp at h1;subst h1;simpa[db,D.touchV]using Aj7 h2
  .cases h
theorem Anx(h:Pm v=some x):i∉x.touchV R:=by
 unfold Pm at h;split at h
 .cases hd:Gu (_:Array Value).toList with
  |none=>rw[hd]at h;cases h
  |some ds=>grind[AV.touchV,Aj7]
 .cases h
 .cases hd:dOf v with
  |none=>rw[hd]at h;cases h
  |some d=>
   rw[hd]at h;simp at h;subst h;unfold dOf at hd;cases hb:v.oneCell' with
   |false=>rw[hb]at hd;simp at hd
   |true=>rw[hb]at hd;simp at hd;subst hd;simp[AV.touchV,D.touchV]
variable{v:AV}
theorem Kb{x:Operand}(h:look L cur x=some v)(hi:i∈v.touchV R):i∈touchV R L:=by
 unfold look at h;split at h
 .exact absurd hi (Anx h)
 .split at h
  .rename_i e he;cases hb:G8 e.p cur with
   |false=>rw[hb]at h;simp at h
   |true=>rw[hb]at h;simp at h;subst h;exact Z3 (Dh he).1 hi
  .cases h
 .simp at h;subst h;simp[AV.touchV,D.touchV,db]at hi
 .cases h
theorem V2{d:D}:d.norm.touchV R=d.touchV R:=by unfold D.norm;split <;> rfl
theorem Ug:∀{l:List D},db R (l.map D.norm)=db R l
 | []=>rfl
 |d::r=>by simp only[bw,db,V2,Ug]
theorem Aiq:x.norm.touchV R=x.touchV R:=by
 cases x with
 |d x=>exact V2
 |agg l=>exact Ug
 |tup l=>rfl
theorem N7{g k:Nat}:∀{d:D},(g,k)∈d.ois->g∈d.touchV R
 |.oi _ _ _ _ _,h=>by simp[D.ois]at h;simp[D.touchV,h.1]
 | .fn f a b,h=>by
  have key:∀{l:List D},(∀d,d∈l->(g,k)∈d.ois->g∈d.touchV R)->(g,k)∈dm l->g∈db R l:=by
   intro l;induction l with
   |nil=>intro _ h;simp[dm]at h
   |cons d l ih=>intro hh h;simp only[dm,am]at h;simp only[db,am];grind
  simp only[D.ois,am]at h;simp only[D.touchV,am];rcases h with h|h
  .exact .inl (key (λd _ h=>N7 h) h)
  .exact .inr (key (λd _ h=>N7 h) h)
 |.p _,h=>by simp[D.ois]at h
 |.o _ _,h=>by simp[D.ois]at h
 |.os _,h=>by simp[D.ois]at h
 |.oe _ _ _ _,h=>by simp[D.ois]at h
 |.osb _ _ _ _,h=>by simp[D.ois]at h
 |.ip _,h=>by simp[D.ois]at h
 |.any,h=>by simp[D.ois]at h
 |.nq _,h=>by simp[D.ois]at h
theorem U8{g k:Nat}:∀{l:List D},(g,k)∈dm l->g∈db R l
 | [],h=>by simp[dm]at h
 |d::l,h=>by simp only[dm,am]at h;simp only[db,am];exact h.imp N7 U8
theorem Yl{g k:Nat}:∀{l:List AV},(g,k)∈oisL l->∃x,x∈l/\g∈x.touchV R
 | [],h=>by simp[oisL]at h
 | x::l,h=>by
  simp only[oisL,am]at h;rcases h with h|h
  .refine⟨x,ai,?_⟩;cases x with
   |d x=>exact N7 h
   |agg l=>exact U8 h
   |tup l=>simp[AV.ois]at h
  .obtain⟨y,h1,h2⟩:=Yl h;grind
theorem Ac4{g:FuncId}{rows:List (List Pd)}(ht:∀x,x∈args->∀i,i∈x.touchV R->R[i]?=R'[i]?)
  (h:Hu R args f (.callB g q res rows k rw)=some out):out.R=R/\Hu R' args f (.callB g q res rows k rw)=some {out with R:=R'}:=by
 simp only[Hu]at h ⊢;generalize (Nat.beq f g&&res.flat)=bb at h ⊢;have hview:∀rw,AV.viewL R rw (args.map AV.norm)=AV.viewL R' rw (args.map AV.norm):=λrw=>Ui (R:=R) (R':=R') (l:=args.map AV.norm) λx hx i hi=>by obtain⟨y,hy,rfl⟩:=an.1 hx;rw[Aiq]at hi;exact ht y hy i hi
 cases bb with
 |false=>simp at h
 | true=>
  simp only[ez]at h ⊢;split at h
  .rw[←hview];split at h
   .grind
   .cases h
  .rename_i g0 k0 ho;obtain⟨x,h1,h2⟩:=Yl (R:=R) (l:=args) (g:=g0) (k:=k0) (by rw[ho];simp);rw[←hview,←ht x h1 g0 h2];split at h
   .grind
   .cases h
  .cases h
variable{l:List Operand}
theorem Aep{g:Fn}{first caps:List D}{f:Operand}(e1:look L cur f=some (.d (.fn g first caps)))(e2:Ek L cur l=some args)
  (hx:x∈first.map AV.d++args++caps.map AV.d)(hi:i∈x.touchV R):i∈touchV R L:=by
 have hd:∀{ds:List D}{d:D},d∈ds->i∈d.touchV R->i∈db R ds:=by
  intro ds;induction ds with
  |nil=>intro d h;cases h
  |cons a r ih=>intro d h hi;simp only[db];grind
 rcases am.1 hx with hx|hx
 .rcases am.1 hx with hx|hx
  .obtain⟨d,hm,rfl⟩:=an.1 hx;exact Kb e1 (by simp only[AV.touchV,D.touchV];exact bp _ (hd hm hi))
  .obtain⟨z,hz⟩:=G6 e2 hx;exact Kb hz hi
 .obtain⟨d,hm,rfl⟩:=an.1 hx;exact Kb e1 (by simp only[AV.touchV,D.touchV];exact bx _ (hd hm hi))
theorem Yj(hq : G7 c o = true)(ht0 : ∀i, i ∈ deepen R (Lw o.op L) ++ Awr c R L -> R[i]?=R'[i]?)(h : J7 P L cur R c o = some out) :
    out.R=R/\J7 P L cur R' c o=some {out with R:=R'}:=by
  have ht:∀i,i∈deepen R (Lw o.op L)->R[i]?=R'[i]?:=λi hi=>ht0 i (bp _ hi);unfold J7 at h ⊢;rw[←Ae2 ht];split at h
  · rename_i v k hv;simp at h;subst h;exact⟨rfl,rfl⟩
  · rename_i hv;obtain⟨dst,op,type,pos,after,guard⟩:=o;simp only at h ⊢;cases op with
    |box t x=>simp[G7]at hq
    |alloc t=>simp[G7]at hq
    |store t x y=>simp[G7]at hq
    |makeSlice t x y=>simp[G7]at hq
    | convert s d x=>
      simp only[G7,aW]at hq;simp only at h ⊢;have hO:∀R' x,Rf P R' c s d x=none:=λ_ _=>rfl;have hB:∀R' x,Rh P R' c s d x=none:=λ_ _=>rfl;unfold Re at h ⊢;rw[hO,hB]at h ⊢;split at h
      · rename_i o1 h0;cases h;unfold Vz at h0 ⊢;split at h0
        · split at h0
          · rename_i he;simp at h0;subst h0;exact⟨rfl,rfl⟩
          · cases h0
        · cases h0
      · cases h
    | buildSlice t len parts=>
      simp only[G7,aW]at hq;simp only at h ⊢;split at h
      · rename_i ps e1;unfold Ig at h ⊢;rw[hq]at h ⊢;split at h
        · rename_i e hu;split at h
          · rename_i size zs e2 e3;cases hb:(Nat.beq zs.length (size+1)&&Nat.ble (len*(size+1)) 16777216) with
            |false=>rw[hb]at h;simp at h
            | true=>
              rw[hb]at h;simp only[ez,eB]at h ⊢;split at h
              · rename_i pd hpd;simp at h;subst h;exact⟨rfl,rfl⟩
              · simp at h
          · cases h
        · cases h
      · cases h
    | call kk=>
      obtain⟨callee,cargs,argTypes⟩:=kk;cases callee with
      |invoke r m=>simp at h
      |builtin b=>cases b <;> first|(simp[G7]at hq;done)|(simp at h;done)
      | value f=>
        simp only[G7,aC,ac]at hq;simp only at h ⊢;split at h
        · rename_i g first caps args e1 e2;cases c with
          | callB g' q res rows k rw=>exact Ac4 (λx hx i hi=>ht0 i (bx _ (Aep e1 e2 hx hi))) h
          | _=>first
            | (rcases hq with hq|hq
               · simp [Amx]at hq
               · exact Ae7 hq.1 hq.2 h)
        · cases h
    |_=>simp at h
theorem Sy:∀{l:eR}{t:Nat},Nl l t=true↔t∈l
 | [],t=>by simp[Nl]
 | a::r,t=>by
  simp only[Nl,aC,ag,Sy];constructor
  .rintro (h|h)
   .exact .inl (ak h).symm
   .exact .inr h
  .rintro (h|h)
   .subst h;exact .inl (by simp)
   .exact .inr h
theorem Ac5(h:Dd P R c ts [.d (.os j),y]=some out)(hi:i<R.length)(hj:i≠j):out.R[i]?=R[i]?:=by
 match ts,h with
 | [t,u],h=>
  simp only[Dd]at h;cases hts2:Nat.beq t u with
  |false=>rw[hts2]at h;simp at h
  |true=>
   rw[hts2]at h;simp only[ez]at h;split at h
   .grind
   .cases h
 | [],h=>simp[Dd]at h
 | [_],h=>simp[Dd]at h
 |_::_::_::_,h=>simp[Dd]at h
theorem yV(h:Kz P R c ts i' g k size off y=some out)(hi:i<R.length)(h1:i≠i')(h2:i≠g):out.R[i]?=R[i]?:=by
 unfold Kz at h;split at h
 .split at h
  .generalize ((_&&_:Bool))=bb at h;cases bb with
   |false=>simp at h
   | true=>
    simp only[ez]at h;split at h
    .rename_i v' R' a b z m r' hap;simp at h;subst h;have:=Ac5 (i:=i) hap (by simp;omega) (by omega);grind
    .cases h
  .cases h
 .cases h
theorem yU(h:Na P R c ts i' n s y=some out)(h1:i≠i'):out.R[i]?=R[i]?:=by
 unfold Na at h;split at h
 .grind
 .cases h
theorem Ai4{lo:Nat}{a:Operand}(h:qM R x=some (i,lo,n,s))(hl:look L cur a=some x):i∈C_ L:=by
 unfold qM at h;split at h
 .split at h
  .simp at h;obtain⟨rfl,_⟩:=h;exact E1 hl
  .cases h
 .simp at h;obtain⟨rfl,_⟩:=h;exact Vb hl
 .cases h
theorem Ae6(h:Ri P R c ts args=some out)(hl:Ek L cur l=some args)(h1:i∉C_ L):out.R[i]?=R[i]?:=by
 unfold Ri at h;split at h
 .rename_i x;split at h
  .split at h
   .rename_i hd;split at h
    .generalize ((_&&_:Bool))=bb at h;cases bb with
     |false=>simp at h
     |true=>simp only[ez,ah]at h;subst h;obtain⟨z,hz⟩:=G6 hl (av:=x) (by simp);have:=Ai4 hd hz;grind
    .cases h
   .cases h
  .cases h
 .cases h
theorem Ai0(h:Vy P R c ts args=some out)(hl:Ek L cur l=some args)(h1:i∉C_ L):out.R[i]?=R[i]?:=by unfold Vy at h;cases h
theorem Aiz(h:Vw R c o i' k size off ds n=some out)(hi:i<R.length)(h1:i≠i')(h2:∀e s g,R[i']?=some (.dsl e s g)->i≠g)(h3:∀m,ds=[.os m]->i≠m):out.R[i]?=R[i]?:=by
 unfold Vw at h;split at h
 next e s g m q1 q2 q3 row q4 rows' hj=>grind
 next=>cases h
theorem Aiy(h:Vv R c o i' k size off ds n=some out)(h1:i≠i')(h3:∀m,ds=[.os m]->i≠m):out.R[i]?=R[i]?:=by unfold Vv at h;cases h
theorem O5(h:Ek L cur l=some (v::vs)):∃x xs,l=x::xs/\look L cur x=some v:=by
 match l,h with
 | [],h=>cases h
 |x::xs,h=>refine⟨x,xs,rfl,?_⟩;simp only[Ek]at h;grind
theorem Art{cs : List (Bool × Bool)}(h : J7 P L cur R c o = some out)(hi : i < R.length)(hw : i ∉ Ep ⟨0, o, L, cur, cs, c, R, out, true, false, none⟩) : out.R[i]?=R[i]? := by
  unfold J7 at h;split at h
  · simp at h;subst h;rfl
  · obtain ⟨dst, op, type, pos, after, guard⟩ := o;simp only at h;cases op with
    | box t x=>
      simp only at h;split at h
      · generalize (Nat.beq _ _)=bb at h;cases bb with
        |false=>simp at h
        |true=>simp at h;subst h;simp[eO hi]
      · cases h
    | alloc t=>
      simp only at h;split at h
      · simp at h;subst h;simp[eO hi]
      · cases h
    | store t x y =>
      simp only at h;cases hc:cur.isEmpty with
      |false=>rw[hc]at h;simp at h
      | true=>
        rw[hc]at h;simp only[ez]at h;split at h
        · rename_i j off ds n e1 e2 e3;split at h
          · generalize (Nat.beq _ _&&Nat.ble _ _&&Option.isNone _)=bb at h;cases bb with
            |false=>simp at h
            | true=>simp at h;subst h;simp only[Ep,e1,aU]at hw;simp only;rw[bJ (Ne.symm hw)]
          · cases h
        · rename_i j k size off ds n e1 e2 e3;simp only[Ep,e1,ag,not_or]at hw;obtain⟨hw1,hw2⟩:=hw;split at h
          · rename_i out' hput;simp at h;subst h;unfold Am9 at hput;split at hput
            · generalize (Nat.beq _ _&&(Nat.beq _ _&&(Nat.ble _ _&&Option.isNone _)))=bb at hput;cases bb with
              |false=>simp at hput
              | true=>simp at hput;subst hput;simp only;rw[bJ (Ne.symm hw1)]
            · cases hput
          · have hms:∀m,ds=[.os m]->i≠m:=by
              intro m hds;rintro rfl;subst hds;refine hw2 (bx _ ?_);obtain⟨av,h1,h2⟩:=Db e2;cases av with
              |d x=>simp[I6]at h2;subst h2;exact Kb h1 (by simp[AV.touchV,D.touchV])
              |agg l=>simp[I6]at h2;subst h2;exact Kb h1 (by simp[AV.touchV,D.touchV,db])
              |tup l=>simp[I6]at h2
            split at h
            · rename_i out' hput;simp at h;subst h;refine Aiz hput hi hw1 (λe s g hj=>?_) hms;rintro rfl;exact hw2 (bp _ (Afd (O4 e1) hj))
            · exact Aiy h hw1 hms
        · cases h
    | buildSlice t len parts=>
      simp only at h;split at h
      · unfold Ig at h;split at h
        · split at h
          · generalize (Nat.beq _ _&&Nat.ble _ _)=bb at h;cases bb with
            |false=>simp at h
            | true=>
              simp only[ez]at h;split at h
              · cases ho:Mp c with
                |true=>rw[ho]at h;simp at h;subst h;simp[eO hi]
                |false=>rw[ho]at h;simp at h;subst h;rfl
              · generalize (Mp c&&Nat.beq _ _)=bb at h;cases bb with
                |false=>simp at h
                |true=>obtain⟨ds,_,rfl⟩:=D_ h;simp[eO hi]
          · cases h
        · cases h
      · cases h
    | convert s d x=>
      simp only at h;rcases Abt h with e|⟨r,e⟩
      · rw [e]
      · rw [e,aD hi]
    | makeSlice t x y=>
      simp only at h;generalize (Ly x y)=bb at h;cases bb with
      |false=>simp at h
      | true=>
        simp only[ez]at h;unfold M8 at h;split at h
        · split at h
          · split at h
            · generalize (Nat.beq _ _)=bb at h;cases bb with
              |false=>simp at h
              |true=>simp at h;subst h;simp[eO hi]
            · cases h
          · cases h
        · split at h
          · split at h
            · generalize (Nat.beq _ _&&_)=bb at h;cases bb with
              |false=>simp at h
              |true=>simp at h;subst h;simp[eO hi]
            · cases h
          · cases h
        · cases h
    | call kk =>
      obtain⟨callee,cargs,argTypes⟩:=kk;cases callee with
      |invoke r m=>simp at h
      | builtin b=>
        cases b <;> first
          |(simp at h;done)
          | (simp only at h
             split at h
             · rename_i args e1
               first
                 |exact Ae6 h e1 (by simpa[Ep]using hw)
                 |exact Ai0 h e1 (by simpa[Ep]using hw)
             · cases h
             done)
          | (simp only at h
             split at h
             · rename_i i' g q size off y e1;have hall:=e1;obtain⟨z,hz⟩:=G6 e1 (av:=.d (.oi i' g q size off)) (by simp);obtain⟨hi1,hg1⟩:=Acz hz;obtain⟨x0,xs0,hx0,hv0⟩:=O5 e1;have hii:i≠i':=by rintro rfl;exact hw (by simpa[Ep,hx0,Af9,hv0]using hi1)
               have hig:i≠g:=by rintro rfl;exact hw (by simpa[Ep,hx0,Af9,hv0]using hg1)
               exact yV h hi hii hig
             · rename_i i' n s y e1;obtain⟨z,hz⟩:=G6 e1 (av:=.d (.osb i' 0 n s)) (by simp);obtain⟨x0,xs0,hx0,hv0⟩:=O5 e1;have hii:i≠i':=by rintro rfl;exact hw (by simp[Ep,hx0,Af9,hv0])
               unfold P4 at h;split at h
               · exact yU h hii
               · obtain⟨r0,hr0⟩:=V0 h;rw[hr0,aD (by simpa using hi),bJ (Ne.symm hii)]
             · rename_i args _ _ e1;unfold Dd at h;split at h
               · rename_i t u x y hts;generalize (Nat.beq _ _)=bb at h;cases bb with
                 |false=>simp at h
                 | true=>
                   simp only[ez]at h;split at h
                   · split at h
                     · split at h
                       · generalize (Nat.beq _ _)=bb at h;cases bb with
                         |false=>simp at h
                         | true=>
                           simp only[ez]at h;split at h
                           · simp at h;subst h;simp[eO hi]
                           · rename_i j;split at h
                             · generalize (Nat.beq _ _&&Nat.beq _ _)=bb at h;cases bb with
                               |false=>simp at h
                               | true=>simp at h;subst h;obtain⟨z,hz⟩:=G6 e1 (av:=.d (.os _)) ai;have hj:=E1 hz;simp only;rw[aD (by simpa using hi),bJ];rintro rfl;refine hw ?_;obtain⟨x0,xs0,hx0,hv0⟩:=O5 e1;simp[Ep,hx0,Af9,hv0]
                             · cases h
                           · cases h
                       · cases h
                     · cases h
                   · cases h
               · cases h
             · cases h)
      | value f =>
        simp only at h;split at h
        · rename_i g first caps args e1 e2;cases c with
          | call f' q1 q2 res R2 pi =>
            simp only[Hu]at h;generalize (Nat.beq g f'&&Gq pi&&Nat.ble pi.length R2.length)=bb at h;cases bb with
            |false=>simp at h
            | true=>
              simp only[ez]at h;split at h
              · split at h
                · rename_i Rp2 res2 RR e3 e4 e5;simp at h;subst h;simp only[Ep]at hw;simp only;rw[aD (by rw[Gs];exact hi)];cases hg:R[i]? with
                  |none=>rw[List.getElem?_eq_none_iff]at hg;omega
                  | some r=>
                    have hlt:i<(Gh R pi RR).length:=by rw[Gs];exact hi
                    rcases Ss pi R _ i _ (aj hlt) with⟨j,h1,_⟩|⟨h1,_⟩
                    · exact absurd (ae h1) hw
                    · rw [aj hlt,←h1,hg]
                · cases h
              · cases h
          | callB f' q1 res rows0 k0 rw0=>
            simp only[Hu]at h;generalize (Nat.beq g f'&&res.flat)=bb at h;cases bb with
            |false=>simp at h
            | true=>
              simp only[ez]at h;split at h
              · split at h
                · simp at h;subst h;rfl
                · cases h
              · split at h
                · simp at h;subst h;rfl
                · cases h
              · cases h
          |_=>simp[Hu]at h
        · cases h
    |_=>simp at h
end
end Go.SL
namespace Go.SL
variable{ops:Array Oper}{rs:List Rec}{i n:Nat}{X:Nat->Bool}{r:Rec}
section
variable{P:Program}{C:Ctx}{S S':Nat->Prop}{w w':World}{ρ ρ':eU}{R R':List Res}{L L':List Ent}{a:Act}
structure Adb(P:Program)(n:Nat)(ops:Array Oper)(r:Rec):Prop where
 op:ops[r.i]?=some r.o
 guard:M6 ops r.need r.o=some r.cur
 cs:Hk r.need r.cur=some r.cs
 ev:r.fl=none->J7 P r.need r.cur r.Rin r.c r.o=some r.out
 flo:∀i,r.fl=some i->qJ P r.need r.cur r.Rin r.c i r.o=some r.out
 dst:∀d,r.o.dst=some d->d<n/\r.cur.all (λg=>!(Nat.beq g.1 d))=true
 nodst:r.o.dst=none->r.cur.isEmpty=true
 ok:∀x,r.out.c=some x->(K5 r.cur r.r r.cs x).ok P
 gb:O9 r.need r.cur r.r r.c r.o=true
 eff:r.eff=(r.fl.isNone && !G7 r.c r.o)
def Amo(L:List Ent)(r:Rec):List Ent:=match r.o.dst with|some d=>U4 L d r.cur r.out.v|none=>L
def J4(P:Program)(n:Nat)(ops:Array Oper):List Ent->List Res->List Rec->List Ent->List Res->Prop
 |L,R,[],L',R'=>L=L'/\R=R'
 |L,R,r::rs,L',R'=>Adb P n ops r/\r.Rin=R/\(∀e,e∈r.need->e∈L)/\J4 P n ops (Amo L r) r.out.R rs L' R'
theorem N8:∀{ts:eR}{e:Ent},e∈Lf L ts->e∈L
 | [],e,h=>by simp[Lf]at h
 | t :: ts, e, h => by
  simp only[Lf]at h;split at h
  .rename_i x hx;rcases ag.1 h with rfl|h
   .exact(Dh hx).1
   .rcases am.1 h with h|h
    .rw[List.mem_filterMap]at h;obtain⟨g,_,hg⟩:=h;exact(Dh hg).1
    .exact N8 h
  .exact N8 h
theorem N4{n : Nat}{ops : Array Oper} : ∀{is : eR}{L : List Ent}{R : List Res}{cls : List Cl}{rs : List Rec}{L' : List Ent}{R' : List Res}{ks : List Cl},
  Sv P n ops is L R cls=some (rs,L',R',ks)->Dc P ks->J4 P n ops L R rs L' R'/\rs.map (·.i)=is
 | [],L,R,cls,rs,L',R',ks,h,_=>by simp[Sv]at h;obtain⟨rfl,rfl,rfl,rfl⟩:=h;exact⟨⟨rfl,rfl⟩,rfl⟩
 | i :: is, L, R, cls, rs, L', R', ks, h, hok => by
  simp only[Sv]at h;split at h
  .cases h
  .rename_i o ho;split at h
   .cases h
   .rename_i cur hcur;split at h
    .rename_i out cs e1 e2;cases hb:(Anh n o cur&&O9 (Lf L (Xq ops o)) cur (isR (cls.headD .nop)) (Hj (cls.headD .nop)) o) with
     |false=>rw[hb]at h;simp at h
     | true=>
      rw[hb]at h;simp only[ac]at hb;obtain⟨hb,hgb⟩:=hb;unfold Anh at hb;simp only[ez]at h;have hev1:Td o (Hj (cls.headD .nop))=none->J7 P (Lf L (Xq ops o)) cur R (Hj (cls.headD .nop)) o=some out:=by intro hf;unfold Anf at e1;rw[hf]at e1;exact e1
      have hev2:∀j,Td o (Hj (cls.headD .nop))=some j->qJ P (Lf L (Xq ops o)) cur R (Hj (cls.headD .nop)) j o=some out:=by intro j hf;unfold Anf at e1;rw[hf]at e1;exact e1
      have hdst:∀d,o.dst=some d->d<n/\cur.all (λg=>!(Nat.beq g.1 d))=true:=by intro d hd;rw[hd]at hb;simp only[ac]at hb;exact⟨by have:=hb.1;simpa[eN]using this,hb.2⟩
      have hnod:o.dst=none->cur.isEmpty=true:=by intro hd;rw[hd]at hb;exact hb
      split at h
      .rename_i x hx;split at h
       .rename_i rs2 L2 R2 ks2 e3;simp only[ah,au]at h;obtain⟨rfl,rfl,rfl,rfl⟩:=h;obtain⟨g1,g2⟩:=N4 e3 hok.2;exact⟨⟨⟨ho,hcur,e2,hev1,hev2,hdst,hnod,λy hy=>(by rw[hx]at hy;cases hy;exact hok.1),hgb,rfl⟩,rfl,λe he=>N8 he,g1⟩,by simp[g2]⟩
       .cases h
      .rename_i hx;split at h
       .rename_i rs2 L2 R2 ks2 e3;simp only[ah,au]at h;obtain⟨rfl,rfl,rfl,rfl⟩:=h;obtain⟨g1,g2⟩:=N4 e3 hok;exact⟨⟨⟨ho,hcur,e2,hev1,hev2,hdst,hnod,λy hy=>(by rw[hx]at hy;cases hy),hgb,rfl⟩,rfl,λe he=>N8 he,g1⟩,by simp[g2]⟩
       .cases h
    .cases h
theorem Tj{L:List Ent}{cur:Dn}{c:Cl}{o:Oper}{out:Out}(h:qJ P L cur R c i o=some out) :
  (∃t z cells r',o.op=.alloc t/\Fp P t=some z/\Gu z.cells.toList=some cells/\R[i]?=some r'/\out=⟨.d (.o i 0),R,some (.flt i (.box t cells) r')⟩) \/
  (∃t l c0 o1 r1 r' c1,o.op=.makeSlice t l l/\R[i]?=some r'/\M8 P [] c0 t ((look L cur l).bind Dm)=some o1/\o1.R=[r1]/\o1.c=some c1/\out=⟨.d (.os i),R,some (.fltm i c1 r1 r')⟩):=by
 unfold qJ at h;split at h
 .rename_i t l k ht;split at h
  .rename_i i0 c0 q1 q2 r' e1;split at h
   .rename_i o1 hs e2;have hlk:l=k:=by
     unfold Ly at hs;split at hs
     .rw[ak hs]
     .rw[eq_of_beq hs]
     .cases hs
    subst hlk;split at h
    .rename_i r1 c1 e3 e4;simp only[ah]at h;exact .inr ⟨t,l,c0,o1,r1,r',c1,ht,e1,e2,e3,e4,h.symm⟩
    .cases h
   .cases h
  .cases h
 .rename_i t ht;split at h
  .rename_i cells r' e1 e2;simp at h;cases hz:Fp P t with
   |none=>rw[hz]at e1;simp at e1
   |some z=>rw[hz]at e1;exact .inl ⟨t,z,cells,r',ht,hz,e1,e2,h.symm⟩
  .cases h
 .cases h
def E3(X:Nat->Bool):List Res->List Rec->List Res
 |R,[]=>R
 |R,r::rs=>bif r.eff&&X r.i then E3 X r.out.R rs else E3 X R rs
theorem I5(h:Adb P n ops r)(he:r.eff=false):r.out.R=r.Rin:=by
 have:=h.eff;rw[he]at this;cases hf:r.fl with
 |none=>rw[hf]at this;exact(Yj (R':=r.Rin) (by simpa using this.symm) (λ_ _=>rfl) (h.ev hf)).1
 |some i=>
  rcases Tj (h.flo i hf) with⟨t,z,cells,r',_,_,_,_,e⟩|⟨t,l,c0,o1,r1,r',c1,_,_,_,_,_,e⟩ <;>
  rw[e]
def PC(X:Nat->Bool)(rs:List Rec):Prop:=∀r q,r∈rs->q∈rs->r.eff=true->q.eff=true->r.i<q.i->X q.i=true->X r.i=true
def Gy(rs:List Rec):Prop:=rs.Pairwise λr q=>r.i<q.i
theorem PC.tail(h:PC X (r::rs)):PC X rs:=
 λa b ha hb=>h a b (al _ ha) (al _ hb)
theorem Gn{X:Nat->Bool}:∀{rs:List Rec}{R:List Res},(∀r,r∈rs->r.eff=true->X r.i=false)->E3 X R rs=R
 | [],R,_=>rfl
 |r::rs,R,h=>by
  have ih:=Gn (R:=R) (λq hq=>h q (al _ hq));simp only[E3];cases he:r.eff with
  |false=>simpa using ih
  |true=>rw[h r ai he];simpa using ih
theorem Li(hp:PC X (r::rs))(hs:Gy (r::rs))(he:r.eff=true)(hx:X r.i=false):∀q,q∈rs->q.eff=true->X q.i=false:=by
 intro q hq hqe;cases hxq:X q.i with
 |false=>rfl
 |true=>have:=hp r q ai (al _ hq) he hqe ((aL.1 hs).1 q hq) hxq;rw[hx]at this;cases this
theorem Apn{r':Rec}(h1:r.o=r'.o)(h2:r.need=r'.need)(h3:r.cur=r'.cur)(h4:r.c=r'.c)(h5:r.Rin=r'.Rin):Ep r=Ep r':=by unfold Ep;rw[h1,h2,h3,h4,h5]
theorem U2(h:Adb P n ops r)(hw:i∉Ep r)(hl:i<r.Rin.length):r.out.R[i]?=r.Rin[i]?:=by
 cases hf:r.fl with
 | none=>
  exact Art (cs:=r.cs) (h.ev hf) hl (λhm=>hw (by have e:Ep ⟨0,r.o,r.need,r.cur,r.cs,r.c,r.Rin,r.out,true,false,none⟩=Ep r:=Apn rfl rfl rfl rfl rfl;rw[←e];exact hm))
 |some j=>
  rcases Tj (h.flo j hf) with⟨t,z,cells,r',_,_,_,_,e⟩|⟨t,l,c0,o1,r1,r',c1,_,_,_,_,_,e⟩ <;>
  rw[e]
theorem P7{n:Nat}{ops:Array Oper}{X:Nat->Bool}{i:Nat}:∀{rs:List Rec}{L:List Ent}{R:List Res},J4 P n ops L R rs L' R'->Gy rs->PC X rs ->
  (∀r,r∈rs->r.eff=true->X r.i=true->i∉Ep r/\i<r.Rin.length)->(E3 X R rs)[i]?=R[i]?
 | [],L,R,_,_,_,_=>rfl
 | r::rs,L,R,hc,hs,hp,h=>by
  obtain⟨hr,hR,_,hc'⟩:=hc;simp only[E3];cases he:r.eff with
  |false=>have hq:=I5 hr he;rw[hq,hR]at hc';simpa using P7 hc' (aL.1 hs).2 hp.tail (λq hq=>h q (al _ hq))
  | true=>
   cases hx:X r.i with
   |false=>simp only[Bool.and_false,eB];rw[Gn (Li hp hs he hx)]
   |true=>simp only[Bool.and_self,ez];rw[P7 hc' (aL.1 hs).2 hp.tail (λq hq=>h q (al _ hq))];obtain⟨g1,g2⟩:=h r ai he hx;rw[U2 hr g1 g2,hR]
theorem Zf{n:Nat}{ops:Array Oper}{X Y:Nat->Bool}{i:Nat}:∀{rs:List Rec}{L:List Ent}{R:List Res},J4 P n ops L R rs L' R'->Gy rs->PC X rs->PC Y rs ->
  (∀r,r∈rs->r.eff=true->X r.i≠Y r.i->i∉Ep r/\i<r.Rin.length)->(E3 X R rs)[i]?=(E3 Y R rs)[i]?
 | [],L,R,_,_,_,_,_=>rfl
 | r :: rs, L, R, hc, hs, hp, hq, h => by
  obtain⟨hr,hR,_,hc'⟩:=hc;have hs':=(aL.1 hs).2;simp only[E3];cases he:r.eff with
  |false=>have hq':=I5 hr he;rw[hq',hR]at hc';simpa using Zf hc' hs' hp.tail hq.tail (λq hq=>h q (al _ hq))
  | true=>
   cases hx:X r.i with
   | false=>
    cases hy:Y r.i with
    |false=>simp only[Bool.and_false,eB];rw[Gn (Li hp hs he hx),Gn (Li hq hs he hy)]
    |true=>simp only[Bool.and_false,eB,Bool.and_self,ez];have hl:=Li hp hs he hx;rw[Gn hl,P7 hc' hs' hq.tail λq hq2 hqe hqy=>h q (al _ hq2) hqe (by rw[hl q hq2 hqe,hqy];simp)];obtain⟨g1,g2⟩:=h r ai he (by rw[hx,hy];simp);rw[U2 hr g1 g2,hR]
   | true=>
    cases hy:Y r.i with
    |true=>simp only[Bool.and_self,ez];exact Zf hc' hs' hp.tail hq.tail (λq hq=>h q (al _ hq))
    |false=>simp only[Bool.and_false,eB,Bool.and_self,ez];have hl:=Li hq hs he hy;rw[Gn hl,P7 hc' hs' hp.tail λq hq2 hqe hqx=>h q (al _ hq2) hqe (by rw[hl q hq2 hqe,hqx];simp)];obtain⟨g1,g2⟩:=h r ai he (by rw[hx,hy];simp);rw[U2 hr g1 g2,hR]
theorem Lo{X Y:Nat->Bool}:∀{rs:List Rec}{R:List Res},(∀r,r∈rs->r.eff=true->X r.i=Y r.i)->E3 X R rs=E3 Y R rs
 | [],_,_=>rfl
 | r::rs,R,h=>by
  simp only[E3];cases he:r.eff with
  |false=>simpa using Lo (λq hq=>h q (al _ hq))
  |true=>rw[h r ai he];cases Y r.i <;> simpa using Lo (λq hq=>h q (al _ hq))
theorem X1{n:Nat}{ops:Array Oper}{q:Rec}:∀{rs:List Rec}{L:List Ent}{R:List Res},J4 P n ops L R rs L' R'->Gy rs->q∈rs->E3 (λi=>Nat.blt i q.i) R rs=q.Rin
 | [],L,R,_,_,h=>by cases h
 | r::rs,L,R,hc,hs,hq=>by
  obtain⟨hr,hR,_,hc'⟩:=hc;have hs':=(aL.1 hs).2;have hlt:=(aL.1 hs).1;rcases ag.1 hq with rfl|hq
  .rw[hR];refine Gn λx hx _=>?_;rcases ag.1 hx with rfl|hx
   .cases hb:Nat.blt x.i x.i with
    |false=>rfl
    |true=>rw[bq]at hb;omega
   .have:=hlt x hx;cases hb:Nat.blt x.i q.i with
    |false=>rfl
    |true=>rw[bq]at hb;omega
  .have h1:Nat.blt r.i q.i=true:=by rw[bq];exact hlt q hq
   simp only[E3,h1,bO];cases he:r.eff with
   |false=>have hq':=I5 hr he;rw[hq',hR]at hc';exact X1 hc' hs' hq
   |true=>exact X1 hc' hs' hq
theorem Qo{n:Nat}{ops:Array Oper}{q:Rec}:∀{rs:List Rec}{L:List Ent}{R:List Res},J4 P n ops L R rs L' R'->Gy rs->q∈rs->E3 (λi=>Nat.ble i q.i) R rs=q.out.R
 | [],L,R,_,_,h=>by cases h
 | r::rs,L,R,hc,hs,hq=>by
  obtain⟨hr,hR,_,hc'⟩:=hc;have hs':=(aL.1 hs).2;have hlt:=(aL.1 hs).1;rcases ag.1 hq with rfl|hq
  .have h1:Nat.ble q.i q.i=true:=by simp
   have hno:∀x,x∈rs->x.eff=true->Nat.ble x.i q.i=false:=by
    intro x hx _;have:=hlt x hx;cases hb:Nat.ble x.i q.i with
    |false=>rfl
    |true=>have:=bv hb;omega
   simp only[E3,h1,bO];cases he:q.eff with
   |false=>simp only[eB];rw[Gn hno,I5 hr he,hR]
   |true=>simp only[ez];rw[Gn hno]
  .have h1:Nat.ble r.i q.i=true:=by have:=hlt q hq;exact Nat.ble_eq_true_of_le (by omega)
   simp only[E3,h1,bO];cases he:r.eff with
   |false=>have hq':=I5 hr he;rw[hq',hR]at hc';exact Qo hc' hs' hq
   |true=>exact Qo hc' hs' hq
theorem Tm{n:Nat}{ops:Array Oper}{X:Nat->Bool}:∀{rs:List Rec}{L:List Ent}{R:List Res},J4 P n ops L R rs L' R'->(∀r,r∈rs->X r.i=true)->E3 X R rs=R'
 | [],L,R,hc,_=>hc.2
 | r::rs,L,R,hc,h=>by
  obtain⟨hr,hR,_,hc'⟩:=hc;simp only[E3,h r ai,bO];cases he:r.eff with
  |false=>have hq':=I5 hr he;rw[hq',hR]at hc';exact Tm hc' (λq hq=>h q (al _ hq))
  |true=>exact Tm hc' (λq hq=>h q (al _ hq))
theorem K1{n:Nat}{ops:Array Oper}{q:Rec}:∀{rs:List Rec}{L:List Ent}{R:List Res},J4 P n ops L R rs L' R'->q∈rs->Adb P n ops q
 | [],L,R,_,h=>by cases h
 |r::rs,L,R,hc,hq=>by
  rcases ag.1 hq with rfl|hq
  .exact hc.1
  .exact K1 hc.2.2.2 hq
def K4(q:Rec)(e:Ent):Prop:=∀d,q.o.dst=some d->d≠e.t/\∀g,g∈e.p->g.1≠d
def Api(rs:List Rec)(L0:List Ent)(X:Nat->Bool)(e:Ent):Prop:=
 (e∈L0/\∀q,q∈rs->X q.i=true->K4 q e) \/
 (∃r,r∈rs/\X r.i=true/\r.o.dst=some e.t/\e.p=r.cur/\e.v=r.out.v/\∀q,q∈rs->r.i<q.i->X q.i=true->K4 q e)
theorem Tt{n:Nat}{ops:Array Oper}:∀{rs:List Rec}{L:List Ent}{R:List Res},J4 P n ops L R rs L' R'->Gy rs->∀e,e∈L' ->
  (e∈L/\∀q,q∈rs->K4 q e)\/(∃r,r∈rs/\r.o.dst=some e.t/\e.p=r.cur/\e.v=r.out.v/\∀q,q∈rs->r.i<q.i->K4 q e)
 | [],L,R,hc,_,e,he=>by have:=hc.1;subst this;exact .inl ⟨he,λq hq=>by cases hq⟩
 | r :: rs, L, R, hc, hs, e, he => by
  obtain⟨hr,hR,_,hc'⟩:=hc;have hs':=(aL.1 hs).2;have hlt:=(aL.1 hs).1;rcases Tt hc' hs' e he with⟨h1,h2⟩|⟨x,h1,h2,h3,h4,h5⟩
  .unfold Amo at h1;cases hd:r.o.dst with
   |none=>
    rw[hd]at h1;refine .inl ⟨h1,λq hq=>?_⟩;rcases ag.1 hq with rfl|hq
    .intro d hd';rw[hd]at hd';cases hd'
    .exact h2 q hq
   | some d=>
    rw[hd]at h1;unfold U4 at h1;rcases ag.1 h1 with rfl|h1
    .refine .inr ⟨r,ai,hd,rfl,rfl,λq hq hlt'=>?_⟩;rcases ag.1 hq with rfl|hq
     .omega
     .exact h2 q hq
    .rw[ar]at h1;obtain⟨h1,hf⟩:=h1;simp only[ac]at hf;refine .inl ⟨h1,λq hq=>?_⟩;rcases ag.1 hq with rfl|hq
     .intro d' hd';rw[hd]at hd';cases hd';refine⟨λe'=>?_,λg hg e'=>?_⟩
      .subst e';simp at hf
      .have:=(aG.1 hf.2) g hg;subst e';simp at this
     .exact h2 q hq
  .refine .inr ⟨x,al _ h1,h2,h3,h4,λq hq hlt'=>?_⟩;rcases ag.1 hq with rfl|hq
   .have:=hlt x h1;omega
   .exact h5 q hq hlt'
theorem qW{n : Nat}{ops : Array Oper}{q : Rec} : ∀{rs : List Rec}{L : List Ent}{R : List Res}, J4 P n ops L R rs L' R' -> Gy rs -> q ∈ rs -> ∀e, e ∈ q.need ->
  (e∈L/\∀x,x∈rs->x.i<q.i->K4 x e)\/(∃r,r∈rs/\r.i<q.i/\r.o.dst=some e.t/\e.p=r.cur/\e.v=r.out.v/\∀x,x∈rs->r.i<x.i->x.i<q.i->K4 x e)
 | [],L,R,_,_,h,_,_=>by cases h
 | r :: rs, L, R, hc, hs, hq, e, he => by
  obtain⟨hr,hR,hn,hc'⟩:=hc;have hs':=(aL.1 hs).2;have hlt:=(aL.1 hs).1;rcases ag.1 hq with rfl|hq
  .refine .inl ⟨hn e he,λx hx hlt'=>?_⟩;rcases ag.1 hx with rfl|hx
   .omega
   .have:=hlt x hx;omega
  .rcases qW hc' hs' hq e he with⟨h1,h2⟩|⟨x,h1,h1',h2,h3,h4,h5⟩
   .unfold Amo at h1;cases hd:r.o.dst with
    |none=>
     rw[hd]at h1;refine .inl ⟨h1,λq' hq' hl=>?_⟩;rcases ag.1 hq' with rfl|hq'
     .intro d hd';rw[hd]at hd';cases hd'
     .exact h2 q' hq' hl
    | some d=>
     rw[hd]at h1;unfold U4 at h1;rcases ag.1 h1 with rfl|h1
     .refine .inr ⟨r,ai,hlt q hq,hd,rfl,rfl,λq' hq' hlt' hl=>?_⟩;rcases ag.1 hq' with rfl|hq'
      .omega
      .exact h2 q' hq' hl
     .rw[ar]at h1;obtain⟨h1,hf⟩:=h1;simp only[ac]at hf;refine .inl ⟨h1,λq' hq' hl=>?_⟩;rcases ag.1 hq' with rfl|hq'
      .intro d' hd';rw[hd]at hd';cases hd';refine⟨λe'=>?_,λg hg e'=>?_⟩
       .subst e';simp at hf
       .have:=(aG.1 hf.2) g hg;subst e';simp at this
      .exact h2 q' hq' hl
   .refine .inr ⟨x,al _ h1,h1',h2,h3,h4,λq' hq' hlt' hl=>?_⟩;rcases ag.1 hq' with rfl|hq'
    .have:=hlt x h1;omega
    .exact h5 q' hq' hlt' hl
end
end Go.SL
namespace Go.SL
variable{d i:Nat}{X X':Nat->Bool}{q:Rec}{v:Value}
section
variable{P:Program}{C:Ctx}{S S':Nat->Prop}{w w':World}{ρ ρ':eU}{R R' R0:List Res}{L L' L0:List Ent}{a:Act}{n:Nat}{ops:Array Oper}{rs:List Rec}
def Ag(ops:Array Oper)(X:Nat->Bool):Prop:=∀j o,X j=true->ops[j]?=some o->∀e,e∈o.after->Region.binds .any e=true->X e.on=true
theorem Yo:∀N,(Nt ops N).length=N
 |0=>rfl
 |N+1=>by simp[Nt,Yo N]
theorem Ad9{m:Nat}(h:Y6 m i=true):m.testBit i=true:=by have h1:(m >>> i) &&& 1=1:=ak h;unfold Nat.testBit;rw[Nat.and_comm,h1];rfl
theorem Aqi{l:eR}{i:Nat}:∀{es:List Edge}{m:Nat},(orE l es m).testBit i=true->m.testBit i=true\/∃e,e∈es/\Region.binds .any e=true/\(e.on=i\/∃m',l[e.on]?=some m'/\m'.testBit i=true)
 | [],m,h=>.inl h
 | e :: r, m, h => by
  simp only[orE]at h;rcases Aqi h with h|⟨e',h1,h2⟩
  .cases hb:(Region.binds .any e&&Nat.blt e.on l.length) with
   |false=>rw[hb]at h;exact .inl h
   | true=>
    rw[hb]at h;simp only[ez]at h;simp only[ac]at hb;have h':(m ||| ((1 <<< e.on) ||| (l[e.on]?).getD 0)).testBit i=true:=h;simp only[Nat.testBit_or,aC]at h';rcases h' with h'|h'|h'
    .exact .inl h'
    .refine .inr ⟨e,ai,hb.1,.inl ?_⟩;rw[Nat.testBit_shiftLeft]at h';simp only[ac,dM]at h';rcases aM e.on i with hlt|hge
     .have:=Nat.testBit_one_eq_true_iff_self_eq_zero.1 h'.2;omega
     .omega
    grind
  grind
theorem A1v(hX:Ag ops X)(N:Nat):∀{j i:Nat}{m:Nat},(Nt ops N)[j]?=some m->m.testBit i=true->X j=true->X i=true:=by
 induction N with
 |zero=>intro j i l h _ _;simp[Nt]at h
 | succ N ih=>
  intro j i m h hi hj;simp only[Nt]at h;rcases Ei h with h|⟨e,h⟩
  .exact ih h hi hj
  .rw[Yo]at e;subst e;cases ho:ops[j]? with
   |none=>rw[ho]at h;subst h;simp at hi
   | some o=>
    rw[ho]at h;simp only at h;subst h;rcases Aqi hi with hi|⟨e,he,hb,hi⟩
    .simp at hi
    .have hon:=hX j o hj ho e (Array.mem_toList_iff.1 he) hb;grind
theorem P_(hX:Ag ops X){j:Nat}(h:Y6 (((Nt ops ops.size)[j]?).getD 0) i=true)(hj:X j=true):X i=true:=by have h:=Ad9 h;grind[A1v]
structure Adg(ops:Array Oper)(L0:List Ent)(rs:List Rec):Prop where
 flat:∀e,e∈L0->e.p=[]
 back:∀r,r∈rs->∀e,e∈r.o.after->Region.binds .any e=true->e.on<r.i
 pair:∀r q,r∈rs->q∈rs->r.i<q.i->Y6 (((Nt ops ops.size)[q.i]?).getD 0) r.i=true\/Q6 r q=true
theorem uD(h:Oh ops L0 rs=true):Adg ops L0 rs:=by
 unfold Oh at h;simp only[ac,aG]at h;obtain⟨⟨h1,h2⟩,h3⟩:=h;refine⟨λe he=>by simpa using h1 e he,λr hr e he hb=>?_,λr q hr hq hlt=>?_⟩
 .have:=h2 r hr;rw[Array.all_eq_true_iff_forall_mem]at this;have:=this e he;rw[hb]at this;simpa[eN]using this
 .have:=h3 r hr q hq;simp only[aC]at this;rcases this with h|h|h
  .have:=bv h;omega
  .exact .inl h
  .exact .inr h
theorem qT{need:List Ent}(h:clear need d=true):∀e,e∈need->d≠e.t/\∀g,g∈e.p->g.1≠d:=by
 intro e he;unfold clear at h;have:=(aG.1 h) e he;simp only[ac]at this;refine⟨λe'=>?_,λg hg e'=>?_⟩
 .subst e';simp at this
 .have h2:=(aG.1 this.2) g hg;subst e';simp at h2
structure A6s(r q:Rec):Prop where
 eff:r.eff=false\/q.eff=false
 d1:∀d,r.o.dst=some d->(∀e,e∈q.need->d≠e.t/\∀g,g∈e.p->g.1≠d)/\(∀g,g∈q.cur->g.1≠d)/\q.o.dst≠some d
 d2:∀d,q.o.dst=some d->∀e,e∈r.need->d≠e.t/\∀g,g∈e.p->g.1≠d
 e1:r.eff=true->∀i,i∈Ov q->i∉Ep r/\i<r.Rin.length
 e2:q.eff=true->∀i,i∈Ov r->i∉Ep q/\i<q.Rin.length
theorem G5{r:Rec}(h:Q6 r q=true):A6s r q:=by
 unfold Q6 at h;simp only[ac]at h;obtain⟨⟨⟨⟨h1,h2⟩,h3⟩,h4⟩,h5⟩:=h;refine⟨?_,λd hd=>?_,λd hd=>?_,λhe i hi=>?_,λhe i hi=>?_⟩
 .simpa using h1
 .rw[hd]at h2;simp only[ac]at h2;obtain⟨⟨g1,g2⟩,g3⟩:=h2;refine⟨qT g1,λg hg e=>?_,λe=>?_⟩
  .simp only[aW]at g2;have:=(bN.1 g2) g hg;subst e;simp at this
  .rw[e]at g3;simp at g3
 .rw[hd]at h3;exact qT h3
 .rw[he]at h4;simp only[aH,aQ]at h4;have:=(aG.1 h4) i hi;simp only[ac,aW]at this;refine⟨λhm=>?_,by have:=this.2;simpa[eN]using this⟩;rw[←Sy]at hm;rw[hm]at this;simp at this
 .rw[he]at h5;simp only[aH,aQ]at h5;have:=(aG.1 h5) i hi;simp only[ac,aW]at this;refine⟨λhm=>?_,by have:=this.2;simpa[eN]using this⟩;rw[←Sy]at hm;rw[hm]at this;simp at this
def J(n:Nat)(C:Ctx)(L0:List Ent)(R0:List Res)(rs:List Rec)(X:Nat->Bool)(a:Act)(w:World):Prop:=
 a.defers=C.df/\a.tmps.size=n/\∃S ρ,Inv C S w ρ (E3 X R0 rs)/\(∀e,Api rs L0 X e->Ya S w ρ a e) /\
  ∀r i,r∈rs->r.fl=some i->X r.i=false->∃h,ρ[i]?=some h/\h.oneCell'=false
structure Agj(C:Ctx)(rs:List Rec):Prop where
 inj:∀r q i,r∈rs->q∈rs->r.fl=some i->q.fl=some i->r=q
 low:∀r i,r∈rs->r.fl=some i->C.h.length<=i
theorem Ky{r:Rec}{i:Nat}:∀{rs:List Rec},r∈rs->r.fl=some i->i∈Kg rs
 | [],h,_=>by cases h
 | x::rs,h,hf=>by
  rcases ag.1 h with rfl|h
  .simp[Kg,hf]
  .have:=Ky h hf;unfold Kg;grind
theorem Ais{l:eR}(h:(Fy l i).isNone=true):i∉l:=by
 induction l with
 |nil=>simp
 | cons a r ih=>
  simp only[Fy]at h;cases hb:Nat.beq a i with
  |true=>rw[hb]at h;simp at h
  |false=>
   rw[hb]at h;simp only[eB]at h;intro hm;rcases ag.1 hm with rfl|hm
   .simp at hb
   grind
theorem Vs:∀{rs:List Rec},Gq (Kg rs)=true->∀r q i,r∈rs->q∈rs->r.fl=some i->q.fl=some i->r=q
 | [],_,r,q,i,h,_,_,_=>by cases h
 | x :: rs, hn, r, q, i, hr, hq, h1, h2 => by
  cases hx:x.fl with
  | none=>
   simp only[Kg,hx]at hn;rcases ag.1 hr with rfl|hr
   .rw[hx]at h1;cases h1
   .rcases ag.1 hq with rfl|hq
    .rw[hx]at h2;cases h2
    .exact Vs hn r q i hr hq h1 h2
  | some j=>
   simp only[Kg,hx,Gq,ac]at hn;have hnot:=Ais hn.1;rcases ag.1 hr with e1|hr2
   .rcases ag.1 hq with e2|hq2
    .rw[e1,e2]
    .rw[e1,hx]at h1;cases h1;exact absurd (Ky hq2 h2) hnot
   .rcases ag.1 hq with e2|hq2
    .rw[e2,hx]at h2;cases h2;exact absurd (Ky hr2 h1) hnot
    .exact Vs hn.2 r q i hr2 hq2 h1 h2
theorem Inv.birth(h:Inv C S w ρ R){r:Res}{d:Value}(hi:R[i]?=some r)(hd:ρ[i]?=some d)(hdd:d.oneCell'=false)(hC:C.h.length<=i)
  (hw:∀b,b<w.heap.size->w'.heap[b]?=w.heap[b]?)(hsz:w.heap.size<=w'.heap.size)(ho:w'.os=w.os)(ht:Tp w w')(hp:w'.output=w.output)
  (hok:r.ok S w' (ρ.set i v) v)(hf:∀b,r.foot v b->w.heap.size<=b/\b<w'.heap.size):Inv C S w' (ρ.set i v) R/\Qt ρ (ρ.set i v):=by
 have hil:i<ρ.length:=(aa.1 hd).1;have hpre:Qt ρ (ρ.set i v):=by intro j x hj hx;grind
 have key:∀(j:Nat) x,(ρ.set i v)[j]?=some x->(j=i/\x=v)\/(j≠i/\ρ[j]?=some x):=by grind
 refine⟨⟨by simp[h.len],λj r1 v1 h1 h2=>?_,λj k r1 r2 v1 v2 b hjk h1 h2 h3 h4 h5 h6=>?_,λj r1 v1 b h1 h2 h3=>?_,h.sub,λb hb=>⟨aJ (h.sup b hb).1 hsz,(h.sup b hb).2⟩,λb hb hf=>(hw b (aJ hb h.size)).trans (h.frm b hb hf),aA h.size hsz,ho.trans h.os,ht.trans h.tape,hp.trans h.output,λj x hj=>?_,h.gl⟩,hpre⟩
 .rcases key j v1 h2 with⟨rfl,rfl⟩|⟨hj,h2⟩
  .rw[hi]at h1;cases h1;exact hok
  .exact(h.ok j r1 v1 h1 h2).monoA (λ_ h=>h) (λb hb=>hw b (h.sup b hb).1) hpre (λb hb=>hw b (h.own j r1 v1 b h1 h2 hb).2.1)
 .rcases key j v1 h3 with⟨rfl,rfl⟩|⟨hj,h3'⟩
  .rcases key k v2 h4 with⟨rfl,_⟩|⟨hk,h4'⟩
   .exact hjk rfl
   .rw[hi]at h1;cases h1;have:=(hf b h5).1;have:=(h.own k r2 v2 b h2 h4' h6).2.1;omega
  .rcases key k v2 h4 with⟨rfl,rfl⟩|⟨hk,h4'⟩
   .rw[hi]at h2;cases h2;have:=(hf b h6).1;have:=(h.own j r1 v1 b h1 h3' h5).2.1;omega
   .exact h.dis j k r1 r2 v1 v2 b hjk h1 h2 h3' h4' h5 h6
 .rcases key j v1 h2 with⟨rfl,rfl⟩|⟨hj,h2⟩
  .rw[hi]at h1;cases h1;obtain⟨g1,g2⟩:=hf b h3;exact⟨λhb=>by have:=(h.sup b hb).1;omega,g2,.inr (aA h.size g1)⟩
  .obtain⟨g1,g2,g3⟩:=h.own j r1 v1 b h1 h2 h3;exact⟨g1,aJ g2 hsz,g3⟩
 .have hjl:j<C.h.length:=(aa.1 hj).1;rw[bJ (by omega)];exact h.pre j x hj
theorem Ars{e:Ent}(h:Ya S w ρ a e)(hS:∀b,S b->S' b)(hw:∀b,S b->w'.heap[b]?=w.heap[b]?)(hρ:Qt ρ ρ')(h1:d≠e.t)(h2:∀g,g∈e.p->g.1≠d):Ya S' w' ρ' (a.put (some d) v) e:=by
 have hp:e.p.all (λg=>!(Nat.beq g.1 d))=true:=by
  rw[aG];intro g hg;cases hb:Nat.beq g.1 d with
  |false=>rfl
  |true=>exact absurd (ak hb) (h2 g hg)
 refine⟨λhpt=>?_,λhpt=>?_⟩
 .obtain⟨x,hx,hr⟩:=h.1 ((M2 hp).1 hpt);exact⟨x,by rw[Hm h1];exact hx,hr.monoA hS hw hρ⟩
 .rw[Hm h1];exact h.2 λk=>hpt ((M2 hp).2 k)
theorem Agb(hch:J4 P n ops L0 R0 rs L' R')(hs:Gy rs)(hany:Adg ops L0 rs)(hfl:Agj C rs)(hX:Ag ops X)(hq:q∈rs)(hqX:X q.i=false)
  (hready:∀e,e∈q.o.after->Region.binds .any e=true->X e.on=true)(hX':∀j,X' j=(X j || decide (j=q.i)))(hJ:J n C L0 R0 rs X a w)
  {K:Act->World->Prop}(hK:∀a' w',J n C L0 R0 rs X' a' w'->K a' w'):Hq P ops q.i K a w:=by
 obtain⟨hdef,hsize,S,ρ,hI,hE,hD⟩:=hJ;have hrec:=K1 hch hq;have hXc':Ag ops X':=by
  intro j o hj ho e he hb;rw[hX']at hj ⊢;simp only[aC,dM]at hj ⊢;rcases hj with hj|rfl
  .exact .inl (hX j o hj ho e he hb)
  .rw[hrec.op]at ho;cases ho;exact .inl (hready e he hb)
 have hq':X' q.i=true:=by rw[hX'];simp
 have ahead:∀r,r∈rs->r.i<q.i->Y6 (((Nt ops ops.size)[q.i]?).getD 0) r.i=true->X r.i=true:=by
  intro r hr hlt hm;have:=P_ hXc' hm hq';rw[hX']at this;simp only[aC,dM]at this;rcases this with h|h
  .exact h
  .omega
 have behind:∀r,r∈rs->q.i<r.i->X r.i=true->Q6 q r=true:=by
  intro r hr hlt hx;rcases hany.pair q r hq hr hlt with h|h
  .have:=P_ hX h hx;rw[hqX]at this;cases this
  .exact h
 have early:∀r,r∈rs->r.i<q.i->X r.i=false->Q6 r q=true:=by
  intro r hr hlt hx;rcases hany.pair r q hr hq hlt with h|h
  .have:=ahead r hr hlt h;rw[hx]at this;cases this
  .exact h
 have uniq:∀r,r∈rs->r.i=q.i->r=q:=by
  intro r hr hi;obtain⟨k,hk,rfl⟩:=cw hr;obtain⟨m,hm,rfl⟩:=cw hq;have hp:=bm.1 hs;rcases bM k m with h|h|h
  .have:=hp k m hk hm h;omega
  .subst h;rfl
  .have:=hp m k hm hk h;omega
 have hPC:PC X rs:=by
  intro r r2 hr hr2 he he2 hlt hx;rcases hany.pair r r2 hr hr2 hlt with h|h
  .exact P_ hX h hx
  .rcases(G5 h).eff with h|h
   .rw[he]at h;cases h
   .rw[he2]at h;cases h
 have hPCq:PC (λi=>Nat.blt i q.i) rs:=by intro r r2 _ _ _ _ hlt hx;rw[bq]at hx ⊢;omega
 have hneed:Co S w ρ a q.need:=by
  intro e he;refine hE e ?_;have late:∀x,x∈rs->q.i<x.i->X x.i=true->K4 x e:=λx hx hlt hxx d hd=>(G5 (behind x hx hlt hxx)).d2 d hd e he;rcases qW hch hs hq e he with⟨h1,h2⟩|⟨r,h1,h1',h2,h3,h4,h5⟩
  .refine .inl ⟨h1,λx hx hxx=>?_⟩;rcases bM x.i q.i with h|h|h
   .exact h2 x hx h
   .rw[uniq x hx h]at hxx;rw[hqX]at hxx;cases hxx
   .exact late x hx h hxx
  .refine .inr ⟨r,h1,?_,h2,h3,h4,λx hx hlt hxx=>?_⟩
   .cases hxr:X r.i with
    |true=>rfl
    |false=>exact absurd rfl (((G5 (early r h1 h1' hxr)).d1 _ h2).1 e he).1
   .rcases bM x.i q.i with h|h|h
    .exact h5 x hx hlt h
    .rw[uniq x hx h]at hxx;rw[hqX]at hxx;cases hxx
    .exact late x hx h hxx
 have hown:q.eff=true->E3 X R0 rs=q.Rin/\E3 X' R0 rs=q.out.R:=by
  intro he;have key:∀r,r∈rs->r.eff=true->X r.i=Nat.blt r.i q.i:=by
   intro r hr hre;rcases bM r.i q.i with h|h|h
   .have hb:Nat.blt r.i q.i=true:=by rw[bq];exact h
    rw[hb];rcases hany.pair r q hr hq h with h'|h'
    .exact ahead r hr h h'
    .rcases(G5 h').eff with k|k
     .rw[hre]at k;cases k
     .rw[he]at k;cases k
   .rw[uniq r hr h,hqX];cases hb:Nat.blt q.i q.i with
    |false=>rfl
    |true=>rw[bq]at hb;omega
   .have hb:Nat.blt r.i q.i=false:=by
     cases hb:Nat.blt r.i q.i with
     |false=>rfl
     |true=>rw[bq]at hb;omega
    rw[hb];cases hx:X r.i with
    |false=>rfl
    |true=>
     rcases(G5 (behind r hr h hx)).eff with k|k
     .rw[he]at k;cases k
     .rw[hre]at k;cases k
  refine⟨(Lo key).trans (X1 hch hs hq),(Lo (Y:=λi=>Nat.ble i q.i) λr hr hre=>?_).trans (Qo hch hs hq)⟩;rw[hX',key r hr hre];rcases bM r.i q.i with h|h|h
  .have h1:Nat.blt r.i q.i=true:=by rw[bq];exact h
   have h2:Nat.ble r.i q.i=true:=Nat.ble_eq_true_of_le (by omega);rw[h1,h2];rfl
  .rw[h];simp
  .have h2:Nat.ble r.i q.i=false:=by
    cases hb:Nat.ble r.i q.i with
    |false=>rfl
    |true=>have:=bv hb;omega
   have h1:Nat.blt r.i q.i=false:=by
    cases hb:Nat.blt r.i q.i with
    |false=>rfl
    |true=>rw[bq]at hb;omega
   rw[h1,h2];simp;omega
 have hquiet:q.eff=false->E3 X' R0 rs=E3 X R0 rs:=by
  intro he;refine Lo λr hr hre=>?_;rw[hX'];have:¬(r.i=q.i):=λh=>by rw[uniq r hr h,he]at hre;cases hre
  simp[this]
 have htouch:q.eff=false->∀i,i∈Ov q->q.Rin[i]?=(E3 X R0 rs)[i]?:=by
  intro he i hi;rw[←X1 hch hs hq];refine Zf hch hs hPCq hPC λr hr hre hne=>?_;rcases bM r.i q.i with h|h|h
  .have hb:Nat.blt r.i q.i=true:=by rw[bq];exact h
   have hxr:X r.i=false:=by
    cases hx:X r.i with
    |false=>rfl
    |true=>rw[hb,hx]at hne;exact absurd rfl hne
   exact(G5 (early r hr h hxr)).e1 hre i hi
  .rw[uniq r hr h,he]at hre;cases hre
  .have hb:Nat.blt r.i q.i=false:=by
    cases hb:Nat.blt r.i q.i with
    |false=>rfl
    |true=>rw[bq]at hb;omega
   have hxr:X r.i=true:=by
    cases hx:X r.i with
    |true=>rfl
    |false=>rw[hb,hx]at hne;exact absurd rfl hne
   exact(G5 (behind r hr h hxr)).e2 hre i hi
 have hev:q.fl=none->∃out,J7 P q.need q.cur (E3 X R0 rs) q.c q.o=some out/\out.v=q.out.v/\out.c=q.out.c/\out.R=E3 X' R0 rs:=by
  intro hfn;cases he:q.eff with
  |true=>obtain⟨h1,h2⟩:=hown he;exact⟨q.out,by rw[h1];exact hrec.ev hfn,rfl,rfl,h2.symm⟩
  |false=>
   have hqq:G7 q.c q.o=true:=by have:=hrec.eff;rw[he,hfn]at this;simpa using this.symm
   have ht:∀i,i∈deepen q.Rin (Lw q.o.op q.need)++Awr q.c q.Rin q.need->q.Rin[i]?=(E3 X R0 rs)[i]?:=λi hi=>htouch he i (by unfold Ov;rw[hfn];exact hi);obtain⟨_,h2⟩:=Yj hqq ht (hrec.ev hfn);exact⟨_,h2,rfl,rfl,(hquiet he).symm⟩
 have entries:∀e,Api rs L0 X' e->(Api rs L0 X e/\K4 q e)\/(q.o.dst=some e.t/\e.p=q.cur/\e.v=q.out.v):=by
  intro e he;have mono:∀x,x∈rs->X x.i=true->X' x.i=true:=λx _ hx=>by rw[hX',hx];rfl
  rcases he with⟨h1,h2⟩|⟨r,h1,h2,h3,h4,h5,h6⟩
  .exact .inl ⟨.inl ⟨h1,λx hx hxx=>h2 x hx (mono x hx hxx)⟩,h2 q hq hq'⟩
  .by_cases hri:r.i=q.i
   .rw[uniq r h1 hri]at h3 h4 h5;exact .inr ⟨h3,h4,h5⟩
   .have hxr:X r.i=true:=by
     rw[hX']at h2;simp only[aC,dM]at h2;exact h2.resolve_right hri
    refine .inl ⟨.inr ⟨r,h1,hxr,h3,h4,h5,λx hx hlt hxx=>h6 x hx hlt (mono x hx hxx)⟩,?_⟩;rcases aM r.i q.i with h|h
    .exact h6 q hq h hq'
    .have hp:=(G5 (behind r h1 (by omega) hxr));intro d hd;obtain⟨_,g2,g3⟩:=hp.d1 d hd;refine⟨λe'=>g3 (by rw[h3,e']),λg hg=>?_⟩;rw[h4]at hg;exact g2 g hg
 have deads:∀ρ',Pre ρ ρ'->∀r i,r∈rs->r.fl=some i->X' r.i=false->∃h,ρ'[i]?=some h/\h.oneCell'=false:=by intro ρ' hpre r i hr hfi hx;rw[hX']at hx;simp only[aZ]at hx;obtain⟨h,g1,g2⟩:=hD r i hr hfi hx.1;exact⟨h,hpre _ _ g1,g2⟩
 have fin:∀v w' S' ρ',Inv C S' w' ρ' (E3 X' R0 rs)->(∀b,S b->S' b)->(∀b,S b->w'.heap[b]?=w.heap[b]?)->Qt ρ ρ' ->
   (∀r i,r∈rs->r.fl=some i->X' r.i=false->∃h,ρ'[i]?=some h/\h.oneCell'=false)->(pt a q.cur->RdA S' w' ρ' v q.out.v)->(pt a q.cur\/v=undef)->K (a.put q.o.dst v) w':=by
  intro v w' S' ρ' hinv hsub hsame hpre hdead hrd hv;refine hK _ _ ⟨?_,?_,S',ρ',hinv,λe he=>?_,hdead⟩
  .cases hd:q.o.dst <;> exact hdef
  .cases hd:q.o.dst <;> simp[Act.put,hsize]
  .rcases entries e he with⟨h1,h2⟩|⟨h1,h2,h3⟩
   .cases hd:q.o.dst with
    |none=>have hee:=hE e h1;refine⟨λhp=>?_,hee.2⟩;obtain⟨x,hx,hr⟩:=hee.1 hp;exact⟨x,hx,hr.monoA hsub hsame hpre⟩
    |some d=>obtain⟨g1,g2⟩:=h2 d hd;exact Ars (hE e h1) hsub hsame hpre g1 g2
   .rw[h1];obtain⟨d1,d2⟩:=hrec.dst e.t h1;refine⟨λhp=>⟨v,Jg (by rw[hsize];exact d1),by rw[h3];exact hrd ((M2 d2).1 (by rw[←h2];exact hp))⟩,λhp=>?_⟩;rw[h2]at hp;have hnp:¬pt a q.cur:=λk=>hp ((M2 d2).2 k);rw[hv.resolve_left hnp];exact Jg (by rw[hsize];exact d1)
 obtain⟨hw1,hw2⟩:=Aej hneed hrec.guard;unfold Hq;simp only[hrec.op];cases hfl':q.fl with
 | none=>
  obtain⟨out,ev1,ev2,ev3,ev4⟩:=hev hfl';by_cases hpt:pt a q.cur
  .rw[eC (hw1.2 hpt)];refine⟨qH ev1,Aj6 hI hneed hpt ev1 (λx hx=>?_) λv w' S' ρ' hA=>?_⟩
   .rw[ev3]at hx;exact Xn hneed hrec.cs (hrec.ok x hx) hpt
   .rw[ev4,ev2]at hA;exact fin v w' S' ρ' hA.inv hA.sub hA.same hA.pre.a (deads ρ' hA.pre) (λ_=>hA.rd) (.inl hpt)
  .have hnw:¬(Region.wanted q.o (yielded ops a.tmps)=true):=λh=>hpt (hw1.1 h);rw[eF hnw];have hne:q.cur.isEmpty=false:=by
    cases hc:q.cur.isEmpty with
    |false=>rfl
    |true=>simp at hc;rw[hc]at hpt;exact absurd Cd hpt
   have hg:=hrec.gb;unfold O9 at hg;rw[hne]at hg;simp only[aQ,ac,aC,aW]at hg;obtain⟨ρ',hI',hpre⟩:=hI.skip (Abr ev1 hg.1 λhr x hx=>Aa2 hneed hrec.cs hr hne (hg.2.resolve_left (by rw[hr];simp)) (hrec.ok x (by rw[←ev3];exact hx)) hpt);rw[ev4]at hI';cases hd:q.o.dst with
   |none=>have:=hrec.nodst hd;rw[hne]at this;cases this
   |some d=>have:=fin undef w S ρ' hI' (λ_ h=>h) (λ_ _=>rfl) hpre.a (deads ρ' hpre) (λh=>absurd h hpt) (.inr rfl);rw[hd]at this;exact this
 | some i=>
  have hspec:=Tj (hrec.flo i hfl');have heff:q.eff=false:=by rw[hrec.eff,hfl'];rfl
  have hcR:=hquiet heff;by_cases hpt:pt a q.cur
  .rw[eC (hw1.2 hpt)];obtain⟨dd,k1,k2⟩:=hD q i hq hfl' hqX;have hil:i<ρ.length:=(aa.1 k1).1;have htr:∀{r':Res},q.Rin[i]?=some r'->(E3 X R0 rs)[i]?=some r':=λg4=>by rw[←htouch heff i (by unfold Ov;rw[hfl'];simp)];exact g4
   have hpre0:∀v,Qt ρ (ρ.set i v):=by
    intro v j x hj hx;rw[aS];split
    .rename_i e;subst e;rw[k1]at hj;cases hj;rw[k2]at hx;cases hx
    .exact hj
   have hdeads:∀v:Value,∀r j,r∈rs->r.fl=some j->X' r.i=false->∃h,(ρ.set i v)[j]?=some h/\h.oneCell'=false:=by intro v r j hr hfj hx;rw[hX']at hx;simp only[aZ,dN]at hx;obtain⟨h,m1,m2⟩:=hD r j hr hfj hx.1;refine⟨h,?_,m2⟩;rw[bJ (λe=>hx.2 (by subst e;rw[hfl.inj r q i hr hq hfj hfl']))];exact m1
   rcases hspec with⟨t,z,cells,r',g1,g2,g3,g4,g5⟩|⟨t,l,c0,o1,r1,r',c1,g1,g4,g2,g3,g6,g5⟩
   .have hsame:(Res.box t cells)=r':=(Xn hneed hrec.cs (hrec.ok (.flt i (.box t cells) r') (by rw[g5])) hpt:Cl.ok P (.flt i (.box t cells) r'));subst hsame;have hRi:=htr g4;have hold:∀b,b<w.heap.size->(w.alloc (.cells z.cells t)).heap[b]?=w.heap[b]?:=λb hb=>Cu _ _ _ hb;have hcells:A9 (Rd S w ρ) z.cells.toList cells:=J1 g3;obtain⟨hI',hpre⟩:=hI.birth (w':=w.alloc (.cells z.cells t)) (v:=.pointer (some ⟨w.heap.size,0,none⟩)) hRi k1 k2 (hfl.low q i hq hfl') hold (by simp) rfl ⟨rfl,λ_=>by first|exact af _|exact aO _⟩ rfl
     (.inr ⟨_,z.cells,rfl,Fz _ _,hcells.mono λ_ _ h=>h.monoA (λ_ h=>h) (λb hb=>hold b (hI.sup b hb).1) (hpre0 _)⟩)
     (λb hb=>by simp[Res.foot]at hb;subst hb;simp)
    refine⟨(λc hc=>by rw[g1]at hc;cases hc),Eh (v:=.pointer (some ⟨w.heap.size,0,none⟩)) (w':=w.alloc (.cells z.cells t)) ?_ (fin _ _ S _ (by rw[hcR];exact hI') (λ_ h=>h) (λb hb=>hold b (hI.sup b hb).1) hpre (hdeads _) ?_ (.inl hpt))⟩
    .have he:execOp a.eval q.o=execOp a.eval {q.o with op:=.alloc t}:=by rw[←g1]
     rw[he];simp[execOp,Instr.alloc,newVar,newRow,Ga g2]
    .intro _;rw[g5];exact .d (.o (by simp[hil]))
   .have hcl:Cl.ok P (.fltm i c1 r1 r'):=Xn hneed hrec.cs (hrec.ok _ (by rw[g5])) hpt;obtain⟨hc1,hsame⟩:=hcl;subst hsame;have hRi:=htr g4;obtain⟨l0,nn,cs,e,r2,m1,m2,m3,m4,m5,m6⟩:=qI (S:=S) (w:=w) g2 (λx hx=>by rw[g6]at hx;cases hx;exact hc1) (λb hb=>(hI.sup b hb).1);have hr2:r2=r1:=by rw[g3]at m3;simpa using m3.symm
    subst hr2;have hold:∀b,b<w.heap.size->(w.alloc (.cells cs e)).heap[b]?=w.heap[b]?:=λb hb=>Cu _ _ _ hb;have hlk:=Bv hneed hpt m1;obtain⟨hI',hpre⟩:=hI.birth (w':=w.alloc (.cells cs e)) (v:=.slice (some ⟨w.heap.size,0,none⟩) nn nn) hRi k1 k2 (hfl.low q i hq hfl') hold (by simp) rfl ⟨rfl,λ_=>by first|exact af _|exact aO _⟩ rfl
     (.inr (m5 _)) (λb hb=>by rw[m6 b hb];simp)
    refine⟨(λc hc=>by rw[g1]at hc;cases hc),Eh (v:=.slice (some ⟨w.heap.size,0,none⟩) nn nn) (w':=w.alloc (.cells cs e)) ?_ (fin _ _ S _ (by rw[hcR];exact hI') (λ_ h=>h) (λb hb=>hold b (hI.sup b hb).1) hpre (hdeads _) ?_ (.inl hpt))⟩
    .have he:execOp a.eval q.o=execOp a.eval {q.o with op:=.makeSlice t l l}:=by rw[←g1]
     rw[he];simp only[execOp,hlk,eG,m4];rfl
    .intro _;rw[g5];exact .d (.os (by simp[hil]) rfl)
  .have hnw:¬(Region.wanted q.o (yielded ops a.tmps)=true):=λh=>hpt (hw1.1 h);rw[eF hnw];have hne:q.cur.isEmpty=false:=by
    cases hc:q.cur.isEmpty with
    |false=>rfl
    |true=>simp at hc;rw[hc]at hpt;exact absurd Cd hpt
   cases hd:q.o.dst with
   |none=>have:=hrec.nodst hd;rw[hne]at this;cases this
   |some d=>have:=fin undef w S ρ (by rw[hcR];exact hI) (λ_ h=>h) (λ_ _=>rfl) (Pre.refl ρ).a (deads ρ (Pre.refl _)) (λh=>absurd h hpt) (.inr rfl);rw[hd]at this;exact this
def unl(listed:Array Bool):Nat:=(listed.toList.filter λb=>!b).length
theorem vS{listed:Array Bool}(h:listed[i]?=some false):unl (listed.setIfInBounds i true)+1=unl listed:=by
 obtain⟨l⟩:=listed;simp only[unl,List.setIfInBounds_toArray];simp only[cW]at h;induction l generalizing i with
 |nil=>simp at h
 | cons x l ih=>
  cases i with
  |zero=>simp at h;subst h;simp
  |succ i=>grind
theorem A6l(hch:J4 P n ops L0 R0 rs L' R')(hidx:rs.map (·.i)=List.range ops.size)(hany:Adg ops L0 rs)(hfl:Agj C rs){ro:Option Nat}{Q:Exit->Act->World->Prop}(hQ:∀a' w',Sat n C L' R' a' w'->Q .normal a' w') :
  ∀(fuel:Nat)(listed:Array Bool)(a:Act)(w:World),listed.size=ops.size->unl listed<=fuel->Ag ops (λi=>listed.getD i false)->J n C L0 R0 rs (λi=>listed.getD i false) a w ->
   wpAnyIn (FR ro) 0 P .any ops Q fuel listed a w:=by
 have hs:Gy rs:=by
  have:(rs.map (·.i)).Pairwise (· < ·):=by rw[hidx];exact List.pairwise_lt_range
  rw[cE]at this;exact this
 have hget:∀i,i<ops.size->∃r,r∈rs/\r.i=i:=by
  intro i hi;have:i∈rs.map (·.i):=by rw[hidx];simpa using hi
  obtain⟨r,hr,e⟩:=an.1 this;exact⟨r,hr,e⟩
 have hlt:∀r,r∈rs->r.i<ops.size:=by intro r hr;have:r.i∈rs.map (·.i):=an.2 ⟨r,hr,rfl⟩;rw[hidx]at this;simpa using this
 have done:∀(listed:Array Bool)(a:Act)(w:World),listed.size=ops.size->(∀i,i<ops.size->listed.getD i false=true)->J n C L0 R0 rs (λi=>listed.getD i false) a w->Q .normal a w:=by
  intro listed a w _ hall ⟨h1,h2,S,ρ,h3,h4,_⟩;have hX:∀r,r∈rs->listed.getD r.i false=true:=λr hr=>hall _ (hlt r hr);refine hQ a w ⟨h1,h2,S,ρ,by rw[Tm hch hX]at h3;exact h3,λe he=>h4 e ?_⟩;rcases Tt hch hs e he with⟨g1,g2⟩|⟨r,g1,g2,g3,g4,g5⟩
  .exact .inl ⟨g1,λq hq _=>g2 q hq⟩
  .exact .inr ⟨r,g1,hX r g1,g2,g3,g4,λq hq hl _=>g5 q hq hl⟩
 have none_ready:∀(listed:Array Bool),listed.size=ops.size->Region.ready .any ops listed=[]->∀i,i<ops.size->listed.getD i false=true:=by
  intro listed hsz hr i;induction i using Nat.strongRecOn with
  | _ i ih=>
   intro hi;cases hx:listed.getD i false with
   |true=>rfl
   | false=>
    exfalso;obtain⟨r,hr1,hr2⟩:=hget i hi;have hrec:=K1 hch hr1;have:i∈Region.ready .any ops listed:=by
     rw[mem_ready];have hil:i<listed.size:=by omega
     refine⟨by simp only[aR,bn hil]at hx ⊢;simpa using hx,r.o,by rw[←hr2];exact hrec.op,λe he hb=>?_⟩;have:=hany.back r hr1 e he hb;exact ih e.on (by omega) (by omega)
    rw[hr]at this;cases this
 intro fuel;induction fuel with
 | zero=>
  intro listed a w hsz hu hX hJ;have hall:∀i,i<ops.size->listed.getD i false=true:=by
   intro i hi;have hil:i<listed.size:=by omega
   have hnil:listed.toList.filter (λb=>!b)=[]:=bt (Nat.le_zero.1 hu);rw[cP]at hnil;have:=hnil listed[i] (by simp);simp only[aR,bn hil,bS];simpa using this
  refine⟨?_,done listed a w hsz hall hJ⟩;apply List.eq_nil_iff_forall_not_mem.2;intro j hj;rw[mem_ready]at hj;obtain⟨h1,o,ho,_⟩:=hj;have hjl:j<ops.size:=(aP.1 ho).1;have:=hall j hjl;have hjs:j<listed.size:=by omega
  simp only[aR,bn hjs,bS]at h1 this;rw[h1]at this;cases this
 | succ fuel ih=>
  intro listed a w hsz hu hX hJ;refine⟨λhr=>done listed a w hsz (none_ready listed hsz hr) hJ,λi hi=>?_⟩;rw[mem_ready]at hi;obtain⟨h1,o,ho,hall⟩:=hi;have hil:i<ops.size:=(aP.1 ho).1;have his:i<listed.size:=by omega
  have hif:listed[i]?=some false:=by rw[bn his];simp only[aR,bn his,bS]at h1;rw[h1]
  obtain⟨q,hq,hqi⟩:=hget i hil;have hrec:=K1 hch hq;have hqo:q.o=o:=by have:=hrec.op;rw[hqi,ho]at this;cases this;rfl
  have hX':∀j,(listed.setIfInBounds i true).getD j false=(listed.getD j false || decide (j=q.i)):=by
   intro j;rw[hqi];simp only[aR,cX];by_cases hji:j=i
   .subst hji;simp[his]
   .simp[Ne.symm hji,hji]
  subst hqi;refine Ys (λ_ _ h=>h) (Agb hch hs hany hfl (X':=λj=>(listed.setIfInBounds q.i true).getD j false) hX hq ?_ (by rw[hqo];exact hall) hX' hJ λa' w' hJ'=>ih _ a' w' (by simpa using hsz) ?_ ?_ hJ')
  .simp[eu,hif]
  .have:=vS hif;omega
  .intro j o' hj ho' e he hb;simp only[hX',aC,dM]at hj ⊢;rcases hj with hj|rfl
   .exact .inl (hX j o' hj ho' e he hb)
   .rw[ho]at ho';cases ho';exact .inl (hall e he hb)
end
end Go.SL
namespace Go.SL
variable{f:D->D}{pi ts:eR}{e i j k size t:Nat}{v x:Value}
abbrev St:=List (Nat×AV)
def mkL:St->List Ent
 | []=>[]
 |(t,v)::r=>⟨t,[],v⟩::mkL r
def sel(L:List Ent):eR->Option St
 | []=>some []
 |t::ts=>match Eu L t,sel L ts with
  |some e,some r=>bif e.p.isEmpty then some ((t,e.v)::r) else none
  |_,_=>none
def Jj:St->eR
 | []=>[]
 |(t,_)::r=>t::Jj r
def W(ro:Option Nat)(P:Program)(n:Nat)(C:Ctx)(Q:Exit->Act->World->Prop)(c:Code)(st:St)(R:List Res):Prop:=
 ∀a w,Sat n C (mkL st) R a w->c.wpIn (FR ro) 0 P Q a w
section
variable{ro:Option Nat}{P:Program}{n:Nat}{C:Ctx}{Q:Exit->Act->World->Prop}{st st':St}{R R':List Res}{S S':Nat->Prop}{w w':World}{ρ ρ':eU}{a:Act}
theorem D9:∀{st:St}{e:Ent},e∈mkL st->e.p=[]
 | [],e,h=>by cases h
 |(t,v)::r,e,h=>by
  rcases ag.1 h with rfl|h
  .rfl
  .exact D9 h
theorem On:∀{ts:eR}{L:List Ent}{st:St},sel L ts=some st->∀e,e∈mkL st->e∈L
 | [],L,st,h,e,he=>by simp[sel]at h;subst h;cases he
 | t :: ts, L, st, h, e, he => by
  simp only[sel]at h;split at h
  .rename_i x r h1 h2;cases hp:x.p.isEmpty with
   |false=>rw[hp]at h;simp at h
   | true=>
    rw[hp]at h;simp at h;subst h;obtain⟨g1,g2⟩:=Dh h1;rcases ag.1 he with rfl|he
    .have:(⟨t,[],x.v⟩:Ent)=x:=by
      obtain⟨xt,xp,xv⟩:=x;grind
     rw[this];exact g1
    .exact On h2 e he
  .cases h
theorem Sat.sub{L L':List Ent}(h:Sat n C L R a w)(hs:∀e,e∈L'->e∈L):Sat n C L' R a w:=by obtain⟨h1,h2,S,ρ,h3,h4⟩:=h;exact⟨h1,h2,S,ρ,h3,λe he=>h4 e (hs e he)⟩
def Ex{σ:Type}(n:Nat)(C:Ctx)(φ:σ->Prop)(st:σ->St)(R:σ->List Res)(a:Act)(w:World):Prop:=∃s,φ s/\Sat n C (mkL (st s)) (R s) a w
theorem Inv.pick(hI:Inv C S w ρ R){Rp R2:List Res}(hn:Gq pi=true)(hp:Le R pi=some Rp)(hr:Jb (Fy pi) Rp=some R2)(hh:Pre C.h (Dj ρ pi)) :
  Inv C S w (Dj ρ pi) R2:=by
 obtain⟨st,hid,foots⟩:=hI.start hn hp hr;refine⟨st.len,st.ok,st.dis,λj r h b h1 h2 h3=>?_,hI.sub,hI.sup,hI.frm,hI.size,hI.os,hI.tape,hI.output,hh,hI.gl⟩;obtain⟨i,r0,k1,k2,k3,k4⟩:=foots j r h h1 h2;exact hI.own i r0 h b k2 k3 (by rw[←k4];exact h3)
def Xr(f:Nat->Option Nat):St->Option St
 | []=>some []
 |(t,v)::r=>match v.norm.ren f,Xr f r with
  |some v',some r'=>some ((t,v')::r')
  |_,_=>none
theorem Abe{f:Nat->Option Nat}:∀{st st':St},Xr f st=some st'->∀e,e∈mkL st'->∃e0,e0∈mkL st/\e0.t=e.t/\e.p=[]/\e0.v.norm.ren f=some e.v
 | [],st',h,e,he=>by simp[Xr]at h;subst h;cases he
 | (t, v) :: r, st', h, e, he => by
  simp only[Xr]at h;split at h
  .rename_i v' r' h1 h2;simp at h;subst h;rcases ag.1 he with rfl|he
   .exact⟨⟨t,[],v⟩,ai,rfl,rfl,h1⟩
   .obtain⟨e0,g1,g2,g3,g4⟩:=Abe h2 e he;exact⟨e0,al _ g1,g2,g3,g4⟩
  .cases h
def Lk:Nat->eR->Nat->Bool
 |0,_,_=>true
 |k+1,i::r,j=>Nat.beq i j&&Lk k r (j+1)
 |_+1,[],_=>false
theorem S7:∀{k:Nat}{l:eR}{j:Nat},Lk k l j=true->∀i,i<k->l[i]?=some (j+i)
 |0,_,_,_,i,h=>by omega
 |k+1,[],_,h,_,_=>by simp[Lk]at h
 |k+1,a::r,j,h,i,hi=>by
  simp only[Lk,ac]at h;cases i with
  |zero=>simp;exact ak h.1
  |succ i=>simp;rw[S7 h.2 i (by omega)];congr 1;omega
def yA(k:Nat)(pi ts:eR)(st:St)(R:List Res):Option (St×List Res):=
 bif Gq pi&&Lk k pi 0 then
  match sel (mkL st) ts,Le R pi with
  |some st1,some Rp=>match Xr (Fy pi) st1,Jb (Fy pi) Rp with
   |some st',some R'=>some (st',R')
   |_,_=>none
  |_,_=>none
 else none
theorem Sat.re(hk:C.h.length<=k)(h:yA k pi ts st R=some (st',R'))(hs:Sat n C (mkL st) R a w):Sat n C (mkL st') R' a w:=by
 unfold yA at h;cases hb:(Gq pi&&Lk k pi 0) with
 |false=>rw[hb]at h;simp at h
 | true=>
  rw[hb]at h;simp only[ez]at h;simp only[ac]at hb;split at h
  .rename_i st1 Rp e1 e2;split at h
   .rename_i st2 R2 e3 e4;simp at h;obtain⟨rfl,rfl⟩:=h;obtain⟨h1,h2,S,ρ,h3,h4⟩:=hs.sub (On e1);have hid:∀(i j:Nat) x,Fy pi i=some j->ρ[i]?=some x->(Dj ρ pi)[j]?=some x:=(h3.start hb.1 e2 e4).2.1;refine⟨h1,h2,S,Dj ρ pi,h3.pick hb.1 e2 e4 λi v hv=>?_,λe he=>?_⟩
    .have hi:i<C.h.length:=(aa.1 hv).1;have:=S7 hb.2 i (by omega);simp only[aN]at this;have hp:=h3.pre i v hv;simp[Dj,this,List.getD_eq_getElem?_getD,hp]
    .obtain⟨e0,g1,g2,g3,g4⟩:=Abe e3 e he;have hp0:=D9 g1;obtain⟨k1,_⟩:=h4 e0 g1;obtain⟨v,hv,hr⟩:=k1 (by rw[hp0];exact Cd);refine⟨λ_=>⟨v,by rw[←g2];exact hv,hr.norm.ren hid _ g4⟩,λhn=>absurd (by rw[g3];exact Cd) hn⟩
   .cases h
  .cases h
def D.frz(i:Nat)(sz:Nat)(rows:List (List Pd)):D->D
 |.os j=>bif Nat.beq i j then .p (.s rows) else .os j
 |.osb j lo n s=>bif Nat.beq i j&&Nat.beq s sz then .p (.s ((rows.drop lo).take n)) else .osb j lo n s
 |d=>d
def AV.frz(i:Nat)(sz:Nat)(rows:List (List Pd)):AV->AV
 |.d x=>.d (x.frz i sz rows)
 |.agg ds=>.agg (ds.map (D.frz i sz rows))
 |.tup l=>.tup l
def Res.frz(i:Nat)(sz:Nat)(rows:List (List Pd)):Res->Res
 |.box t cells=>.box t (cells.map (D.frz i sz rows))
 |r=>r
def Am5(i:Nat)(st:St)(R:List Res):Option (St×List Res):=
 match R[i]? with
 |some (.sl _ sz rows)=>some (st.map λx=>(x.1,x.2.frz i sz rows),(R.set i .non).map (Res.frz i sz rows))
 |_=>none
theorem yI{f:AV->AV}:∀{st:St}{e:Ent},e∈mkL (st.map λx=>(x.1,f x.2))->∃e0,e0∈mkL st/\e0.t=e.t/\e.p=[]/\e.v=f e0.v
 | [],e,h=>by cases h
 | (t,v)::r,e,h=>by
  rcases ag.1 h with rfl|h
  .exact⟨⟨t,[],v⟩,ai,rfl,rfl,rfl⟩
  .obtain⟨e0,g1,g2⟩:=yI h;exact⟨e0,al _ g1,g2⟩
theorem Inv.frz{rows:List (List Pd)}(h3:Inv C S w ρ R)(hi:R[i]?=some (.sl e size rows)) :
  ∃S',(∀b,S b->S' b)/\Inv C S' w ρ ((R.set i .non).map (Res.frz i size rows))/\∀v d,RdA S w ρ v d->RdA S' w ρ v (d.frz i size rows):=by
 have hil:i<ρ.length:=by rw[h3.len];exact(aa.1 hi).1
 have hρ:ρ[i]?=some ρ[i]:=aj hil;have hF:=h3.freeze hi hρ;have hrow:ρ[i].oneCell'=true->RdP (λb=>S b\/(Res.sl e size rows).foot ρ[i] b) w ρ[i] (.s rows):=λh1=>Res.ok0.frozen ((h3.ok i _ _ hi hρ).live h1)
 have hd : ∀v d, Rd S w ρ v d -> Rd (λb => S b \/ (Res.sl e size rows).foot ρ[i] b) w ρ v (d.frz i size rows) := by
  intro v d hr;have hm:=hr.mono (S':=λb=>S b\/(Res.sl e size rows).foot ρ[i] b) (w':=w) (ρ':=ρ) (λ_ h=>.inl h) (λ_ _=>rfl) (Pre.refl _);cases d with
  | os j=>
   simp only[D.frz];cases hb:Nat.beq i j with
   |false=>simpa using hm
   |true=>have:=ak hb;subst this;have h1:=hr.one;have:=hr.os_inv;rw[hρ]at this;cases this;exact .p (hrow h1)
  | osb j lo m sz=>
   simp only[D.frz];cases hb:Nat.beq i j&&Nat.beq sz size with
   |false=>simpa using hm
   | true=>
    simp only[ac]at hb;have:=ak hb.1;subst this;have:=ak hb.2;subst this;cases hr with
    | @osb _ _ _ _ q ad len cap g1 hl hc hq hq2=>
     rw[hρ]at g1;have g3:ρ[i]=.slice ad len cap:=by simpa using g1
     have hF:=hrow (by rw[g3];rfl);have hkk:=(h3.ok i _ _ hi hρ).live (by rw[g3];rfl);have hz:∀row,row∈rows->row.length=sz:=by
      rcases hkk with⟨_,h0⟩|⟨b,o,cp,vs,_,_,_,_,_,h0,_⟩
      .subst h0;simp
      .exact h0
     have g2:ρ[i]=.slice ad len cap:=by simpa using g1
     rw[g2]at hF;have hcut:=RdP.cut hF (l:=lo) (h:=lo+m) (by omega) hl hz;rw[show (lo+m)-lo=m from by omega,List.drop_take,show (lo+m)-lo=m from by omega]at hcut;have hF0:=hF;rw[g2];simp only[ez];by_cases hlc:lo<cap
     .rw[eF (by omega)]at hcut;rw[hq2 hlc];exact .p hcut
     .have hlc:cap=lo:=by omega
      subst hlc;have hn0:m=0:=by obtain⟨_,_,hsf,hle,_⟩:=hF0.slice_form;cases hsf;omega
      subst hn0;simp only[List.take_zero];exact .p (.s _ ⟨0,0,none⟩ _ 0 [] (λ_ _=>undef) (bH _) (by simp) (λ_=>by simp) (by simp) (by simp) (by simp))
  |_=>exact hm
 have ha:∀v d,RdA S w ρ v d->RdA (λb=>S b\/(Res.sl e size rows).foot ρ[i] b) w ρ v (d.frz i size rows):=by
  intro v d hr;cases hr with
  |d h=>exact .d (hd _ _ h)
  |agg h=>exact .agg (h.map_right λ_ _ h=>hd _ _ h)
  |tup hl h=>exact .tup hl λj x a hx ha=>(h j x a hx ha).mono (λ_ h=>.inl h) (λ_ _=>rfl) (Pre.refl _)
 have hget:∀(j:Nat) r,((R.set i .non).map (Res.frz i size rows))[j]?=some r->∃r0,(R.set i .non)[j]?=some r0/\r=r0.frz i size rows:=by intro j r hj;rw[aB]at hj;obtain⟨r0,g1,g2⟩:=D_ hj;exact⟨r0,g1,g2.symm⟩
 have hfoot:∀(r0:Res) v,(r0.frz i size rows).foot v=r0.foot v:=by intro r0 v;cases r0 <;> rfl
 refine⟨_,λ_ h=>.inl h,⟨by rw[ao];exact hF.len,λj r v hj hv=>?_,λj k r r2 v v2 b hjk hj hk hv hv2 hf hf2=>?_,λj r v b hj hv hf=>?_,hF.sub,hF.sup,hF.frm,hF.size,hF.os,hF.tape,hF.output,hF.pre,hF.gl⟩,ha⟩
 .obtain⟨r0,g1,rfl⟩:=hget j r hj;have hok:=hF.ok j r0 v g1 hv;rw[aS]at g1;split at g1
  .split at g1
   .cases g1;exact .inr trivial
   .cases g1
  .have hok0:=h3.ok j r0 v g1 hv;cases r0 with
   |box t cells=>
    rcases hok0 with h0|⟨b,vs,rfl,hb,hc⟩
    .exact .inl h0
    .exact .inr ⟨b,vs,rfl,hb,hc.map_right λ_ _ h=>hd _ _ h⟩
   |_=>exact hok
 .obtain⟨r0,g1,rfl⟩:=hget j r hj;obtain⟨r1,g2,rfl⟩:=hget k r2 hk;rw[hfoot]at hf hf2;exact hF.dis j k r0 r1 v v2 b hjk g1 g2 hv hv2 hf hf2
 .obtain⟨r0,g1,rfl⟩:=hget j r hj;rw[hfoot]at hf;exact hF.own j r0 v b g1 hv hf
theorem Sat.frz(h:Am5 i st R=some (st',R'))(hs:Sat n C (mkL st) R a w):Sat n C (mkL st') R' a w:=by
 unfold Am5 at h;split at h
 .rename_i e size rows hi;simp only[ah,au]at h;obtain⟨rfl,rfl⟩:=h;obtain⟨h1,h2,S,ρ,h3,h4⟩:=hs;obtain⟨S',_,hI,ha⟩:=h3.frz hi;refine⟨h1,h2,S',ρ,hI,λe he=>?_⟩;obtain⟨e0,g1,g2,g3,g4⟩:=yI he;have hp0:=D9 g1;obtain⟨k1,_⟩:=h4 e0 g1;obtain⟨v,hv,hr⟩:=k1 (by rw[hp0];exact Cd);refine⟨λ_=>⟨v,by rw[←g2];exact hv,by rw[g4];exact ha _ _ hr⟩,λhn=>absurd (by rw[g3];exact Cd) hn⟩
 .cases h
def Py(t:Nat)(v:AV):St->St
 | []=>[]
 |(u,x)::r=>bif Nat.beq u t then (u,v)::Py t v r else (u,x)::Py t v r
def Ma(t:Nat):St->Bool
 | []=>true
 |(u,x)::r=>(!(Nat.beq u t) || match x with|.d (.p (.v (.slice none 0 0)))=>true|_=>false)&&Ma t r
def Amg(t e size:Nat)(st:St)(R:List Res):Option (St×List Res):=
 bif Ma t st then some (Py t (.d (.os R.length)) st,R++[.sl e size []]) else none
theorem Uv{t:Nat}{v:AV}:∀{st:St}{e:Ent},e∈mkL (Py t v st)->(e.t=t/\e.p=[]/\e.v=v/\∃x,⟨t,[],x⟩∈mkL st/\(Ma t st=true->∃y,x=y/\(match y with|.d (.p (.v (.slice none 0 0)))=>true|_=>false)=true))\/e∈mkL st
 | [],e,h=>by cases h
 | (u, x) :: r, e, h => by
  simp only[Py]at h;cases hb:Nat.beq u t with
  | true=>
   rw[hb]at h;simp only[ez]at h;have:=ak hb;subst this;rcases ag.1 h with rfl|h
   .refine .inl ⟨rfl,rfl,rfl,x,ai,λhn=>⟨x,rfl,?_⟩⟩;simp only[Ma,hb,aH,aQ,ac]at hn;exact hn.1
   .rcases Uv h with⟨g1,g2,g3,y,g4,g5⟩|h
    .refine .inl ⟨g1,g2,g3,y,al _ g4,λhn=>g5 ?_⟩;simp only[Ma,ac]at hn;exact hn.2
    .exact .inr (al _ h)
  | false=>
   rw[hb]at h;simp only[eB]at h;rcases ag.1 h with rfl|h
   .exact .inr ai
   .rcases Uv h with⟨g1,g2,g3,y,g4,g5⟩|h
    .refine .inl ⟨g1,g2,g3,y,al _ g4,λhn=>g5 ?_⟩;simp only[Ma,ac]at hn;exact hn.2
    .exact .inr (al _ h)
theorem Sat.own(h:Amg t e size st R=some (st',R'))(hs:Sat n C (mkL st) R a w):Sat n C (mkL st') R' a w:=by
 unfold Amg at h;cases hb:Ma t st with
 |false=>rw[hb]at h;simp at h
 | true=>
  rw[hb]at h;simp at h;obtain⟨rfl,rfl⟩:=h;obtain⟨h1,h2,S,ρ,h3,h4⟩:=hs;refine⟨h1,h2,S,ρ++[.slice none 0 0],h3.push (.sl e size []) (.slice none 0 0) (λ_ _=>rfl) (af _) rfl ⟨rfl,λ_=>by grind⟩ rfl (.inr (.inl ⟨rfl,rfl⟩)) (by simp[Res.foot]),λx hx=>?_⟩;rcases Uv hx with⟨g1,g2,g3,y,g4,g5⟩|hx
  .obtain⟨z,rfl,hz⟩:=g5 hb;obtain⟨v,hv,hr⟩:=(h4 _ g4).1 Cd;split at hz
   .have:=hr.exact_inv;subst this;refine⟨λ_=>⟨.slice none 0 0,by rw[g1];exact hv,by rw[g3];exact .d (.os (by rw[←h3.len];simp) rfl)⟩,λhn=>absurd (by rw[g2];exact Cd) hn⟩
   .cases hz
  .obtain⟨k1,k2⟩:=h4 x hx;refine⟨λhp=>?_,k2⟩;obtain⟨v,hv,hr⟩:=k1 hp;exact⟨v,hv,hr.mono (λ_ h=>h) (λ_ _=>rfl) (Pre.append _ _)⟩
def AV.mapD(f:D->D):AV->AV
 |.d x=>.d (f x)
 |.agg ds=>.agg (ds.map f)
 |.tup l=>.tup l
def Res.mapD(f:D->D):Res->Res
 |.box t cells=>.box t (cells.map f)
 |r=>r
theorem dC(f:D->D)(r:Res)(v:Value):(r.mapD f).foot v=r.foot v:=by cases r <;> rfl
theorem Inv.mapD(h:Inv C S w ρ R)(hf:∀v d,Rd S w ρ v d->Rd S w ρ v (f d)):Inv C S w ρ (R.map (Res.mapD f)):=by
 have hget:∀(j:Nat) r,(R.map (Res.mapD f))[j]?=some r->∃r0,R[j]?=some r0/\r=r0.mapD f:=by grind
 refine⟨by rw[ao];exact h.len,λj r v hj hv=>?_,λj k r r2 v v2 b hjk hj hk hv hv2 hf hf2=>?_,λj r v b hj hv hf=>?_,h.sub,h.sup,h.frm,h.size,h.os,h.tape,h.output,h.pre,h.gl⟩
 .obtain⟨r0,g1,rfl⟩:=hget j r hj;have hok:=h.ok j r0 v g1 hv;cases r0 with
  |box t cells=>
   rcases hok with h0|⟨b,vs,rfl,hb,hc⟩
   .exact .inl h0
   .exact .inr ⟨b,vs,rfl,hb,hc.map_right λ_ _ h=>hf _ _ h⟩
  |_=>exact hok
 .obtain⟨r0,g1,rfl⟩:=hget j r hj;obtain⟨r1,g2,rfl⟩:=hget k r2 hk;rw[dC]at hf hf2;exact h.dis j k r0 r1 v v2 b hjk g1 g2 hv hv2 hf hf2
 .obtain⟨r0,g1,rfl⟩:=hget j r hj;rw[dC]at hf;exact h.own j r0 v b g1 hv hf
theorem RdA.mapD(hf:∀v d,Rd S w ρ v d->Rd S w ρ v (f d)){x:AV}(h:RdA S w ρ v x):RdA S w ρ v (x.mapD f):=by
 cases h with
 |d h=>exact .d (hf _ _ h)
 |agg h=>exact .agg (h.map_right λ_ _ h=>hf _ _ h)
 |tup hl h=>exact .tup hl h
def D.mv(i j:Nat):D->D
 |.os k=>bif Nat.beq i k then .os j else .os k
 |d=>d
def Awm(i:Nat)(st:St)(R:List Res):Option (St×List Res):=
 match R[i]? with
 |some (.sl e size rows)=>some (st.map λx=>(x.1,x.2.mapD (D.mv i R.length)),(R.set i .non++[Res.sl e size rows]).map (Res.mapD (D.mv i R.length)))
 |_=>none
theorem Sat.mv(h:Awm i st R=some (st',R'))(hs:Sat n C (mkL st) R a w):Sat n C (mkL st') R' a w:=by
 unfold Awm at h;split at h
 .rename_i e size rows hi;simp only[ah,au]at h;obtain⟨rfl,rfl⟩:=h;obtain⟨h1,h2,S,ρ,h3,h4⟩:=hs;obtain⟨v,hv⟩:=h3.rho hi;have hM:Inv C S w (ρ++[v]) (R.set i .non++[Res.sl e size rows]):=h3.move (r':=.sl e size rows) (v':=v) hi hv (λ_ _ _=>rfl) (af _) rfl ⟨rfl,λ_=>by grind⟩ rfl (λk hk=>.inl hk)
   ((h3.ok i _ v hi hv).mono (λ_ h=>h) (λ_ _=>rfl) (Pre.append _ _) (λ_ _=>rfl))
  have hd:∀x d,Rd S w (ρ++[v]) x d->Rd S w (ρ++[v]) x (d.mv i R.length):=by
   intro x d hr;cases d with
   | os k=>
    simp only[D.mv];cases hb:Nat.beq i k with
    |false=>exact hr
    | true=>
     have:=ak hb;subst this;cases hr with
     |os g1 g2=>have:(ρ++[v])[i]?=some v:=Pre.append _ _ _ _ hv;rw[this]at g1;cases g1;exact .os (by rw[←h3.len];simp) g2
   |_=>exact hr
  refine⟨h1,h2,S,ρ++[v],hM.mapD hd,λx hx=>?_⟩;obtain⟨e0,g1,g2,g3,g4⟩:=yI hx;have hp0:=D9 g1;obtain⟨k1,_⟩:=h4 e0 g1;obtain⟨y,hy,hr⟩:=k1 (by rw[hp0];exact Cd);refine⟨λ_=>⟨y,by rw[←g2];exact hy,by rw[g4];exact(hr.mono (λ_ h=>h) (λ_ _=>rfl) (Pre.append _ _)).mapD hd⟩,λhn=>absurd (by rw[g3];exact Cd) hn⟩
 .cases h
def Q_:D->Bool
 |.p (.v (.slice none 0 0))=>true
 |_=>false
def Ad2(i j e size:Nat)(st:St)(R:List Res):Option (St×List Res):=
 match R[i]? with
 |some (.box t cells)=>match cells[j]? with
  |some d=>bif Q_ d then some (st,R.set i (.box t (cells.set j (.os R.length)))++[.sl e size []]) else none
  |none=>none
 |_=>none
theorem Inv.swap{r r':Res}(h:Inv C S w ρ R)(hi:R[i]?=some r)(hok:∀v,r.ok S w ρ v->r'.ok S w ρ v)(hf:∀v,r'.foot v=r.foot v):Inv C S w ρ (R.set i r'):=by
 have key:∀(j:Nat) r1,(R.set i r')[j]?=some r1->∃r0,R[j]?=some r0/\(∀v,r0.ok S w ρ v->r1.ok S w ρ v)/\∀v,r1.foot v=r0.foot v:=by grind
 refine⟨by rw[bz];exact h.len,λj r1 v hj hv=>?_,λj k r1 r2 v v2 b hjk hj hk hv hv2 hf hf2=>?_,λj r1 v b hj hv hf=>?_,h.sub,h.sup,h.frm,h.size,h.os,h.tape,h.output,h.pre,h.gl⟩
 .obtain⟨r0,g1,g2,_⟩:=key j r1 hj;exact g2 v (h.ok j r0 v g1 hv)
 .obtain⟨r0,g1,_,g3⟩:=key j r1 hj;obtain⟨q0,m1,_,m3⟩:=key k r2 hk;rw[g3]at hf;rw[m3]at hf2;exact h.dis j k r0 q0 v v2 b hjk g1 m1 hv hv2 hf hf2
 .obtain⟨r0,g1,_,g3⟩:=key j r1 hj;rw[g3]at hf;exact h.own j r0 v b g1 hv hf
theorem Amb{d:D}(hn:Q_ d=true)(h:Rd S w ρ x d)(hl:ρ.length=R.length):Rd S w (ρ++[.slice none 0 0]) x (.os R.length):=by
 unfold Q_ at hn;split at hn
 .cases h with
  |p h=>cases h;exact .os (by rw[←hl];simp) rfl
 .cases hn
theorem Sat.ownb(h : Ad2 i j e size st R = some (st', R'))(hs : Sat n C (mkL st) R a w) : Sat n C (mkL st') R' a w := by
 unfold Ad2 at h;split at h
 .rename_i t cells hi;split at h
  .rename_i d hj;cases hb:Q_ d with
   |false=>rw[hb]at h;simp at h
   | true=>
    rw[hb]at h;simp at h;obtain⟨rfl,rfl⟩:=h;obtain⟨h1,h2,S,ρ,h3,h4⟩:=hs;have hP:=h3.push (w':=w) (.sl e size []) (.slice none 0 0) (λ_ _=>rfl) (af _) rfl ⟨rfl,λ_=>by grind⟩ rfl (.inr (.inl ⟨rfl,rfl⟩)) (by simp[Res.foot]);have hil:i<R.length:=(aa.1 hi).1;have hi':(R++[Res.sl e size []])[i]?=some (.box t cells):=by rw[aD hil];exact hi
    have hlen:=h3.len
    have hQ := hP.swap (r' := .box t (cells.set j (.os R.length))) hi' (λv hv => by
     rcases hv with h0|⟨b,vs,rfl,hb',hc⟩
     .exact .inl h0
     .refine .inr ⟨b,vs,rfl,hb',de (by rw[bz];exact hc.length) λk x d' hx hd=>?_⟩;rw[aS]at hd;split at hd
      .rename_i e';subst e';split at hd
       .cases hd;have hr:=hc.both hx hj;unfold Q_ at hb;split at hb
        .cases hr with
         |p hr=>cases hr;exact .os (by rw[←hlen];simp) rfl
        .cases hb
       .cases hd
      .exact hc.both hx hd) (λ_=>rfl)
    refine⟨h1,h2,S,ρ++[.slice none 0 0],by rw[List.set_append_left _ _ hil]at hQ;exact hQ,λx hx=>?_⟩;obtain⟨k1,k2⟩:=h4 x hx;refine⟨λhp=>?_,k2⟩;obtain⟨v,hv,hr⟩:=k1 hp;exact⟨v,hv,hr.mono (λ_ h=>h) (λ_ _=>rfl) (Pre.append _ _)⟩
  .cases h
 .cases h
def Ac6(j:Nat):AV->Bool
 |.agg ds=>match ds[j]? with
  |some d=>Q_ d
  |none=>false
 |_=>false
def Al3(j:Nat)(d:D):AV->AV
 |.agg ds=>.agg (ds.set j d)
 |v=>v
def Ad1(t j e size:Nat)(st:St)(R:List Res):Option (St×List Res):=
 bif st.all (λx=>!(Nat.beq x.1 t) || Ac6 j x.2)then some (st.map λx=>(x.1,bif Nat.beq x.1 t then Al3 j (.os R.length) x.2 else x.2),R++[.sl e size []]) else none
theorem Ku:∀{st:St}{e:Ent},e∈mkL st->(e.t,e.v)∈st/\e.p=[]
 | [],e,h=>by cases h
 |(t,v)::r,e,h=>by
  rcases ag.1 h with rfl|h
  .exact⟨ai,rfl⟩
  .exact⟨al _ (Ku h).1,(Ku h).2⟩
theorem Ad7{f:Nat×AV->Nat×AV}(hf:∀x,(f x).1=x.1):∀{st:St}{e:Ent},e∈mkL (st.map f)->∃v,(e.t,v)∈st/\(⟨e.t,[],v⟩:Ent)∈mkL st/\e.p=[]/\e.v=(f (e.t,v)).2
 | [],e,h=>by cases h
 | (t,v)::r,e,h=>by
  have h:e∈(⟨(f (t,v)).1,[],(f (t,v)).2⟩:Ent)::mkL (r.map f):=h;rcases ag.1 h with rfl|h
  .have:=hf (t,v);simp only at this;refine⟨v,?_,?_,rfl,?_⟩ <;> simp only[this]
   .exact ai
   .exact ai
  .obtain⟨u,g1,g2,g3,g4⟩:=Ad7 hf h;exact⟨u,al _ g1,al _ g2,g3,g4⟩
theorem Sat.ownt(h:Ad1 t j e size st R=some (st',R'))(hs:Sat n C (mkL st) R a w):Sat n C (mkL st') R' a w:=by
 unfold Ad1 at h;cases hb:(st.all λx=>!(Nat.beq x.1 t) || Ac6 j x.2) with
 |false=>rw[hb]at h;simp at h
 | true=>
  rw[hb]at h;simp only[ez,ah,au]at h;obtain⟨rfl,rfl⟩:=h;obtain⟨h1,h2,S,ρ,h3,h4⟩:=hs;refine⟨h1,h2,S,ρ++[.slice none 0 0],h3.push (.sl e size []) (.slice none 0 0) (λ_ _=>rfl) (af _) rfl ⟨rfl,λ_=>by grind⟩ rfl (.inr (.inl ⟨rfl,rfl⟩)) (by simp[Res.foot]),λx hx=>?_⟩;obtain⟨u,g1,g2,g3,g4⟩:=Ad7 (f:=λx=>(x.1,bif Nat.beq x.1 t then Al3 j (.os R.length) x.2 else x.2)) (λ_=>rfl) hx;obtain⟨v,hv,hr⟩:=(h4 _ g2).1 Cd;refine⟨λ_=>⟨v,hv,?_⟩,λhn=>absurd (by rw[g3];exact Cd) hn⟩;rw[g4];simp only at hr ⊢;cases hc:Nat.beq x.t t with
  |false=>simp only[eB];exact hr.mono (λ_ h=>h) (λ_ _=>rfl) (Pre.append _ _)
  | true=>
   simp only[ez];have hn:=(aG.1 hb) _ g1;simp only[hc,aH,aQ]at hn;cases hr with
   | agg hr=>
    rename_i vs ds;simp only[Ac6]at hn;simp only[Al3];split at hn
    .rename_i d hj;refine .agg (de (by rw[bz];exact hr.length) λk y d' hy hd=>?_);rw[aS]at hd;split at hd
     .rename_i e';subst e';split at hd
      .cases hd;exact Amb hn (hr.both hy hj) h3.len
      .cases hd
     .exact(hr.both hy hd).mono (λ_ h=>h) (λ_ _=>rfl) (Pre.append _ _)
    .cases hn
   |_=>simp[Ac6]at hn
end
end Go.SL
namespace Go.SL
variable{res v:AV}{c:Code}{C0:Ctx}{fn:Func}{pi:eR}{R2:List Res}{results:List ResultVar}{D k:Nat}
inductive Ctl(σ ρ:Type) where
 |next (s:σ)
 |brk (s:σ)
 |ret (r:ρ)
def whileN{σ ρ:Type}(f:σ->Option (Ctl σ ρ)):Nat->σ->Option (Ctl σ ρ)
 |0,_=>none
 |n+1,s=>match f s with
  |some (.next s')=>whileN f n s'
  |some (.brk s')=>some (.next s')
  |some (.ret r)=>some (.ret r)
  |none=>none
def Lm{α σ ρ:Type}(f:α->σ->Option (Ctl σ ρ)):List α->σ->Option (Ctl σ ρ)
 | [],s=>some (.next s)
 |x::xs,s=>match f x s with
  |some (.next s')=>Lm f xs s'
  |some (.brk s')=>some (.next s')
  |some (.ret r)=>some (.ret r)
  |none=>none
theorem Ae0{p:Nat->Prop}(h:∃n,p n):∃n,p n/\∀m,m<n->¬p m:=by
 obtain⟨n,hn⟩:=h;induction n using Nat.strongRecOn with
 | _ n ih=>
  by_cases hx:∃m,m<n/\p m
  .obtain⟨m,h1,h2⟩:=hx;exact ih m h1 h2
  .exact⟨n,hn,λm hm hp=>hx ⟨m,hm,hp⟩⟩
section
variable{ro:Option Nat}{P:Program}{n:Nat}{C:Ctx}{Q:Exit->Act->World->Prop}{st st':St}{R R':List Res}{S S':Nat->Prop}{w w':World}{ρ ρ':eU}{a:Act}
theorem Akj(I:Nat->Act->World->Prop)(h0:∃m,∀a w,Sat n C (mkL st) R a w->I m a w)
  (h:∀m a w,I m a w->c.wpIn (FR ro) 0 P (Exit.then (λa' w'=>∃k,k<m/\I k a' w') Q) a w):W ro P n C Q (.loop c) st R:=by
 intro a w hs;obtain⟨m0,h0⟩:=h0;have key:∀a w,(∃m,I m a w)->∃m,I m a w/\∀k,k<m->¬I k a w:=λa w h=>Ae0 h
 let μ:Act->World->Nat:=λa w=>@dite _ (∃m,I m a w) (Classical.propDecidable _) (λh=>Classical.choose (key a w h)) (λ_=>0)
 have hμ:∀a w(hx:∃m,I m a w),I (μ a w) a w/\∀k,k<μ a w->¬I k a w:=by
  intro a w hx;have:μ a w=Classical.choose (key a w hx):=by simp only[μ];rw[dif_pos hx]
  rw[this];exact Classical.choose_spec (key a w hx)
 refine wpIn_loop (λa w=>∃m,I m a w) μ ⟨m0,h0 a w hs⟩ λa w hI=>?_;obtain⟨h1,h2⟩:=hμ a w hI;refine wpIn_mono (h _ a w h1) λe a' w' hq=>?_;cases e with
 |normal=>
  obtain⟨k,hk,hIk⟩:=hq;refine⟨⟨k,hIk⟩,?_⟩;obtain⟨g1,g2⟩:=hμ a' w' ⟨k,hIk⟩;rcases aM k (μ a' w') with h|h
  .exact absurd hIk (g2 k h)
  .omega
 |_=>exact hq
theorem A19{σ τ:Type}(f:σ->Option (Ctl σ τ))(stF:σ->St)(RF:σ->List Res)(r:Ctl σ τ)(fuel:Nat)(s:σ)(hm:whileN f fuel s=some r)
  (h0:st=stF s/\R=RF s)
  (h:∀s k,f s=some k->(∀s',k=.brk s'->r=.next s')->(∀v,k=.ret v->r=.ret v) ->
   W ro P n C (Exit.then (λa' w'=>∃s',k=.next s'/\Sat n C (mkL (stF s')) (RF s') a' w') Q) c (stF s) (RF s)):W ro P n C Q (.loop c) st R:=by
 refine Akj (λm a w=>∃s,whileN f m s=some r/\Sat n C (mkL (stF s)) (RF s) a w) ⟨fuel,λa w hs=>⟨s,hm,by rw[h0.1,h0.2]at hs;exact hs⟩⟩ λm a w hI=>?_;obtain⟨s,hf,hs⟩:=hI;cases m with
 |zero=>simp[whileN]at hf
 | succ m=>
  simp only[whileN]at hf;cases hk:f s with
  |none=>rw[hk]at hf;cases hf
  | some k=>
   rw[hk]at hf;refine wpIn_mono (h s k hk ?_ ?_ a w hs) λe a' w' hq=>?_
   .intro s' e;subst e;simp only[ah]at hf;exact hf.symm
   .intro v e;subst e;simp only[ah]at hf;exact hf.symm
   .cases e with
    |normal=>obtain⟨s',e,hs'⟩:=hq;subst e;exact⟨m,Nat.lt_succ_self m,s',hf,hs'⟩
    |_=>exact hq
def Ads(P : Program)(st : St)(R : List Res) : ResultVar -> Option AV
 |.tmp t=>match Eu (mkL st) t with
  |some e=>some e.v
  |none=>none
 | .cell t ty=>match Eu (mkL st) t,B8 P ty with
  | some e,some m=>match e.v with
   |.d (.o i off)=>match R[i]? with
    |some (.box _ cells)=>Hr P ty ((cells.drop off).take m)
    |_=>none
   |_=>none
  |_,_=>none
def Q3(P:Program)(st:St)(R:List Res):List ResultVar->Option (List AV)
 | []=>some []
 |r::l=>match Ads P st R r,Q3 P st R l with
  |some v,some vs=>some (v.norm::vs)
  |_,_=>none
def Azf:List AV->AV
 | [v]=>v
 |l=>.tup l
def U0(P:Program)(results:List ResultVar)(k:Nat)(pi:eR)(st:St)(R:List Res):Option (AV×List Res):=
 bif Gq pi&&Lk k pi 0 then
  match Q3 P st R results,Le R pi with
  |some vs,some Rp=>match (Azf vs).ren (Fy pi),Jb (Fy pi) Rp with
   |some v,some R'=>some (v,R')
   |_,_=>none
  |_,_=>none
 else none
def Mj(P:Program)(fn:Func)(C:Ctx)(res:AV)(R2:List Res):Exit->Act->World->Prop:=
 bodyPostM (FR none) 0 P fn λe w'=>∃v S' ρ',e=.returned v/\RdA S' w' ρ' v res/\Inv C S' w' ρ' R2
structure Up(C0 C:Ctx):Prop where
 up:∀S w ρ R,Inv C S w ρ R->Inv C0 S w ρ R
 df:C.df=[]\/∃D,C.df=[{target:=.collected D,args:=#[]}]/\C0.w.heap.size<=D
 hl:C0.h.length<=C.h.length
theorem dx{C:Ctx}(h:C.df=[]):Up C C:=⟨λ_ _ _ _ h=>h,.inl h,af _⟩
theorem Inv.shut(hI:Inv C0 S w ρ R)(h0:C0.w.heap.size<=D)(hS:¬S D)(hR:∀(i:Nat) r h,R[i]?=some r->ρ[i]?=some h->¬r.foot h D)(o:Obj):Inv C0 S (w.putObj D o) ρ R/\∀b,S b->(w.putObj D o).heap[b]?=w.heap[b]?:=by
 have hsame:∀b,b≠D->(w.putObj D o).heap[b]?=w.heap[b]?:=λb hb=>World.putObj_heap_other hb;have hSs:∀b,S b->(w.putObj D o).heap[b]?=w.heap[b]?:=λb hb=>hsame b (λe=>hS (e ▸ hb));have hsz:(w.putObj D o).heap.size=w.heap.size:=by simp[World.putObj]
 refine⟨⟨hI.len,λi r h h1 h2=>(hI.ok i r h h1 h2).mono (λ_ h=>h) hSs (Pre.refl _) (λb hb=>hsame b (λe=>hR i r h h1 h2 (e ▸ hb))),hI.dis,λi r h b h1 h2 h3=>?_,hI.sub,λb hb=>?_,λb hb hf=>?_,?_,hI.os,hI.tape,hI.output,hI.pre,hI.gl⟩,hSs⟩
 .rw[hsz];exact hI.own i r h b h1 h2 h3
 .rw[hsz];exact hI.sup b hb
 .exact(hsame b (by omega)).trans (hI.frm b hb hf)
 .rw[hsz];exact hI.size
theorem Aqe(hI:Inv C S w ρ R)(hL:Co S w ρ a (mkL st)){r:ResultVar}(h:Ads P st R r=some v) :
  ∃x,(match r with|.tmp t=>pure (a.tmps.getD t undef)|.cell t ty=>do loadVar ty (←asAddr (a.tmps.getD t undef)):Sem Value).run P w=.ok x w/\RdA S w ρ x v:=by
 have slot:∀t e,Eu (mkL st) t=some e->∃x,a.tmps.getD t undef=x/\RdA S w ρ x e.v:=by intro t e he;obtain⟨hm,ht⟩:=Dh he;obtain⟨x,hx,hr⟩:=(hL e hm).1 (by rw[D9 hm];exact Cd);rw[ht]at hx;exact⟨x,by simp[eu,hx],hr⟩
 unfold Ads at h;split at h
 .rename_i t;split at h
  .rename_i e he;simp at h;subst h;obtain⟨x,hx,hr⟩:=slot t e he;exact⟨x,by simp[hx],hr⟩
  .cases h
 .rename_i t ty;split at h
  .rename_i e m he hm;split at h
   .rename_i i off hv;split at h
    .rename_i u cells hi;obtain⟨x,hx,hr⟩:=slot t e he;rw[hv]at hr;obtain⟨b,hb,hρ⟩:=hr.d_inv.o_inv;obtain⟨y,hy,hry⟩:=G_ (P:=P) (S:=S) (w:=w) (ρ:=ρ) (ad:=⟨b,off,none⟩) h (λj d hd=>Af5 hI hi hρ off m j d hd);refine⟨y,?_,hry⟩;simp only[hx,hb,asAddr,eG,eI,eJ,hy]
    .cases h
   .cases h
  .cases h
theorem jA(hI:Inv C S w ρ R)(hL:Co S w ρ a (mkL st)):∀{l:List ResultVar}{vs:List AV},Q3 P st R l=some vs ->
  ∃xs,(l.mapM fun|.tmp t=>pure (a.tmps.getD t undef)|.cell t ty=>do loadVar ty (←asAddr (a.tmps.getD t undef)):Sem eU).run P w=.ok xs w/\A9 (RdA S w ρ) xs vs
 | [],vs,h=>by simp[Q3]at h;subst h;exact⟨[],by simp,trivial⟩
 | r::l,vs,h=>by
  simp only[Q3]at h;split at h
  .rename_i v vs' h1 h2;simp at h;subst h;obtain⟨x,hx,hr⟩:=Aqe hI hL h1;obtain⟨xs,hxs,hrs⟩:=jA hI hL h2;refine⟨x::xs,?_,hr.norm,hrs⟩;simp only[List.mapM_cons,eG];rw[hx];simp only[eJ];rw[hxs];simp
  .cases h
theorem Azg(hf:fn.results.toList=results)(hk:C.h.length<=k)(h:U0 P results k pi st R=some (res,R2))
  (h3:Inv C S w ρ R)(h4:Co S w ρ a (mkL st)):∃x,(Go.results fn a.tmps).run P w=.ok x w/\∃v S' ρ',Ending.returned x=.returned v/\RdA S' w ρ' v res/\Inv C S' w ρ' R2:=by
 unfold U0 at h;cases hb:(Gq pi&&Lk k pi 0) with
 |false=>rw[hb]at h;simp at h
 | true=>
  rw[hb]at h;simp only[ez]at h;simp only[ac]at hb;split at h
  .rename_i vs Rp e1 e2;split at h
   .rename_i v R3 e3 e4;simp at h;obtain⟨rfl,rfl⟩:=h;have hid:∀(i j:Nat) x,Fy pi i=some j->ρ[i]?=some x->(Dj ρ pi)[j]?=some x:=(h3.start hb.1 e2 e4).2.1;obtain⟨xs,hxs,hrs⟩:=jA (P:=P) h3 h4 e1;have hI2:=h3.pick hb.1 e2 e4 λi v hv=>by
     have hi:i<C.h.length:=(aa.1 hv).1;have:=S7 hb.2 i (by omega);simp only[aN]at this;have hp:=h3.pre i v hv;simp[Dj,this,List.getD_eq_getElem?_getD,hp]
    have hrun:∃x,(Go.results fn a.tmps).run P w=.ok x w/\RdA S w ρ x (Azf vs):=by
     have hm:∀g:ResultVar->Sem Value,(∀t,g (.tmp t)=pure (a.tmps.getD t undef))->(∀t ty,g (.cell t ty)=do loadVar ty (←asAddr (a.tmps.getD t undef)))->(fn.results.mapM g:Sem (Array Value)).run P w=.ok xs.toArray w:=by
      intro g g1 g2;have e:g=(fun|.tmp t=>pure (a.tmps.getD t undef)|.cell t ty=>do loadVar ty (←asAddr (a.tmps.getD t undef))):=by
       funext x;cases x with
       |tmp t=>exact g1 t
       |cell t ty=>exact g2 t ty
      rw[e,Uw,hf,hxs];rfl
     have hlen:=hrs.length
     match xs,vs,hrs,hlen,hm with
     | [x],[v],hrs,_,hm=>refine⟨x,?_,hrs.1⟩;unfold Go.results;simp only[eG];rw[hm _ (λ_=>rfl) (λ_ _=>rfl)];simp
     | [],[],hrs,_,hm=>refine⟨.tuple #[],?_,.tup (vs:=[]) rfl (by simp)⟩;unfold Go.results;simp only[eG];rw[hm _ (λ_=>rfl) (λ_ _=>rfl)];simp
     |x::y::l,v::u::l',hrs,hl,hm=>refine⟨.tuple (x::y::l).toArray,?_,.tup hl λj z b h1 h2=>hrs.both h1 h2⟩;unfold Go.results;simp only[eG];rw[hm _ (λ_=>rfl) (λ_ _=>rfl)];simp
     | [],_::_,hrs,_,_=>exact hrs.elim
     |_::_,[],hrs,_,_=>exact hrs.elim
     | [_],_::_::_,hrs,_,_=>exact hrs.2.elim
     |_::_::_,[_],hrs,_,_=>exact hrs.2.elim
    obtain⟨x,hx,hr⟩:=hrun;exact⟨x,hx,x,S,Dj ρ pi,rfl,hr.ren hid _ e3,hI2⟩
   .cases h
  .cases h
theorem Sat.post(hup:Up C0 C)(hf:fn.results.toList=results)(hk:C.h.length<=k)(h:U0 P results k pi st R=some (res,R2))
  (hs:Sat n C (mkL st) R a w):Mj P fn C0 res R2 .ret a w:=by
 obtain⟨h1,_,S,ρ,h3,h4⟩:=hs;have hk0:C0.h.length<=k:=aA hup.hl hk;show LeavesInM (FR none) 0 P fn a.tmps _ a.defers .returning w;rw[h1];rcases hup.df with hd|⟨D,hd,hD0⟩
 .rw[hd];exact Azg hf hk0 h (hup.up _ _ _ _ h3) h4
 .rw[hd];obtain⟨D',e,m1,m2,m3,m4⟩:=h3.gl.2.2 _ (by rw[hd];exact aU.2 rfl);have:D'=D:=by injection e with e1 _;injection e1 with e1;exact e1.symm
  subst this;have hK:w.heap[D']?=some (.deferred (some [])):=(h3.frm D' m1 m2).trans m4;have hS:¬S D':=λhSD=>by
   rcases(h3.sup D' hSD).2 with q|q|q
   .exact m3 q
   .exact m2 q
   .omega
  have hR:∀(i:Nat) r h,R[i]?=some r->ρ[i]?=some h->¬r.foot h D':=λi r h g1 g2 g3=>by
   rcases(h3.own i r h D' g1 g2 g3).2.2 with q|q
   .exact m2 q
   .omega
  obtain⟨g1,g2⟩:=(hup.up _ _ _ _ h3).shut hD0 hS hR (.deferred none);refine⟨by simp,.inl ⟨D',_,rfl,run_takeDeferred hK,?_⟩⟩;refine Azg hf hk0 h g1 λe he=>?_;obtain⟨q1,q2⟩:=h4 e he;refine⟨λhp=>?_,q2⟩;obtain⟨x,hx,hr⟩:=q1 hp;exact⟨x,hx,hr.mono (λ_ h=>h) g2 (Pre.refl _)⟩
def X6:Nat->List AV->St
 |_,[]=>[]
 |i,v::l=>(i,v)::X6 (i+1) l
theorem Ab3:∀{l:List AV}{i:Nat}{e:Ent},e∈mkL (X6 i l)->∃j,e.t=i+j/\e.p=[]/\l[j]?=some e.v
 | [],i,e,h=>by cases h
 | v::l,i,e,h=>by
  rcases ag.1 h with rfl|h
  .exact⟨0,rfl,rfl,rfl⟩
  .obtain⟨j,h1,h2,h3⟩:=Ab3 h;exact⟨j+1,by omega,h2,by simpa using h3⟩
theorem Afn{f:FuncId}{args:List AV}(hf:P.funcs[f]?=some fn)(hb:fn.body=some c)(hn:fn.ntmps=n)(hl:args.length<=n)
  (h:∀C:Ctx,C.df=[]->C.h.length=R.length->W none P n C (Mj P fn C res R2) c (X6 0 args) R):CallOk P f args R res R2:=by
 intro S w ρ vs hst hv;refine callsIn_wide.1 (callsIn_of_wp_marks (F:=Fence.wide) (n:=0) hf hb trivial ?_);have hlen:=hv.length;refine h ⟨w,S,Em ρ R,ρ,[]⟩ rfl (by simp[hst.len]) _ _ ⟨rfl,?_,S,ρ,hst.inv,λe he=>?_⟩
 .simp;omega
 .obtain⟨j,h1,h2,h3⟩:=Ab3 he;refine⟨λ_=>?_,λhnp=>absurd (by rw[h2];exact Cd) hnp⟩;obtain⟨x,hx,hr⟩:=hv.get h3;refine⟨x,?_,hr⟩;have hj:j<vs.length:=(aa.1 hx).1;simp only[aN]at h1;rw[h1];simp[Array.getElem?_append,hj];rw[aj hj]at hx;simpa using hx
end
end Go.SL
namespace Go.SL
variable{α:Type}{d res:AV}{f:FuncId}{rows:List (List Pd)}{tys:List (TypeId×Nat)}{args args':List AV}{R2 R2':List Res}{ρ2:eU}{e i k size t:Nat}{v x:Value}
section
variable{P:Program}{n:Nat}{C:Ctx}{st st':St}{R R':List Res}{S S':Nat->Prop}{w w':World}{ρ ρ':eU}{a:Act}
theorem Ann{rows:List (List α)}(h1:∀row,row∈rows->row.length=size)(hk:k<rows.length*size):∃i j row d,k=i*size+j/\rows[i]?=some row/\row[j]?=some d/\j<size:=by
 have hs:0<size:=by grind
 have hkl:k / size<rows.length:=(Nat.div_lt_iff_lt_mul hs).2 hk;have hrow:=aj hkl;have hrl:=h1 _ (ae hrow);have hj:k % size<(rows[k / size]).length:=by rw[hrl];exact Nat.mod_lt _ hs
 refine⟨k / size,k % size,_,_,?_,hrow,aj hj,Nat.mod_lt _ hs⟩;rw[Nat.mul_comm];exact(Nat.div_add_mod k size).symm
theorem Zc{e:Ent}(h:Ya S w ρ a e)(hS:∀b,S b->S' b)(hρ:Pre ρ ρ'):Ya S' w ρ' a e:=by refine⟨λhp=>?_,h.2⟩;obtain⟨v,hv,hr⟩:=h.1 hp;exact⟨v,hv,hr.mono hS (λ_ _=>rfl) hρ⟩
theorem Inv.swap0{r r':Res}(h:Inv C S w ρ R)(hi:R[i]?=some r)(hρ:ρ[i]?=some v)(hok:r.ok S w ρ v->r'.ok S w ρ v)(hf:∀b,r'.foot v b=r.foot v b):Inv C S w ρ (R.set i r'):=by
 refine h.regroup (λj _=>j) (by simp[h.len]) (Pre.refl _) (λj r1 v1 h1 h2=>?_) (λj r1 v1 b h1 h2 h3=>?_) (λ_ _=>rfl) rfl rfl ⟨rfl,λ_=>by grind⟩ rfl
 .rw[aS]at h1;split at h1
  .rename_i hj;subst hj;split at h1
   .cases h1;rw[hρ]at h2;cases h2;exact hok (h.ok i r v hi hρ)
   .cases h1
  .exact h.ok j r1 v1 h1 h2
 grind
def Afe(i:Nat)(tys:List (TypeId×Nat))(st:St)(R:List Res):Option (St×List Res):=
 match R[i]? with
 |some (.zsl e size rows)=>bif Nat.beq tys.length size then some (st,R.set i (.dsl e size R.length)++[.gh size tys rows none]) else none
 |_=>none
theorem Inv.deepen(h:Inv C S w ρ R)(hi:R[i]?=some (.zsl e size rows))(ht:tys.length=size) :
  ∃g,Inv C S w (ρ++[g]) (R.set i (.dsl e size R.length)++[.gh size tys rows none]):=by
 have hL:ρ.length=R.length:=h.len;have hil:i<ρ.length:=by rw[hL];exact(aa.1 hi).1
 have hρ:ρ[i]?=some ρ[i]:=aj hil;generalize ρ[i]=v at hρ;have nohole:∀q,¬Ia size none q:=λq ⟨p,hp,_⟩=>by cases hp
 have key : ∃g : Value, (∀(xs cs : Array Value)(f : Fn), g = Value.func f xs cs -> (∀(k : Nat)(x : Value), xs[k]?=some x -> ¬ ∃a n c, x = Value.slice (some a) n c)) /\ (g.oneCell' = false \/ ∃f xs cs, g=.func f xs cs /\ gOk S w size tys rows none xs) /\
   (∀ρ':eU,ρ'[R.length]?=some g->(Res.dsl e size R.length).ok S w ρ' v):=by
  rcases h.ok i _ _ hi hρ with hd|hk
  .exact⟨undef,(λxs cs f h=>by cases h),.inl rfl,λρ' _=>.inl hd⟩
  .rcases hk with⟨h1,h2⟩|⟨b,o,cap,vs,h1,hb,h3,h4,h5,h6,h7⟩
   .subst h1;subst h2;refine⟨.func (.func 0) #[] #[],(λxs cs f h=>by cases h;simp),.inr ⟨_,_,_,rfl,by simp,by simp,by simp,by simp⟩,λρ' hg=>.inr ⟨_,_,_,hg,.inl ⟨rfl,by simp⟩⟩⟩
   .subst h1;have hle:rows.length*size<=cap*size:=bf _ h3;have hsz:(vs.extract o (o+rows.length*size)).size=rows.length*size:=by simp;omega
    have hget:∀(k:Nat)(x:Value),(vs.extract o (o+rows.length*size))[k]?=some x->k<rows.length*size/\vs[o+k]?=some x:=by
     intro k x hx;have hkl:k<rows.length*size:=by rw[←hsz];exact(aP.1 hx).1
     refine⟨hkl,?_⟩;rw[Array.getElem?_extract]at hx;split at hx
     .exact hx
     .cases hx
    have hns:∀(k:Nat)(x:Value),(vs.extract o (o+rows.length*size))[k]?=some x->¬ ∃a n c,x=Value.slice (some a) n c:=by
     rintro k x hx ⟨a,n,c,rfl⟩;obtain⟨hk,hv⟩:=hget k _ hx;obtain⟨i2,j2,row,d,e1,e2,e3,_⟩:=Ann h6 hk;obtain⟨y,hy,hz⟩:=h7 i2 row e2 j2 d e3;subst e1;rw[←bl,hy]at hv;cases hv;cases d with
     |v z=>obtain⟨e1,_,hn⟩:=hz;subst e1;exact hn
     |s r=>cases hz.1
    refine⟨.func (.func 0) (vs.extract o (o+rows.length*size)) #[],(λxs cs f h=>by cases h;exact hns),.inr ⟨_,_,_,rfl,h6,hsz,λi2 row hi2 j2 d hj2=>?_,λk1 k2 a1 n1 c1 a2 n2 c2 _ _ _ h8 _=>absurd ⟨_,_,_,rfl⟩ (hns k1 _ h8)⟩,λρ' hg=>.inr ⟨_,_,_,hg,.inr ⟨b,o,rows.length,cap,vs,rfl,hb,h3,h4,h5,hsz,λk x hx=>(hget k x hx).2⟩⟩⟩;obtain⟨y,hy,hz⟩:=h7 i2 row hi2 j2 d hj2;have hil2:i2<rows.length:=(aa.1 hi2).1;have hjl:j2<size:=by rw[←h6 row (ae hi2)];exact(aa.1 hj2).1
    have hlt:i2*size+j2<rows.length*size:=by have:(i2+1)*size<=rows.length*size:=bf _ hil2;rw[aF,ce]at this;omega
    refine⟨y,?_,?_⟩
    .rw[Array.getElem?_extract,eC (by omega),←bl];exact hy
    .cases d with
     |v z=>exact hz
     |s r=>obtain⟨rfl,rfl⟩:=hz;exact⟨rfl,λ_=>⟨_,_,aj (by rw[ht];exact hjl),.inl ⟨rfl,rfl⟩⟩⟩
 obtain⟨g,hnos,hgok,hdok⟩:=key;refine⟨g,?_⟩;have hnew:(ρ++[g])[R.length]?=some g:=by rw[←hL];simp
 refine h.regroup (λj _=>j) (by simp[hL]) (Pre.append _ _) (λj r v1 h1 h2=>?_) (λj r v1 b h1 h2 h3=>?_) (λ_ _=>rfl) rfl rfl ⟨rfl,λ_=>by first|exact af _|exact aO _⟩ rfl
 .rcases Ei h1 with k1|⟨e1,rfl⟩
  .have hjl:j<R.length:=by have:=(aa.1 k1).1;simpa using this
   have h2:ρ[j]?=some v1:=by rw[aD (by omega)]at h2;exact h2
   rw[aS]at k1;split at k1
   .rename_i hj;subst hj;split at k1
    .cases k1;rw[hρ]at h2;cases h2;exact hdok _ hnew
    .omega
   .exact(h.ok j r v1 k1 h2).mono (λ_ h=>h) (λ_ _=>rfl) (Pre.append _ _) (λ_ _=>rfl)
  .have e2:j=R.length:=by simpa using e1
   subst e2;rw[hnew]at h2;cases h2;exact hgok
 .rcases Ei h1 with k1|⟨e1,rfl⟩
  .have hjl:j<R.length:=by have:=(aa.1 k1).1;simpa using this
   have h2:ρ[j]?=some v1:=by rw[aD (by omega)]at h2;exact h2
   rw[aS]at k1;split at k1
   .rename_i hj;subst hj;split at k1
    .cases k1;exact⟨_,_,_,rfl,hi,h2,h3⟩
    .omega
   .exact⟨j,r,v1,rfl,k1,h2,h3⟩
  .have e2:j=R.length:=by simpa using e1
   subst e2;rw[hnew]at h2;cases h2;exfalso
   match g,h3,hnos with
   |.func f xs cs,h3,hnos=>
    obtain⟨k,x,k1,_,k3⟩:=h3
    match x,k3,k1 with
    |.slice (some ad) m cp,k3,k1=>exact hnos _ _ _ rfl k _ k1 ⟨_,_,_,rfl⟩
theorem Sat.deep(h:Afe i tys st R=some (st',R'))(hs:Sat n C (mkL st) R a w):Sat n C (mkL st') R' a w:=by
 unfold Afe at h;split at h
 .rename_i e size rows hi;cases hb:Nat.beq tys.length size with
  |false=>rw[hb]at h;simp at h
  |true=>rw[hb]at h;simp only[ez,ah,au]at h;obtain⟨rfl,rfl⟩:=h;obtain⟨h1,h2,S,ρ,h3,h4⟩:=hs;obtain⟨g,hI⟩:=h3.deepen hi (ak hb);exact⟨h1,h2,S,ρ++[g],hI,λe he=>Zc (h4 e he) (λ_ h=>h) (Pre.append _ _)⟩
 .cases h
def Aer(i:Nat)(st:St)(R:List Res):Option (St×List Res):=
 match R[i]? with
 |some (.dsl e size g)=>match R[g]? with
  |some (.gh s2 _ rows none)=>bif Nat.beq size s2&&Nat.blt 0 size then some (st,(R.set g .non).set i (.sl e size rows)) else none
  |_=>none
 |_=>none
theorem Sat.flat(h : Aer i st R = some (st', R'))(hs : Sat n C (mkL st) R a w) : Sat n C (mkL st') R' a w := by
 unfold Aer at h;split at h
 .rename_i e size g hi;split at h
  .rename_i s2 tys rows hg;cases hb:Nat.beq size s2&&Nat.blt 0 size with
   |false=>rw[hb]at h;simp at h
   | true=>
    rw[hb]at h;simp only[ez,ah,au]at h;obtain⟨rfl,rfl⟩:=h;simp only[ac]at hb;have:=ak hb.1;subst this;have hs0:0<size:=by simpa[eN]using hb.2
    obtain⟨h1,h2,S,ρ,h3,h4⟩:=hs;have hig:i≠g:=λe=>by subst e;rw[hi]at hg;cases hg
    obtain⟨v,hρi⟩:=h3.rho hi;obtain⟨u,hρg⟩:=h3.rho hg;have hF:=h3.freeze hg hρg;have hi':(R.set g .non)[i]?=some (.dsl e size g):=by rw[bJ (Ne.symm hig)];exact hi
    refine⟨h1,h2,_,ρ,hF.swap0 hi' hρi (λhok=>?_) (λ_=>rfl),λe he=>Zc (h4 e he) (λ_ h=>.inl h) (Pre.refl _)⟩;rcases h3.ok i _ v hi hρi with hd|hk
    .exact .inl hd
    .refine .inr ?_;by_cases hv1:v.oneCell'=true
     .obtain⟨f,xs,cs,hg1,hgo,hform⟩:=P6 h3 hi hg hρi hv1 hs0;rw[hρg]at hg1;cases hg1;rcases hform with⟨k1,k2⟩|⟨b,o,cap,vs,k1,k2,k3,k4,k5,k6⟩
      .exact .inl ⟨k1,k2⟩
      .refine .inr ⟨b,o,cap,vs,k1,.of k2,k3,k4,k5,hgo.1,λi2 row hi2 j2 d hj2=>?_⟩;obtain⟨x,hx,hc⟩:=hgo.2.2.1 i2 row hi2 j2 d hj2;refine⟨x,by rw[bl];exact k6 _ x hx,?_⟩;cases d with
       |v y=>obtain⟨rfl,hy,_⟩:=hc;exact .v _ hy
       |s r=>
        have hno:¬Ia size none (i2*size+j2):=by rintro⟨p,hp,_⟩;cases hp
        obtain⟨e2,s3,_,hsl⟩:=hc.2 hno;have hfr:=Res.ok0.frozen (ρ:=ρ) (show (Res.sl e2 s3 r).ok0 S w ρ x from hsl);refine hfr.mono (λb hb=>?_) (λ_ _=>rfl);rcases hb with hb|hb
        .exact .inl hb
        .exact .inr ⟨_,x,hx,hno,hb⟩
     .exfalso;obtain⟨f,xs,cs,_,hk⟩:=hk;rcases hk with⟨rfl,_⟩|⟨b,o,len,cap,vs,rfl,_⟩ <;> exact hv1 rfl
  .cases h
 .cases h
def vT(t:Nat)(st:St)(R:List Res):Option (St×List Res):=
 match Eu (mkL st) t with
 | some en=>match en.v with
  |.d (.osb i lo m sz)=>match R[i]? with
   |some (.sl e s rows)=>bif Nat.beq sz s then some (Py t (.d (.os R.length)) st,R.set i .non++[.sl e s ((rows.drop lo).take m)]) else none
   |_=>none
  |_=>none
 |none=>none
theorem Sq{t:Nat}{v:AV}:∀{st:St}{e:Ent},e∈mkL (Py t v st)->(e.t=t/\e.p=[]/\e.v=v)\/(e∈mkL st/\e.t≠t)
 | [],e,h=>by cases h
 | (u, x) :: r, e, h => by
  unfold Py at h;cases hb:Nat.beq u t with
  | true=>
   rw[hb]at h;simp only[ez,mkL,ag]at h;rcases h with rfl|h
   .exact .inl ⟨ak hb,rfl,rfl⟩
   .rcases Sq h with h|⟨h,h'⟩
    .exact .inl h
    .exact .inr ⟨al _ h,h'⟩
  | false=>
   rw[hb]at h;simp only[eB,mkL,ag]at h;rcases h with rfl|h
   .refine .inr ⟨ai,λe=>?_⟩;simp only at e;subst e;simp at hb
   .rcases Sq h with h|⟨h,h'⟩
    .exact .inl h
    .exact .inr ⟨al _ h,h'⟩
theorem Sat.trunc(h : vT t st R = some (st', R'))(hs : Sat n C (mkL st) R a w) : Sat n C (mkL st') R' a w := by
 unfold vT at h;split at h
 .rename_i en hen;split at h
  .rename_i i lo m sz hev;split at h
   .rename_i e s rows hi;cases hb:Nat.beq sz s with
    |false=>rw[hb]at h;simp at h
    | true=>
     rw[hb]at h;simp only[ez,ah,au]at h;obtain⟨rfl,rfl⟩:=h;have:=ak hb;subst this;obtain⟨h1,h2,S,ρ,h3,h4⟩:=hs;obtain⟨hmem,ht⟩:=Dh hen;obtain⟨v,hv,hr⟩:=(h4 en hmem).1 (by rw[D9 hmem];exact Cd);rw[hev]at hr;have hr':=hr.d_inv;cases hr' with
     | @osb _ _ _ _ q ad len cap hρ hl hc hq hq2=>
      have hfootsub:∀k,(Res.sl e sz ((rows.drop lo).take m)).foot (.slice (ad.map (·.add q)) m (cap-lo)) k->(Res.sl e sz rows).foot (.slice ad len cap) k:=λk hk=>by
       cases ad with
       |none=>exact hk
       |some ad=>exact(Hw ad q).symm.trans hk
      have hI:=h3.move (w':=w) (r':=.sl e sz ((rows.drop lo).take m)) (v':=.slice (ad.map (·.add q)) m (cap-lo)) hi hρ (λ_ _ _=>rfl) (af _) rfl ⟨rfl,λ_=>by first|exact af _|exact aO _⟩ rfl (λk hk=>.inl (hfootsub k hk)) (by
       refine .inr ?_;rcases(h3.ok i _ _ hi hρ).live rfl with⟨k1,k2⟩|⟨b,o,cp,vs,k1,k2,k3,k4,k5,k6,k7⟩
       .cases k1;subst k2;have:m=0:=by omega
        subst this;have:lo=0:=by omega
        subst this;exact .inl ⟨rfl,by simp⟩
       .cases k1;have hml:((rows.drop lo).take m).length=m:=by rw[aV,cz];omega
        have hfit:o+q+(cap-lo)*sz<=vs.size:=by
         rcases aM lo cap with g|g
         .rw[hq2 g,bl,←aF,Nat.add_sub_cancel' (Nat.le_of_lt g)];exact k5
         .have e0:lo=cap:=Nat.le_antisymm hc g;subst e0;rw[Nat.sub_self,Nat.zero_mul];omega
        refine .inr ⟨b,o+q,cap-lo,vs,by rw[hml];show Value.slice (some (Addr.add ⟨b,o,none⟩ q)) _ _=_;rw[C9],k2,by rw[hml];omega,by omega,hfit,λrow hr=>k6 row (cK (bg hr)),λi2 row hi2 j d hj=>?_⟩;grind)
      have hnew:(ρ++[Value.slice (ad.map (·.add q)) m (cap-lo)])[R.length]?=some (.slice (ad.map (·.add q)) m (cap-lo)):=by rw[←h3.len];simp
      refine⟨h1,h2,S,_,hI,λx hx=>?_⟩;rcases Sq hx with⟨g1,g2,g3⟩|⟨g1,_⟩
      .exact⟨λ_=>⟨_,by rw[g1,←ht];exact hv,by rw[g3];exact .d (.os hnew rfl)⟩,λhn=>absurd (by rw[g2];exact Cd) hn⟩
      .exact Zc (h4 x g1) (λ_ h=>h) (Pre.append _ _)
   .cases h
  .cases h
 .cases h
theorem _root_.Go.SL.CallOk.frz(i:Nat)(h:CallOk P f args R res R2)(hi:R2[i]?=some (.sl e size rows)) :
  CallOk P f args R (res.frz i size rows) ((R2.set i .non).map (Res.frz i size rows)):=by
 intro S w ρ vs hs hv;refine Calls.mono (h S w ρ vs hs hv) λe w' hp=>?_;obtain⟨v,S',ρ',rfl,hr,hI⟩:=hp;obtain⟨S2,_,hI2,ha⟩:=hI.frz hi;grind
def D.own:D->Bool
 |.p (.v _)=>true
 |.os _=>true
 |.o _ _=>true
 |_=>false
mutual
def AV.own:AV->Bool
 |.d x=>x.own
 |.agg ds=>ds.all D.own
 |.tup l=>dF l
def dF:List AV->Bool
 | []=>true
 |a::r=>a.own&&dF r
end
def X9:Res->Prop
 |.sl _ _ rows=>∀row,row∈rows->∀d,d∈row->∃v,d=.v v
 |.box _ cells=>cells.all D.own=true
 |.non=>True
 |_=>False
def R8:List Res->Prop
 | []=>True
 |r::l=>X9 r/\R8 l
def dL:Pd->Bool
 |.v _=>true
 |_=>false
theorem A3{enc:α->List Pd}(h:∀x,(enc x).all dL=true){z:Nat}{l:List α}:X9 (.sl e z (l.map enc)):=by
 intro row hr d hd;obtain⟨x,_,rfl⟩:=an.1 hr;have:=(aG.1 (h x)) d hd;cases d with
 |v y=>exact⟨y,rfl⟩
 |s r=>cases this
theorem R8.get:∀{l:List Res}{j:Nat}{r:Res},R8 l->l[j]?=some r->X9 r
 | [],j,r,_,h=>by simp at h
 |a::l,0,r,hf,h=>by simp at h;subst h;exact hf.1
 |a::l,j+1,r,hf,h=>by simp at h;exact R8.get hf.2 h
theorem Rd.own_mv{d d':D}(h:Rd S w ρ x d)(ho:d.own=true)(he:d.ren (λj=>some (k+j))=some d')(hρ:∀(j:Nat) v,ρ[j]?=some v->ρ2[k+j]?=some v):Rd S' w' ρ2 x d':=by
 cases d with
 | p y=>
  cases y with
  |v z=>simp[D.ren]at he;subst he;have hp:=h.p_inv;cases hp with|v _ h1=>exact .p (.v _ h1)
  |s r=>cases ho
 |os i=>simp[D.ren]at he;subst he;exact .os (hρ _ _ h.os_inv) h.one
 |o i off=>simp[D.ren]at he;subst he;obtain⟨b,rfl,h2⟩:=h.o_inv;exact .o (hρ _ _ h2)
 |_=>cases ho
theorem RdA.own_mv(hρ:∀(j:Nat) v,ρ[j]?=some v->ρ2[k+j]?=some v)(h:RdA S w ρ x d):d.own=true->∀d',d.ren (λj=>some (k+j))=some d'->RdA S' w' ρ2 x d':=by
 induction h with
 | d h=>
  intro ho d' he;simp only[AV.ren]at he;split at he
  .rename_i y hy;simp at he;subst he;exact .d (h.own_mv ho hy hρ)
  .cases he
 | agg h=>
  intro ho d' he;simp only[AV.ren]at he;split at he
  .rename_i es hes;simp at he;subst he;obtain⟨g1,g2⟩:=L3 hes;refine .agg (de (by rw[h.length,g1]) λj x d hx hd=>?_);obtain⟨d0,k1,k2⟩:=g2 j d hd;exact(h.both hx k1).own_mv ((aG.1 ho) _ (ae k1)) k2 hρ
  .cases he
 | tup hl h ih=>
  intro ho d' he;simp only[AV.ren]at he;split at he
  .rename_i m hm;simp at he;subst he;obtain⟨g1,g2⟩:=Of hm;refine .tup (by rw[hl,g1]) λj x a hx ha=>?_;obtain⟨a0,k1,k2⟩:=g2 j a ha;have hoj:∀{l:List AV},dF l=true->∀{j:Nat}{a:AV},l[j]?=some a->a.own=true:=by
    intro l;induction l with
    |nil=>intro _ j a h;simp at h
    |cons b l ih=>intro ho j a h;simp only[dF,ac]at ho;grind
   exact ih j x a0 hx k1 (hoj ho k1) a k2
  .cases he
def _root_.Go.SL.frzAll:eR->AV->List Res->Option (AV×List Res)
 | [],res,R2=>some (res,R2)
 |i::is,res,R2=>match R2[i]? with
  |some (.sl _ size rows)=>Go.SL.frzAll is (res.frz i size rows) ((R2.set i .non).map (Res.frz i size rows))
  |_=>none
theorem _root_.Go.SL.CallOk.frzAll:∀(is:eR){res res':AV}{R2 R2':List Res}(_:CallOk P f args R res R2)(_:Go.SL.frzAll is res R2=some (res',R2')),CallOk P f args R res' R2'
 | [],_,_,_,_,h,hq=>by simp only[Go.SL.frzAll,ah,au]at hq;obtain⟨rfl,rfl⟩:=hq;exact h
 | i::is,_,_,_,_,h,hq=>by
  simp only[Go.SL.frzAll]at hq;split at hq
  .rename_i e size rows hi;exact CallOk.frzAll is (h.frz i hi) hq
  .cases hq
theorem _root_.Go.SL.CallOk.lend{res':AV}(h:CallOk P f args' [] res R2)(hv:AV.viewL R [] args=some args':=by kernel_rfl)(ho:(oisL args).isEmpty=true:=by kernel_rfl)(hres:res.own=true:=by kernel_rfl)(hR:R8 R2:=by repeat first|exact trivial|refine ⟨A3 (λ_=>rfl),?_⟩)
  (e1:res.ren (λj=>some (R.length+j))=some res':=by kernel_rfl)(e2:Jb (λj=>some (R.length+j)) R2=some R2':=by kernel_rfl):CallOk P f args R res' (R++R2'):=by
 intro S w ρ vs hs hvs;have hI:=hs.inv;have hno:∀b,¬Em [] [] b:=by rintro b ⟨i,r,h,h1,_⟩;simp at h1
 have hst:Start (Lh S ρ R) w [] []:=⟨rfl,by simp,by simp,by simp,λb hb=>by
  rcases hb with hb|⟨i,r,h,h1,h2,h3⟩
  .exact(hI.sup b hb).1
  .exact(hI.own i r h b h1 h2 h3).2.1,hI.glOk.mono (λ_ h=>.inl h) λ_ _=>rfl⟩
 have hargs:=Ue hI hvs (λg k s tys rows hm=>by rw[cH.1 ho]at hm;cases hm) hv;refine(h _ w [] vs hst hargs).mono λe w' hp=>?_;obtain⟨v,S1,ρ1,rfl,hr,hq⟩:=hp;have hsame:∀b,b<w.heap.size->w'.heap[b]?=w.heap[b]?:=λb hb=>hq.frm b hb (hno b);have hL:ρ.length=R.length:=hs.len;have hρ1:∀(j:Nat) u,ρ1[j]?=some u->(ρ++ρ1)[R.length+j]?=some u:=λj u hj=>by rw[aT (by omega),hL,show R.length+j-R.length=j from by omega];exact hj
 obtain⟨m1,m2⟩:=Jf e2;have foot_ren:∀{r r':Res}{u:Value}{b:Nat},X9 r->r.ren (λj=>some (R.length+j))=some r'->(r'.foot u b↔r.foot u b):=by
  intro r r' u b hf he;cases r with
  |box t cells=>
   simp only[Res.ren]at he;split at he
   .simp at he;subst he;rfl
   .cases he
  |sl e s rows=>simp[Res.ren]at he;subst he;rfl
  |non=>simp[Res.ren]at he;subst he;rfl
  |_=>exact hf.elim
 have key:∀(i:Nat) r u,(R++R2')[i]?=some r->(ρ++ρ1)[i]?=some u->(R[i]?=some r/\ρ[i]?=some u/\i<R.length)\/∃j r0,i=R.length+j/\R2[j]?=some r0/\r0.ren (λj=>some (R.length+j))=some r/\ρ1[j]?=some u:=by
  intro i r u h1 h2;rcases aM i R.length with hi|hi
  .rw[aD hi]at h1;rw[aD (by omega)]at h2;exact .inl ⟨h1,h2,hi⟩
  .rw[aT hi]at h1;rw[aT (by omega),hL]at h2;obtain⟨r0,g1,g2⟩:=m2 _ r h1;exact .inr ⟨i-R.length,r0,by omega,g1,g2,h2⟩
 have hsub:∀b,Lh S ρ R b->S1 b:=hq.sub;refine⟨v,S,ρ++ρ1,rfl,hr.own_mv hρ1 hres res' e1,⟨?_,?_,?_,?_,λ_ h=>h,?_,?_,hq.size,hq.os,hq.tape,hq.output,Pre.append _ _,hI.gl⟩⟩
 .rw[aE,aE,hL,m1,←hq.len]
 .intro i r u h1 h2;rcases key i r u h1 h2 with⟨g1,g2,_⟩|⟨j,r0,rfl,g1,g2,g3⟩
  .exact(hI.ok i r u g1 g2).mono (λ_ h=>h) (λb hb=>hsame b (hI.sup b hb).1) (Pre.append _ _) (λb hb=>hsame b (hI.own i r u b g1 g2 hb).2.1)
  .have hf:=hR.get g1;rcases hq.ok j r0 u g1 g3 with hd|hk
   .exact .inl hd
   .refine .inr ?_;cases r0 with
    | box t cells=>
     simp only[Res.ren]at g2;split at g2
     .rename_i cs hcs;simp at g2;subst g2;obtain⟨b,vs2,rfl,hb,hc⟩:=hk;obtain⟨q1,q2⟩:=L3 hcs;refine⟨b,vs2,rfl,hb,de (by rw[hc.length,q1]) λi x d hx hd=>?_⟩;obtain⟨d0,p1,p2⟩:=q2 i d hd;exact(hc.both hx p1).own_mv ((aG.1 hf) _ (ae p1)) p2 hρ1
     .cases g2
    | sl e s rows=>
     simp[Res.ren]at g2;subst g2;rcases hk with h0|⟨b,o,cap,vs2,rfl,hb,k1,k2,k3,k4,k5⟩
     .exact .inl h0
     .refine .inr ⟨b,o,cap,vs2,rfl,hb,k1,k2,k3,k4,λi row hi j d hj=>?_⟩;obtain⟨x,hx,hr⟩:=k5 i row hi j d hj;obtain⟨y,rfl⟩:=hf row (ae hi) d (ae hj);cases hr with|v _ h1=>exact⟨_,hx,.v _ h1⟩
    |non=>simp[Res.ren]at g2;subst g2;trivial
    |_=>exact hf.elim
 .intro i j r r' u u' b hij h1 h2 h3 h4 h5 h6;rcases key i r u h1 h3 with⟨g1,g2,g3⟩|⟨i0,r0,rfl,g1,g2,g3⟩ <;> rcases key j r' u' h2 h4 with⟨k1,k2,k3⟩|⟨j0,q0,rfl,k1,k2,k3⟩
  .exact hI.dis i j r r' u u' b hij g1 k1 g2 k2 h5 h6
  .rw[foot_ren (hR.get k1) k2]at h6;exact(hq.own j0 q0 u' b k1 k3 h6).1 (hsub b (.inr ⟨i,r,u,g1,g2,h5⟩))
  .rw[foot_ren (hR.get g1) g2]at h5;exact(hq.own i0 r0 u b g1 g3 h5).1 (hsub b (.inr ⟨j,r',u',k1,k2,h6⟩))
  .rw[foot_ren (hR.get g1) g2]at h5;rw[foot_ren (hR.get k1) k2]at h6;exact hq.dis i0 j0 r0 q0 u u' b (λe=>hij (by rw[e])) g1 k1 g3 k3 h5 h6
 .intro i r u b h1 h2 h3;rcases key i r u h1 h2 with⟨g1,g2,g3⟩|⟨i0,r0,rfl,g1,g2,g3⟩
  .obtain⟨o1,o2,o3⟩:=hI.own i r u b g1 g2 h3;exact⟨o1,aJ o2 hq.size,o3⟩
  .rw[foot_ren (hR.get g1) g2]at h3;obtain⟨o1,o2,o3⟩:=hq.own i0 r0 u b g1 g3 h3;refine⟨λhb=>o1 (hsub b (.inl hb)),o2,?_⟩;rcases o3 with o3|o3
   .exact absurd o3 (hno b)
   .exact .inr o3
 .intro b hb;exact⟨aJ (hI.sup b hb).1 hq.size,.inl hb⟩
 .intro b hb _;exact hsame b hb
end
end Go.SL
