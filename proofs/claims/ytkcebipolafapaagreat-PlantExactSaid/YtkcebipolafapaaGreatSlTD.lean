import Derived.Test.YtkcebipolafapaaGreatSlM
import Derived.RangeFuncNested
import Derived.RangeFuncLeaves
import Derived.KernelRfl
namespace Go.SL
variable{K K':Act->World->Prop}{ops:Array Oper}{c r:Bool}{p:Ce}{x:Cl}{cs:List (Bool×Bool)}{d i n t:Nat}{o:Oper}{v:Value}
section
variable{P:Program}{C:Ctx}{S S':Nat->Prop}{w w':World}{ρ ρ':fh}{R:List Res}{L:List Ent}{cur:Ce}{a:Act}
theorem B9:pt a []:=λg hg=>by cases hg
theorem Rm(hL:B0 S w ρ a L){e:Ent}(he:E0 L t=some e)(hb:Lk e.v=some c) :
  (pt a e.p->a.tmps[t]?=some (.bool c))/\(¬pt a e.p->a.tmps[t]?=some undef):=by
 obtain⟨hm,ht⟩:=C4 he;obtain⟨h1,h2⟩:=hL e hm;rw[ht]at h1 h2;refine⟨λhp=>?_,h2⟩;obtain⟨v,hv,hr⟩:=h1 hp;unfold Lk at hb;split at hb
 .rename_i b heq;simp at hb;subst hb;rw[heq]at hr;rw[hv,hr.exact_inv]
 .cases hb
theorem Ab2(hL:B0 S w ρ a L)(h:Lx ops L o=some cur):(Region.wanted o (yielded ops a.tmps)=true↔pt a cur)/\(cur.isEmpty=true->Region.wanted o (yielded ops a.tmps)=true):=by
 unfold Lx at h;split at h
 .rename_i hg;simp at h;subst h;simp[Region.wanted,hg,B9]
 .rename_i j want hg;split at h
  .cases h
  .rename_i t ht;split at h
   .rename_i e he;split at h
    .rename_i c hb;simp at h;subst h;obtain⟨h1,h2⟩:=Rm hL he hb;refine⟨?_,by simp⟩;have hy:yielded ops a.tmps j=match a.tmps[t]? with|some (.bool b)=>some b|_=>none:=by
      unfold yielded;rw[ht];rfl
     unfold Region.wanted;rw[hg];simp only[dH];constructor
     .intro hw;rw[hy]at hw;by_cases hp:pt a e.p
      .rw[h1 hp]at hw;simp at hw;subst hw;intro g hg';rcases ao.1 hg' with h|h
       .exact hp g h
       .simp at h;subst h;exact h1 hp
      .rw[h2 hp]at hw;simp[undef]at hw
     .intro hp;have:=hp (t,want) (by simp);rw[hy,this]
    .cases h
   .cases h
theorem Xx(hL:B0 S w ρ a L):∀{p:Ce}{cs:List (Bool×Bool)},Gq L p=some cs->pt a p->Ck cs
 | [],cs,h,_=>by simp[Gq]at h;subst h;trivial
 | (t, want) :: p, cs, h, hp => by
  simp only[Gq]at h;split at h
  .rename_i e he;split at h
   .rename_i c l hb hl;simp at h;subst h;obtain⟨h1,h2⟩:=Rm hL he hb;have ht:=hp (t,want) ai;simp only at ht;refine⟨?_,Xx hL hl λg hg=>hp g (ak _ hg)⟩;by_cases hpe:pt a e.p
    .rw[h1 hpe]at ht;simp at ht;exact ht
    .rw[h2 hpe]at ht;simp[undef]at ht
   .cases h
  .cases h
theorem Kr(h:d≠t):(a.put (some d) v).tmps[t]?=a.tmps[t]?:=by simp[Act.put,Array.getElem?_setIfInBounds_ne h]
theorem Nc(h:d<a.tmps.size):(a.put (some d) v).tmps[d]?=some v:=by simp[Act.put,h]
theorem Lt(h:p.all (λg=>!(Nat.beq g.1 d))=true):pt (a.put (some d) v) p↔pt a p:=by
 have hne:∀g,g∈p->d≠g.1:=by intro g hg e;have:=(a9.1 h) g hg;subst e;simp at this
 constructor
 .intro hp g hg;rw[←hp g hg,Kr (hne g hg)]
 .intro hp g hg;rw[Kr (hne g hg)];exact hp g hg
theorem yA(hL:B0 S w ρ a L)(hS:∀b,S b->S' b)(hw:∀b,S b->w'.heap[b]?=w.heap[b]?)(hρ:Pre ρ ρ'){av:AV}(hd:d<a.tmps.size)
  (hp:p.all (λg=>!(Nat.beq g.1 d))=true)(h1:pt a p->RdA S' w' ρ' v av)(h2:¬pt a p->v=undef):B0 S' w' ρ' (a.put (some d) v) (S4 L d p av):=by
 intro e he;unfold S4 at he;rcases ah.1 he with rfl|he
 .refine⟨λhpt=>⟨v,Nc hd,h1 ((Lt hp).1 hpt)⟩,λhpt=>?_⟩;have:=h2 (λh=>hpt ((Lt hp).2 h));subst this;exact Nc hd
 .rw[ar]at he;obtain⟨hm,hf⟩:=he;simp only[ac]at hf;obtain⟨f1,f2⟩:=hf;have hne:d≠e.t:=by
   intro e';subst e';simp at f1
  obtain⟨g1,g2⟩:=hL e hm;refine⟨λhpt=>?_,λhpt=>?_⟩
  .obtain⟨x,hx,hr⟩:=g1 ((Lt f2).1 hpt);exact⟨x,by rw[Kr hne];exact hx,hr.mono hS hw hρ⟩
  .rw[Kr hne];exact g2 λh=>hpt ((Lt f2).2 h)
def K9(P:Program)(ops:Array Oper)(i:Nat)(K:Act->World->Prop)(a:Act)(w:World):Prop:=
 match ops[i]? with
 |none=>K a w
 |some o=>if Region.wanted o (yielded ops a.tmps)then Ajg o/\wpv P o a w K else K (a.put o.dst undef) w
def Sk(P:Program)(ops:Array Oper)(K:Act->World->Prop):fc->Act->World->Prop
 | [],a,w=>K a w
 |i::rest,a,w=>K9 P ops i (Sk P ops K rest) a w
theorem Aqe(hk:∀a w,K a w->K' a w)(h:wpv P o a w K):wpv P o a w K':=by
 unfold wpv at *;generalize (execOp a.eval o).run P w=r at *
 match r,h with
 |.ok (.value v) w',h=>exact hk _ _ h
 |.ok .skip w',h=>exact hk _ _ h
 |.ok (.enter f args) w',h=>exact Calls.mono h λe w'' hp=>by obtain⟨v,e,hp⟩:=hp;exact⟨v,e,hk _ _ hp⟩
theorem Aa7{ro:Option Nat}{Q:Exit->Act->World->Prop}(hk:∀a w,K a w->K' a w)(h:K9 P ops i K a w):wpOpIn (FR ro) 0 P ops Q i K' a w:=by
 unfold K9 at h;unfold wpOpIn;split at h
 .rename_i ho;rw[ho];exact hk _ _ h
 .rename_i o ho;rw[ho];simp only;split at h
  .rename_i hw;rw[eT hw];exact Awn h.1 (Aqe hk h.2)
  .rename_i hw;rw[eU hw];exact⟨λ_ _=>trivial,hk _ _ h⟩
theorem Sj{ro:Option Nat}{ops:Array Oper}{Q:Exit->Act->World->Prop}:∀{is:fc}{a:Act}{w:World},Sk P ops (λa w=>Q .normal a w) is a w->wpOpsIn (FR ro) 0 P ops Q is a w
 | [],a,w,h=>h
 |i::is,a,w,h=>by rw[wpOpsIn_cons];exact Aa7 (λ_ _ h=>Sj h) h
theorem Atn(hL:B0 S w ρ a L):∀{p acc:Ce}{cs:List (Bool×Bool)},Sl L acc p=true->Gq L p=some cs->pt a acc->Ck cs->pt a p
 | [],_,_,_,_,_,_=>B9
 | (t, want) :: p, acc, cs, hwf, hc, hacc, hall => by
  simp only[Sl]at hwf;simp only[Gq]at hc;split at hwf
  .rename_i e he;rw[he]at hc;simp only[ac]at hwf;simp only at hc;split at hc
   .rename_i c l hb hl;simp at hc;subst hc;obtain⟨h1,h2⟩:=Rm hL he hb;have ht:=h1 (Q1 hwf.1 hacc);have hcw:c=want:=hall.1;subst hcw;have hacc':pt a (acc++[(t,c)]):=by
     intro g hg;rcases ao.1 hg with hg|hg
     .exact hacc g hg
     .simp at hg;subst hg;exact ht
    have:=Atn hL hwf.2 hl hacc' hall.2;intro g hg;rcases ah.1 hg with rfl|hg
    .exact ht
    .exact this g hg
   .cases hc
  .cases hwf
theorem Vm(hL:B0 S w ρ a L)(hcs:Gq L cur=some cs)(h:(Ju cur r cs x).ok P):(pt a cur->x.ok P):=by
 intro hp;unfold Ju at h;cases hc:cur.isEmpty with
 |true=>rw[hc]at h;exact h
 |false=>
  rw[hc]at h;cases r with
  |true=>exact h.1 (Xx hL hcs hp)
  |false=>exact h (Xx hL hcs hp)
theorem vU(hL:B0 S w ρ a L)(hcs:Gq L cur=some cs)(hr:r=true)(hc:cur.isEmpty=false)(hwf:Sl L [] cur=true)(h:(Ju cur r cs x).ok P)(hn:¬pt a cur):x.keeps:=by unfold Ju at h;subst hr;rw[hc]at h;exact h.2 λhall=>hn (Atn hL hwf hcs B9 hall)
theorem yP{c:Cl}{L':List Ent}{R':List Res}{k:Option Cl}(ho:ops[i]?=some o)(h:Acg P n ops L R c o=some (L',R',k))
  (hk:∀x,k=some x->x.ok P)(hs:Sat n C L R a w)(hK:∀a' w',Sat n C L' R' a' w'->K a' w'):K9 P ops i K a w:=by
 obtain⟨hdef,hsize,S,ρ,hI,hL⟩:=hs;unfold Acg at h;split at h
 .cases h
 .rename_i cur hcur;obtain⟨hw1,hw2⟩:=Ab2 hL hcur;simp only at h;split at h
  .rename_i out cs e1 e2;cases hg:Nq L cur (isR c) (Gp c) o with
   |false=>rw[hg]at h;simp at h
   | true=>
    rw[hg]at h;simp only[eO]at h;have hall:k=out.c.map (Ju cur (isR c) cs)/\R'=out.R/\(∀d,o.dst=some d->d<n/\cur.all (λg=>!(Nat.beq g.1 d))=true/\L'=S4 L d cur out.v)/\(o.dst=none->cur.isEmpty=true/\L'=L):=by
     split at h
     .rename_i d hd;cases hb:(Nat.blt d n&&cur.all (λg=>!(Nat.beq g.1 d))) with
      |false=>rw[hb]at h;simp at h
      |true=>rw[hb]at h;simp only[eO,al,aI]at h;obtain⟨h1,h2,h3⟩:=h;simp only[ac]at hb;refine⟨h3.symm,h2.symm,λd' hd'=>?_,λhn=>by rw[hd]at hn;cases hn⟩;rw[hd]at hd';cases hd';exact⟨by have:=hb.1;simpa[e_]using this,hb.2,h1.symm⟩
     .rename_i hd;cases hc:cur.isEmpty with
      |false=>rw[hc]at h;simp at h
      |true=>rw[hc]at h;simp only[eO,al,aI]at h;obtain⟨h1,h2,h3⟩:=h;exact⟨h3.symm,h2.symm,λd hd'=>by rw[hd]at hd';(cases hd'),λ_=>⟨rfl,h1.symm⟩⟩
    obtain⟨hk',rfl,hd1,hd2⟩:=hall;have hk2:∀x,out.c=some x->(Ju cur (isR c) cs x).ok P:=λx hx=>hk _ (by rw[hk',hx];rfl);unfold K9;simp only[ho];by_cases hpt:pt a cur
    .rw[eT (hw1.2 hpt)];refine⟨Y8 e1,Ahs hI hL hpt e1 (λx hx=>Vm hL e2 (hk2 x hx) hpt) λv w' S' ρ' hA=>?_⟩;cases hd:o.dst with
     |some d=>obtain⟨g1,g2,rfl⟩:=hd1 d hd;exact hK _ _ ⟨hdef,by simp[Act.put,hsize],S',ρ',hA.inv,yA hL hA.sub hA.same hA.pre (by rw[hsize];exact g1) g2 (λ_=>hA.rd) (λh=>absurd hpt h)⟩
     |none=>obtain⟨g1,rfl⟩:=hd2 hd;refine hK _ _ ⟨hdef,hsize,S',ρ',hA.inv,λe he=>?_⟩;obtain⟨g1,g2⟩:=hL e he;refine⟨λhp=>?_,g2⟩;obtain⟨x,hx,hr⟩:=g1 hp;exact⟨x,hx,hr.mono hA.sub hA.same hA.pre⟩
    .have hne:cur.isEmpty=false:=by
      cases hc:cur.isEmpty with
      |false=>rfl
      |true=>simp at hc;subst hc;exact absurd B9 hpt
     have hnw:¬(Region.wanted o (yielded ops a.tmps)=true):=λh=>hpt (hw1.1 h);rw[eU hnw];unfold Nq at hg;rw[hne]at hg;simp only[aO,ac,aE,aS]at hg;obtain⟨ρ',hI',hpre⟩:=hI.skip (yQ e1 hg.1 λhr x hx=>vU hL e2 hr hne (hg.2.resolve_left (by rw[hr];simp)) (hk2 x hx) hpt);cases hd:o.dst with
     |some d=>obtain⟨g1,g2,rfl⟩:=hd1 d hd;exact hK _ _ ⟨hdef,by simp[Act.put,hsize],S,ρ',hI',yA hL (λ_ h=>h) (λ_ _=>rfl) hpre (by rw[hsize];exact g1) g2 (λh=>absurd h hpt) (λ_=>rfl)⟩
     |none=>have:=(hd2 hd).1;rw[hne]at this;cases this
  .cases h
theorem Xr{n:Nat}{ops:Array Oper}{K:Act->World->Prop}:∀{is:fc}{L:List Ent}{R:List Res}{cls:List Cl}{L':List Ent}{R':List Res}{cs:List Cl}{a:Act}{w:World},
  Vx P n ops is L R cls=some (L',R',cs)->Cg P cs->Sat n C L R a w->(∀a' w',Sat n C L' R' a' w'->K a' w')->Sk P ops K is a w
 | [],L,R,cls,L',R',cs,a,w,h,_,hs,hK=>by simp[Vx]at h;obtain⟨rfl,rfl,rfl⟩:=h;exact hK a w hs
 | i :: is, L, R, cls, L', R', cs, a, w, h, hok, hs, hK => by
  simp only[Vx]at h;split at h
  .cases h
  .rename_i o ho;show K9 P ops i (Sk P ops K is) a w;split at h
   .cases h
   .rename_i L1 R1 c1 e1;split at h
    .rename_i L2 R2 cs2 e2;simp at h;obtain⟨rfl,rfl,rfl⟩:=h;exact yP ho e1 (λx hx=>by cases hx;exact hok.1) hs λa' w' hs'=>Xr e2 hok.2 hs' hK
    .cases h
   .rename_i L1 R1 e1;exact yP ho e1 (λx hx=>by cases hx) hs λa' w' hs'=>Xr h hok hs' hK
end
end Go.SL
namespace Go.SL
structure Rec where
 i:Nat
 o:Oper
 need:List Ent
 cur:Ce
 cs:List (Bool×Bool)
 c:Cl
 Rin:List Res
 out:Out
 eff:Bool
 r:Bool
 fl:Option Nat
def Vn(ops:Array Oper)(o:Oper):fc:=
  (o.op.operands.toList.filterMap fun|.tmp t=>some t|_=>none) ++
  (match o.guard with
   |none=>[]
   | some (j,_)=>match (ops[j]?).bind (·.dst) with
     |some t=>[t]
     |none=>[])
def J7(L:List Ent):fc->List Ent
 | []=>[]
 |t::r=>match E0 L t with
  |some e=>e::(e.p.filterMap λg=>E0 L g.1)++J7 L r
  |none=>J7 L r
def yY:Cl->Bool
 |.call _ _ _ res _ _=>(res.ren λ_=>none).isSome
 |_=>false
def Ajn:Cl->Bool
 |.callB ..=>true
 |_=>false
def Gb(c:Cl)(o:Oper):Bool:=
 match o.op with
 |.box .. | .alloc _|.store .. | .makeSlice ..=>false
 |.buildSlice ..=>!Lf c
 |.convert ..=>!isZ c
 |.call k=>match k.callee with
  |.builtin .append|.builtin .clear|.builtin .copy=>false
  |.builtin _=>true
  |_=>Ajn c || (Aje c&&yY c)
 |_=>true
def Aj5(n:Nat)(o:Oper)(cur:Ce):Bool:=
 match o.dst with
 |some d=>Nat.blt d n&&cur.all (λg=>!(Nat.beq g.1 d))
 |none=>cur.isEmpty
def Y_(P : Program)(L : List Ent)(cur : Ce)(R : List Res)(c : Cl)(i : Nat)(o : Oper) : Option Out :=
 match o.op with
 | .makeSlice t l k=>match c,R[i]? with
  | .fltm _ c0 _ _,some r'=>match Kn l k,L3 P [] c0 t ((Bb L cur l).bind Ca) with
   |true,some out=>match out.R,out.c with
    | [r1],some c1=>some ⟨.d (.os i),R,some (.fltm i c1 r1 r')⟩
    |_,_=>none
   |_,_=>none
  |_,_=>none
 |.alloc t=>match (Ee P t).bind λz=>Fj z.cells.toList,R[i]? with
  |some cells,some r'=>some ⟨.d (.o i 0),R,some (.flt i (.box t cells) r')⟩
  |_,_=>none
 |_=>none
def Ri(o:Oper)(c:Cl):Option Nat:=
 match o.op with
 |.alloc _=>match c with
  |.flt i _ _=>some i
  |_=>none
 |.makeSlice ..=>match c with
  |.fltm i _ _ _=>some i
  |_=>none
 |_=>none
def Aj4(P:Program)(L:List Ent)(cur:Ce)(R:List Res)(c:Cl)(o:Oper):Option Out:=
 match Ri o c with
 |some i=>Y_ P L cur R c i o
 |none=>Ix P L cur R c o
def Sz(P : Program)(n : Nat)(ops : Array Oper) : fc -> List Ent -> List Res -> List Cl -> Option (List Rec × List Ent × List Res × List Cl)
 | [],L,R,_=>some ([],L,R,[])
 | i :: is, L, R, cls => match ops[i]? with
  |none=>none
  | some o=>
   let need:=J7 L (Vn ops o)
   match Lx ops need o with
   |none=>none
   | some cur=>
    let c:=cls.headD .nop
    match Aj4 P need cur R (Gp c) o,Gq need cur with
    | some out,some cs=>
     let L':=match o.dst with|some d=>S4 L d cur out.v|none=>L
     bif Aj5 n o cur&&Nq need cur (isR c) (Gp c) o then
      match out.c with
      |some x=>match Sz P n ops is L' out.R cls.tail with
       |some (rs,L2,R2,ks)=>some (⟨i,o,need,cur,cs,Gp c,R,out,(Ri o (Gp c)).isNone && !Gb (Gp c) o,isR c,Ri o (Gp c)⟩::rs,L2,R2,Ju cur (isR c) cs x::ks)
       |none=>none
      |none=>match Sz P n ops is L' out.R cls with
       |some (rs,L2,R2,ks)=>some (⟨i,o,need,cur,cs,Gp c,R,out,(Ri o (Gp c)).isNone && !Gb (Gp c) o,isR c,Ri o (Gp c)⟩::rs,L2,R2,ks)
       |none=>none
     else none
    |_,_=>none
def Me:fc->Nat->Bool
 | [],_=>false
 |a::r,t=>Nat.beq a t || Me r t
def orE(l:fc):List Edge->Nat->Nat
 | [],m=>m
 |e::r,m=>orE l r (bif Region.binds .any e&&Nat.blt e.on l.length then Nat.lor m (Nat.lor (Nat.shiftLeft 1 e.on) ((l[e.on]?).getD 0)) else m)
def O8(ops:Array Oper):Nat->fc
 |0=>[]
 | j+1=>
  let l:=O8 ops j
  l++[match ops[j]? with
   |some o=>orE l o.after.toList 0
   |none=>0]
def Abt(m i:Nat):Bool:=Nat.beq (Nat.land (Nat.shiftRight m i) 1) 1
def B2:List Ent->fc
 | []=>[]
 |e::r=>match e.v with
  |.d (.o i _)=>i::B2 r
  |.d (.os i)=>i::B2 r
  |.d (.oe i _ _ _)=>i::B2 r
  |.d (.osb i _ _ _)=>i::B2 r
  |.d (.oi i g _ _ _)=>i::g::B2 r
  |_=>B2 r
def Pw(R:List Res):fc->fc
 | []=>[]
 |i::r=>match R[i]? with
  |some (.dsl _ _ g)=>g::Pw R r
  |_=>Pw R r
def deepen(R:List Res)(l:fc):fc:=l++Pw R l
def Kl(o:Op)(L:List Ent):fc:=
 match o with
 |.move _|.assign _|.nilCheck _|.fieldAddr .. | .extract .. | .pick .. | .build .. | .unOp ..=>[]
 |_=>B2 L
def qJ:List D->fc
 | []=>[]
 |.os j::r=>j::qJ r
 |_::r=>qJ r
mutual
def D.touchV(R:List Res):D->fc
 |.os i=>[i]
 |.osb i _ _ _=>[i]
 |.oi _ g _ _ _=>[g]
 |.o i _=>i::(match R[i]? with
  |some (.box _ cells)=>qJ cells
  |_=>[])
 |.fn _ a b=>dg R a++dg R b
 |_=>[]
def dg(R:List Res):List D->fc
 | []=>[]
 |d::r=>D.touchV R d++dg R r
end
def AV.touchV(R:List Res):AV->fc
 |.d x=>x.touchV R
 |.agg ds=>dg R ds
 |.tup _=>[]
def touchV(R:List Res):List Ent->fc
 | []=>[]
 |e::r=>e.v.touchV R++touchV R r
def Aro(c:Cl)(R:List Res)(L:List Ent):fc:=bif Ajn c then touchV R L else []
def M8(r:Rec):fc:=
 match r.fl with
 |some i=>[i]
 |none=>deepen r.Rin (Kl r.o.op r.need)++Aro r.c r.Rin r.need
def Adr(L:List Ent)(cur:Ce):List Operand->fc
 |x::_=>match Bb L cur x with
  |some (.d (.os j))=>[j]
  |some (.d (.osb j _ _ _))=>[j]
  |_=>B2 L
 | []=>B2 L
def Dl(r:Rec):fc:=
 match r.o.op with
 |.store _ a _=>match Bb r.need r.cur a with
  |some (.d (.o i _))=>[i]
  |some (.d (.oe i _ _ _))=>i::(deepen r.Rin (B2 r.need)++touchV r.Rin r.need)
  |_=>[]
 | .call k=>match k.callee with
  |.value _=>match r.c with
   |.call _ _ _ _ _ pi=>pi
   |_=>[]
  |.builtin .append=>Adr r.need r.cur k.args.toList
  |.builtin .clear|.builtin .copy=>B2 r.need
  |_=>[]
 |_=>[]
def clear(need:List Ent)(d:Nat):Bool:=need.all λe=>!(Nat.beq e.t d)&&e.p.all λg=>!(Nat.beq g.1 d)
def Po(r q:Rec):Bool:=
 (!r.eff || !q.eff) &&
 (match r.o.dst with|some d=>clear q.need d && !(q.cur.any λg=>Nat.beq g.1 d)&&(match q.o.dst with|some d'=>!(Nat.beq d d')|none=>true)|none=>true) &&
 (match q.o.dst with|some d=>clear r.need d|none=>true) &&
 (!r.eff || (M8 q).all λi=>!(Me (Dl r) i)&&Nat.blt i r.Rin.length) &&
 (!q.eff || (M8 r).all λi=>!(Me (Dl q) i)&&Nat.blt i q.Rin.length)
def I7:List Rec->fc
 | []=>[]
 |r::rs=>match r.fl with
  |some i=>i::I7 rs
  |none=>I7 rs
def Tr(lo hi:Nat)(rs:List Rec):Bool:=Fe (I7 rs)&&(I7 rs).all λi=>Nat.ble lo i&&Nat.blt i hi
def Ru(ops:Array Oper)(L0:List Ent)(rs:List Rec):Bool:=
 let cl:=O8 ops ops.size
 L0.all (λe=>e.p.isEmpty) &&
 (rs.all λr=>r.o.after.all λe=>!(Region.binds .any e) || Nat.blt e.on r.i) &&
 rs.all λr=>rs.all λq=>Nat.ble q.i r.i || (Abt ((cl[q.i]?).getD 0) r.i || Po r q)
end Go.SL
namespace Go.SL
variable{res y:AV}{c:Cl}{f:FuncId}{args q vs:List AV}{ds:List D}{l:List Operand}{rw:List Pd}{ts:List TypeId}{g i i' j k n off s size:Nat}{o:Oper}{x:Operand}{out:Out}{v:Value}
section
variable{P:Program}{C:Ctx}{S S':Nat->Prop}{w w':World}{ρ ρ':fh}{R R':List Res}{L:List Ent}{cur:Ce}{a:Act}
theorem vX:∀{L:List Ent}{e:Ent}{i off:Nat},e∈L->e.v=.d (.o i off)->i∈B2 L
 | x::r,e,i,off,h,hv=>by
  rcases ah.1 h with rfl|h
  .simp[B2,hv]
  .have:=vX h hv;unfold B2;split <;> simp[this]
 | [],_,_,_,h,_=>by cases h
theorem Wp:∀{L:List Ent}{e:Ent}{i:Nat},e∈L->e.v=.d (.os i)->i∈B2 L
 | x::r,e,i,h,hv=>by
  rcases ah.1 h with rfl|h
  .simp[B2,hv]
  .have:=Wp h hv;unfold B2;split <;> simp[this]
 | [],_,_,h,_=>by cases h
theorem Wq:∀{L:List Ent}{e:Ent}{i a b c:Nat},e∈L->e.v=.d (.oe i a b c)->i∈B2 L
 | x::r,e,i,a,b,c,h,hv=>by
  rcases ah.1 h with rfl|h
  .simp[B2,hv]
  .have:=Wq h hv;unfold B2;split <;> simp[this]
 | [],_,_,_,_,_,h,_=>by cases h
theorem Wr:∀{L:List Ent}{e:Ent}{i a b c:Nat},e∈L->e.v=.d (.osb i a b c)->i∈B2 L
 | x::r,e,i,a,b,c,h,hv=>by
  rcases ah.1 h with rfl|h
  .simp[B2,hv]
  .have:=Wr h hv;unfold B2;split <;> simp[this]
 | [],_,_,_,_,_,h,_=>by cases h
theorem Sp:∀{L:List Ent}{e:Ent}{i g a b c:Nat},e∈L->e.v=.d (.oi i g a b c)->i∈B2 L/\g∈B2 L
 | x::r,e,i,g,a,b,c,h,hv=>by
  rcases ah.1 h with rfl|h
  .simp[B2,hv]
  .have:=Sp h hv;unfold B2;split <;> simp[this]
 | [],_,_,_,_,_,_,h,_=>by cases h
theorem Y3{i g e s:Nat}:∀{l:fc},i∈l->R[i]?=some (.dsl e s g)->g∈Pw R l
 | [],h,_=>by cases h
 | j::l,h,hi=>by
  rcases ah.1 h with rfl|h
  .simp[Pw,hi]
  .have:=Y3 h hi;unfold Pw;split <;> simp[this]
variable{l:fc}
theorem Aj6(h:i∈l):i∈deepen R l:=bC _ h
theorem Acv{e:Nat}(h:i∈l)(hi:R[i]?=some (.dsl e s g)):g∈deepen R l:=bD _ (Y3 h hi)
theorem P5{a b c:Nat}:N1 v≠some (.d (.o i off))/\N1 v≠some (.d (.os i))/\N1 v≠some (.d (.oe i a b c))/\N1 v≠some (.d (.osb i a b c))/\∀g,N1 v≠some (.d (.oi i g a b c)):=by
 unfold N1;split
 .refine⟨?_,?_,?_,?_,λ_=>?_⟩ <;> (cases Fj (_:Array Value).toList <;> simp)
 .simp
 grind[dOf]
theorem Ajl(h:Bb L cur x=some (.d (.o i off))):i∈B2 L:=by
 unfold Bb at h;split at h
 .exact absurd h (P5 (a:=0) (b:=0) (c:=0)).1
 .split at h
  .rename_i e he;cases hb:Gc e.p cur with
   |false=>rw[hb]at h;simp at h
   |true=>rw[hb]at h;simp at h;exact vX (C4 he).1 h
  .cases h
 .simp at h
 .cases h
theorem Dy(h:Bb L cur x=some (.d (.os i))):i∈B2 L:=by
 unfold Bb at h;split at h
 .exact absurd h (P5 (off:=0) (a:=0) (b:=0) (c:=0)).2.1
 .split at h
  .rename_i e he;cases hb:Gc e.p cur with
   |false=>rw[hb]at h;simp at h
   |true=>rw[hb]at h;simp at h;exact Wp (C4 he).1 h
  .cases h
 .simp at h
 .cases h
theorem Nh(h:Bb L cur x=some (.d (.oe i k s off))):i∈B2 L:=by
 unfold Bb at h;split at h
 .exact absurd h (P5 (off:=0)).2.2.1
 .split at h
  .rename_i e he;cases hb:Gc e.p cur with
   |false=>rw[hb]at h;simp at h
   |true=>rw[hb]at h;simp at h;exact Wq (C4 he).1 h
  .cases h
 .simp at h
 .cases h
theorem Ta(h:Bb L cur x=some (.d (.osb i k s off))):i∈B2 L:=by
 unfold Bb at h;split at h
 .exact absurd h (P5 (off:=0)).2.2.2.1
 .split at h
  .rename_i e he;cases hb:Gc e.p cur with
   |false=>rw[hb]at h;simp at h
   |true=>rw[hb]at h;simp at h;exact Wr (C4 he).1 h
  .cases h
 .simp at h
 .cases h
theorem zY(h:Bb L cur x=some (.d (.oi i g k s off))):i∈B2 L/\g∈B2 L:=by
 unfold Bb at h;split at h
 .exact absurd h ((P5 (off:=0)).2.2.2.2 g)
 .split at h
  .rename_i e he;cases hb:Gc e.p cur with
   |false=>rw[hb]at h;simp at h
   |true=>rw[hb]at h;simp at h;exact Sp (C4 he).1 h
  .cases h
 .simp at h
 .cases h
theorem E3:∀{l:List Operand}{avs:List AV}{av:AV},Di L cur l=some avs->av∈avs->∃x,Bb L cur x=some av
 | [],avs,av,h,hm=>by simp[Di]at h;subst h;cases hm
 | x::r,avs,av,h,hm=>by
  simp only[Di]at h;split at h
  .rename_i v l h1 h2;simp at h;subst h;rcases ah.1 hm with rfl|hm
   .exact⟨x,h1⟩
   .exact E3 h2 hm
  .cases h
theorem Ack(h:∀i,AV.d (.os i)∈args->R[i]?=R'[i]?)(hg:∀i e s g,AV.d (.os i)∈args->R[i]?=some (.dsl e s g)->R[g]?=R'[g]?):L4 R args=L4 R' args:=by
 unfold L4;split
 .rfl
 .rfl
 .rename_i i;rw[←h i (by simp)];split
  .rfl
  .rename_i e s g hd;rw[hg i e s g (by simp) hd]
  .rfl
  .rfl
 .rfl
 .rfl
theorem Ach{op:Op}(h0:∀i,i∈deepen R (Kl op L)->R[i]?=R'[i]?):Bp P L cur R c op=Bp P L cur R' c op:=by
 have h:∀i,i∈Kl op L->R[i]?=R'[i]?:=λi hi=>h0 i (Aj6 hi);have hgh:∀i e s g,i∈Kl op L->R[i]?=some (.dsl e s g)->R[g]?=R'[g]?:=λi e s g hi hd=>h0 g (Acv hi hd);cases op with
 | load t x=>
  by_cases hg:∃g,x=.global g
  .obtain⟨g,rfl⟩:=hg;rfl
  have e:∀R,Bp P L cur R c (.load t x)=Tw P L cur R c t x:=λR=>by
   cases x with
   |global g=>exact absurd ⟨g,rfl⟩ hg
   |_=>rfl
  rw[e,e];unfold Tw;split
  .rename_i i off n e1 e2;rw[h i (Ajl e1)]
  .rfl
  .rename_i i k size off n e1 e2;rw[←h i (Nh e1)];split
   .rfl
   .rename_i e s g _ _ _ hd;rw[hgh i _ _ _ (Nh e1) hd]
   .rfl
   .rfl
  .rfl
 | binOp b t x y z=>
  simp only[Bp];unfold Aj0;split
  .rfl
  .split
   .rfl
   .rename_i i e1 e2;rw[h i (Dy e1)]
   .rfl
   .rfl
 | convert s d x=>
  simp only[Bp];unfold Y7;split
  .rfl
  .split
   .split
    .rename_i i e1 e2;rw[h i (Dy e2)]
    .rfl
    .rfl
   .rfl
 | indexAddr t x i=>
  simp only[Bp];unfold Ajz;split
  .rfl
  .rename_i e j ik n e1 e2 e3;rw[←h j (Dy e2)];split
   .rfl
   .rename_i e s g _ _ _ hd;rw[hgh j _ _ _ (Dy e2) hd]
   .rfl
   .rfl
  .rfl
  .rfl
  .rfl
  .rfl
 | call k=>
  simp only[Bp];split
  .split
   .rename_i args e1;split
    .split
     .rw[Ack (R':=R') (λi hi=>by
       obtain⟨x,hx⟩:=E3 e1 hi;exact h i (Dy hx)) (λi e s g hi hd=>by
       obtain⟨x,hx⟩:=E3 e1 hi;exact hgh i e s g (Dy hx) hd)]
     .rfl
     .rfl
    .rfl
   .rfl
  .rfl
 | slice t x lo hi mx=>
  cases mx with
  | none=>
   simp only[Bp];split
   .rfl
   .rename_i e i e1 e2;rw[h i (Dy e2)]
   .rename_i e i o0 n0 s0 e1 e2;rw[h i (Ta e2)]
   .rfl
   .rfl
  | some mx=>
   cases lo with
   |none=>rfl
   | some lo=>
    cases hi with
    |none=>rfl
    | some hi=>
     simp only[Bp];split
     .rename_i e i e1 e2;rw[h i (Dy e2)]
     .rfl
 |_=>rfl
mutual
theorem yV(f:Nat->Option Nat):∀(d d':D),D.ren (λ_=>none) d=some d'->D.ren f d=some d'
 |.p x,d',h=>h
 |.o i off,d',h=>by simp[D.ren]at h
 |.os i,d',h=>by simp[D.ren]at h
 |.oe i k s off,d',h=>by simp[D.ren]at h
 |.ip c,d',h=>h
 |.any,d',h=>h
 |.nq _,d',h=>h
 |.osb _ _ _ _,d',h=>by simp[D.ren]at h
 |.oi _ _ _ _ _,d',h=>by simp[D.ren]at h
 | .fn g a b,d',h=>by
  simp only[D.ren]at h ⊢;split at h
  .rename_i a' b' h1 h2;rw[Mr f a a' h1,Mr f b b' h2];exact h
  .cases h
theorem Mr(f:Nat->Option Nat):∀(l l':List D),D.renL (λ_=>none) l=some l'->D.renL f l=some l'
 | [],l',h=>h
 | d::r,l',h=>by
  simp only[D.renL]at h ⊢;split at h
  .rename_i d' r' h1 h2;rw[yV f d d' h1,Mr f r r' h2];exact h
  .cases h
end
mutual
theorem Zs(f:Nat->Option Nat):∀(d d':AV),AV.ren (λ_=>none) d=some d'->AV.ren f d=some d'
 | .d x,d',h=>by
  simp only[AV.ren]at h ⊢;split at h
  .rename_i y hy;rw[yV f x y hy];exact h
  .cases h
 | .agg ds,d',h=>by
  simp only[AV.ren]at h ⊢;split at h
  .rename_i y hy;rw[Mr f ds y hy];exact h
  .cases h
 | .tup l,d',h=>by
  simp only[AV.ren]at h ⊢;split at h
  .rename_i y hy;rw[W7 f l y hy];exact h
  .cases h
theorem W7(f:Nat->Option Nat):∀(l l':List AV),AV.renL (λ_=>none) l=some l'->AV.renL f l=some l'
 | [],l',h=>h
 | d::r,l',h=>by
  simp only[AV.renL]at h ⊢;split at h
  .rename_i d' r' h1 h2;rw[Zs f d d' h1,W7 f r r' h2];exact h
  .cases h
end
theorem Acm(hn:Aje c=true)(hc:yY c=true)
  (h:Gy R args f c=some out):out.R=R/\Gy R' args f c=some {out with R:=R'}:=by
 unfold Aje at hn;split at hn
 .rename_i g q1 q2 res R2 pi;simp only[ac,cI]at hn;obtain⟨rfl,rfl⟩:=hn;obtain⟨res',hres⟩:=Option.isSome_iff_exists.1 hc;unfold Gy at h ⊢;simp only at h ⊢;generalize hbb:(Nat.beq f g&&Fe []&&Nat.ble ([]:fc).length ([]:List Res).length)=bb at h ⊢;cases bb with
  |false=>simp at h
  | true=>
   simp only[eO]at h ⊢;split at h
   .rename_i a' Rp e1 e2;rw[e1];simp only[J6]at e2 ⊢;simp only[al]at e2;subst e2;simp only[H2,Zs _ res res' hres]at h ⊢;simp at h;subst h;simp[E9]
   .cases h
 .cases hn
theorem Sc:∀{l:List D},(∀i,i∈qJ l->R[i]?=R'[i]?)->Hp R l=Hp R' l
 | [],_=>rfl
 | d::r,h=>by
  have ih:Hp R r=Hp R' r:=Sc λi hi=>h i (by cases d <;> simp[qJ,hi]);have hd:Jy R d=Jy R' d:=by
   cases d with
   |os i=>simp only[Jy];rw[h i (by simp[qJ])]
   |_=>rfl
  simp only[Hp,ih,hd]
mutual
theorem W8{rw:List Pd}:∀{d:D},(∀i,i∈d.touchV R->R[i]?=R'[i]?)->d.view R rw=d.view R' rw
 |.p _,_=>rfl
 |.ip _,_=>rfl
 |.any,_=>rfl
 |.nq _,_=>rfl
 |.oe _ _ _ _,_=>rfl
 |.osb i _ _ _,h=>by simp only[D.view];rw[h i (by simp[D.touchV])]
 |.oi _ g _ _ _,h=>by simp only[D.view];rw[h g (by simp[D.touchV])]
 |.os i,h=>by simp only[D.view];rw[h i (by simp[D.touchV])]
 | .o i off,h=>by
  have h0:=h i (by simp[D.touchV]);simp only[D.view];rw[←h0];cases hi:R[i]? with
  |none=>rfl
  | some r=>cases r with
   |box t cells=>simp only;rw[Sc (R':=R') λk hk=>h k (by simp only[D.touchV,hi];exact ak _ hk)]
   |_=>rfl
 |.fn g a b,h=>by have h1:=Kj (rw:=rw) (l:=a) λi hi=>h i (by simp only[D.touchV];exact bC _ hi);have h2:=Kj (rw:=rw) (l:=b) λi hi=>h i (by simp only[D.touchV];exact bD _ hi);simp only[D.view,h1,h2]
theorem Kj{rw:List Pd}:∀{l:List D},(∀i,i∈dg R l->R[i]?=R'[i]?)->D.viewL R rw l=D.viewL R' rw l
 | [],_=>rfl
 |d::r,h=>by have h1:=W8 (rw:=rw) (d:=d) λi hi=>h i (by simp only[dg];exact bC _ hi);have h2:=Kj (rw:=rw) (l:=r) λi hi=>h i (by simp only[dg];exact bD _ hi);simp only[D.viewL,h1,h2]
end
variable{x:AV}
theorem Af1(h:∀i,i∈x.touchV R->R[i]?=R'[i]?):x.view R rw=x.view R' rw:=by
 cases x with
 |d x=>simp only[AV.view];rw[W8 (R':=R') h]
 |agg l=>simp only[AV.view];rw[Kj (R':=R') h]
 |tup l=>rfl
theorem Sf{rw:List Pd}:∀{l:List AV},(∀x,x∈l->∀i,i∈x.touchV R->R[i]?=R'[i]?)->AV.viewL R rw l=AV.viewL R' rw l
 | [],_=>rfl
 |x::r,h=>by have h1:=Af1 (rw:=rw) (x:=x) (h x ai);have h2:=Sf (rw:=rw) (l:=r) λy hy=>h y (ak _ hy);simp only[AV.viewL,h1,h2]
theorem Ym{e:Ent}{i:Nat}:∀{L:List Ent},e∈L->i∈e.v.touchV R->i∈touchV R L
 | [],h,_=>by cases h
 |x::r,h,hi=>by
  simp only[touchV];rcases ah.1 h with rfl|h
  .exact bC _ hi
  .exact bD _ (Ym h hi)
theorem Aht{i:Nat}:∀{l:fh}{ds:List D},Fj l=some ds->i∉dg R ds
 | [],ds,h=>by grind[Fj,dg]
 | v::l,ds,h=>by
  simp only[Fj]at h;split at h
  .rename_i d r h1 h2;simp at h;subst h;unfold dOf at h1;cases hb:v.oneCell' with
   |false=>rw[hb]at h1;simp at h1
   |true=>rw[hb]at h1;simp at h1;subst h1;simpa[dg,D.touchV]using Aht h2
  .cases h
theorem Akt(h:N1 v=some x):i∉x.touchV R:=by
 unfold N1 at h;split at h
 .cases hd:Fj (_:Array Value).toList with
  |none=>rw[hd]at h;cases h
  |some ds=>grind[AV.touchV,Aht]
 .cases h
 .cases hd:dOf v with
  |none=>rw[hd]at h;cases h
  |some d=>
   rw[hd]at h;simp at h;subst h;unfold dOf at hd;cases hb:v.oneCell' with
   |false=>rw[hb]at hd;simp at hd
   |true=>rw[hb]at hd;simp at hd;subst hd;simp[AV.touchV,D.touchV]
variable{v:AV}
theorem I2{x:Operand}(h:Bb L cur x=some v)(hi:i∈v.touchV R):i∈touchV R L:=by
 unfold Bb at h;split at h
 .exact absurd hi (Akt h)
 .split at h
  .rename_i e he;cases hb:Gc e.p cur with
   |false=>rw[hb]at h;simp at h
   |true=>rw[hb]at h;simp at h;subst h;exact Ym (C4 he).1 hi
  .cases h
 .simp at h;subst h;simp[AV.touchV,D.touchV,dg]at hi
 .cases h
theorem T1{d:D}:d.norm.touchV R=d.touchV R:=by unfold D.norm;split <;> rfl
theorem Se:∀{l:List D},dg R (l.map D.norm)=dg R l
 | []=>rfl
 |d::r=>by simp only[bo,dg,T1,Se]
theorem Af8:x.norm.touchV R=x.touchV R:=by
 cases x with
 |d x=>exact T1
 |agg l=>exact Se
 |tup l=>rfl
theorem Ml{g k:Nat}:∀{d:D},(g,k)∈d.ois->g∈d.touchV R
 |.oi _ _ _ _ _,h=>by simp[D.ois]at h;simp[D.touchV,h.1]
 | .fn f a b,h=>by
  have key:∀{l:List D},(∀d,d∈l->(g,k)∈d.ois->g∈d.touchV R)->(g,k)∈dp l->g∈dg R l:=by
   intro l;induction l with
   |nil=>intro _ h;simp[dp]at h
   |cons d l ih=>intro hh h;simp only[dp,ao]at h;simp only[dg,ao];grind
  simp only[D.ois,ao]at h;simp only[D.touchV,ao];rcases h with h|h
  .exact .inl (key (λd _ h=>Ml h) h)
  .exact .inr (key (λd _ h=>Ml h) h)
 |.p _,h=>by simp[D.ois]at h
 |.o _ _,h=>by simp[D.ois]at h
 |.os _,h=>by simp[D.ois]at h
 |.oe _ _ _ _,h=>by simp[D.ois]at h
 |.osb _ _ _ _,h=>by simp[D.ois]at h
 |.ip _,h=>by simp[D.ois]at h
 |.any,h=>by simp[D.ois]at h
 |.nq _,h=>by simp[D.ois]at h
theorem S6{g k:Nat}:∀{l:List D},(g,k)∈dp l->g∈dg R l
 | [],h=>by simp[dp]at h
 |d::l,h=>by simp only[dp,ao]at h;simp only[dg,ao];exact h.imp Ml S6
theorem Ww{g k:Nat}:∀{l:List AV},(g,k)∈oisL l->∃x,x∈l/\g∈x.touchV R
 | [],h=>by simp[oisL]at h
 | x::l,h=>by
  simp only[oisL,ao]at h;rcases h with h|h
  .refine⟨x,ai,?_⟩;cases x with
   |d x=>exact Ml h
   |agg l=>exact S6 h
   |tup l=>simp[AV.ois]at h
  .obtain⟨y,h1,h2⟩:=Ww h;grind
theorem Aad{g:FuncId}{rows:List (List Pd)}(ht:∀x,x∈args->∀i,i∈x.touchV R->R[i]?=R'[i]?)
  (h:Gy R args f (.callB g q res rows k rw)=some out):out.R=R/\Gy R' args f (.callB g q res rows k rw)=some {out with R:=R'}:=by
 simp only[Gy]at h ⊢;generalize (Nat.beq f g&&res.flat)=bb at h ⊢;have hview:∀rw,AV.viewL R rw (args.map AV.norm)=AV.viewL R' rw (args.map AV.norm):=λrw=>Sf (R:=R) (R':=R') (l:=args.map AV.norm) λx hx i hi=>by obtain⟨y,hy,rfl⟩:=an.1 hx;rw[Af8]at hi;exact ht y hy i hi
 cases bb with
 |false=>simp at h
 | true=>
  simp only[eO]at h ⊢;split at h
  .rw[←hview];split at h
   .grind
   .cases h
  .rename_i g0 k0 ho;obtain⟨x,h1,h2⟩:=Ww (R:=R) (l:=args) (g:=g0) (k:=k0) (by rw[ho];simp);rw[←hview,←ht x h1 g0 h2];split at h
   .grind
   .cases h
  .cases h
variable{l:List Operand}
theorem Ab9{g:Fn}{first caps:List D}{f:Operand}(e1:Bb L cur f=some (.d (.fn g first caps)))(e2:Di L cur l=some args)
  (hx:x∈first.map AV.d++args++caps.map AV.d)(hi:i∈x.touchV R):i∈touchV R L:=by
 have hd:∀{ds:List D}{d:D},d∈ds->i∈d.touchV R->i∈dg R ds:=by
  intro ds;induction ds with
  |nil=>intro d h;cases h
  |cons a r ih=>intro d h hi;simp only[dg];grind
 rcases ao.1 hx with hx|hx
 .rcases ao.1 hx with hx|hx
  .obtain⟨d,hm,rfl⟩:=an.1 hx;exact I2 e1 (by simp only[AV.touchV,D.touchV];exact bC _ (hd hm hi))
  .obtain⟨z,hz⟩:=E3 e2 hx;exact I2 hz hi
 .obtain⟨d,hm,rfl⟩:=an.1 hx;exact I2 e1 (by simp only[AV.touchV,D.touchV];exact bD _ (hd hm hi))
theorem Wu(hq : Gb c o = true)(ht0 : ∀i, i ∈ deepen R (Kl o.op L) ++ Aro c R L -> R[i]?=R'[i]?)(h : Ix P L cur R c o = some out) :
    out.R=R/\Ix P L cur R' c o=some {out with R:=R'}:=by
  have ht:∀i,i∈deepen R (Kl o.op L)->R[i]?=R'[i]?:=λi hi=>ht0 i (bC _ hi);unfold Ix at h ⊢;rw[←Ach ht];split at h
  · rename_i v k hv;simp at h;subst h;exact⟨rfl,rfl⟩
  · rename_i hv;obtain⟨dst,op,type,pos,after,guard⟩:=o;simp only at h ⊢;cases op with
    |box t x=>simp[Gb]at hq
    |alloc t=>simp[Gb]at hq
    |store t x y=>simp[Gb]at hq
    |makeSlice t x y=>simp[Gb]at hq
    | convert s d x=>
      simp only[Gb,aS]at hq;simp only at h ⊢;have hO:∀R' x,M4 P R' c s d x=none:=λR' x=>by
        unfold M4;split
        · simp [isZ]at hq
        · rfl
      have hB:∀R' x,M5 P R' c s d x=none:=λR' x=>by
        unfold M5;split
        · simp [isZ]at hq
        · rfl
      unfold Py at h ⊢;rw[hO,hB]at h ⊢;split at h
      · rename_i o1 h0;cases h;unfold Ty at h0 ⊢;split at h0
        · split at h0
          · rename_i he;simp at h0;subst h0;exact⟨rfl,rfl⟩
          · cases h0
        · cases h0
      · cases h
    | buildSlice t len parts=>
      simp only[Gb,aS]at hq;simp only at h ⊢;split at h
      · rename_i ps e1;unfold G_ at h ⊢;rw[hq]at h ⊢;split at h
        · rename_i e hu;split at h
          · rename_i size zs e2 e3;cases hb:(Nat.beq zs.length (size+1)&&Nat.ble (len*(size+1)) 16777216) with
            |false=>rw[hb]at h;simp at h
            | true=>
              rw[hb]at h;simp only[eO,eQ]at h ⊢;split at h
              · rename_i pd hpd;simp at h;subst h;exact⟨rfl,rfl⟩
              · simp at h
          · cases h
        · cases h
      · cases h
    | call kk=>
      obtain⟨callee,cargs,argTypes⟩:=kk;cases callee with
      |invoke r m=>simp at h
      |builtin b=>cases b <;> first|(simp[Gb]at hq;done)|(simp at h;done)
      | value f=>
        simp only[Gb,aE,ac]at hq;simp only at h ⊢;split at h
        · rename_i g first caps args e1 e2;cases c with
          | callB g' q res rows k rw=>exact Aad (λx hx i hi=>ht0 i (bD _ (Ab9 e1 e2 hx hi))) h
          | _=>first
            | (rcases hq with hq|hq
               · simp [Ajn]at hq
               · exact Acm hq.1 hq.2 h)
        · cases h
    |_=>simp at h
theorem Q3:∀{l:fc}{t:Nat},Me l t=true↔t∈l
 | [],t=>by simp[Me]
 | a::r,t=>by
  simp only[Me,aE,ah,Q3];constructor
  .rintro (h|h)
   .exact .inl (aj h).symm
   .exact .inr h
  .rintro (h|h)
   .subst h;exact .inl (by simp)
   .exact .inr h
theorem Aae(h:B4 P R c ts [.d (.os j),y]=some out)(hi:i<R.length)(hj:i≠j):out.R[i]?=R[i]?:=by
 match ts,h with
 | [t,u],h=>
  simp only[B4]at h;cases hts2:Nat.beq t u with
  |false=>rw[hts2]at h;simp at h
  |true=>
   rw[hts2]at h;simp only[eO]at h;split at h
   .grind
   .cases h
 | [],h=>simp[B4]at h
 | [_],h=>simp[B4]at h
 |_::_::_::_,h=>simp[B4]at h
theorem qW(h:Jr P R c ts i' g k size off y=some out)(hi:i<R.length)(h1:i≠i')(h2:i≠g):out.R[i]?=R[i]?:=by
 unfold Jr at h;split at h
 .split at h
  .generalize ((_&&_:Bool))=bb at h;cases bb with
   |false=>simp at h
   | true=>
    simp only[eO]at h;split at h
    .rename_i v' R' a b z m r' hap;simp at h;subst h;have:=Aae (i:=i) hap (by simp;omega) (by omega);grind
    .cases h
  .cases h
 .cases h
theorem qV(h:L6 P R c ts i' n s y=some out)(h1:i≠i'):out.R[i]?=R[i]?:=by
 unfold L6 at h;split at h
 .grind
 .cases h
theorem Wz{lo:Nat}{a:Operand}(h:Vy R x=some (i,lo,n,s))(hl:Bb L cur a=some x):i∈B2 L:=by
 unfold Vy at h;split at h
 .split at h
  .simp at h;obtain⟨rfl,_⟩:=h;exact Dy hl
  .cases h
 .simp at h;obtain⟨rfl,_⟩:=h;exact Ta hl
 .cases h
theorem Acl(h:Pz P R c ts args=some out)(hl:Di L cur l=some args)(h1:i∉B2 L):out.R[i]?=R[i]?:=by
 unfold Pz at h;split at h
 .rename_i x;split at h
  .split at h
   .rename_i hd;split at h
    .generalize ((_&&_:Bool))=bb at h;cases bb with
     |false=>simp at h
     |true=>simp only[eO,al]at h;subst h;obtain⟨z,hz⟩:=E3 hl (av:=x) (by simp);have:=Wz hd hz;grind
    .cases h
   .cases h
  .cases h
 .cases h
theorem Agg(h:Tx P R c ts args=some out)(hl:Di L cur l=some args)(h1:i∉B2 L):out.R[i]?=R[i]?:=by
 unfold Tx at h;split at h
 .rename_i x y;split at h
  .split at h
   .rename_i hd;split at h
    .generalize ((_&&_:Bool))=bb at h;cases bb with
     |false=>simp at h
     |true=>simp only[eO,al]at h;subst h;obtain⟨z,hz⟩:=E3 hl (av:=x) (by simp);have:=Wz hd hz;grind
    .cases h
   .cases h
  .cases h
 .cases h
theorem Agf(h:Tv R c o i' k size off ds n=some out)(hi:i<R.length)(h1:i≠i')(h2:∀e s g,R[i']?=some (.dsl e s g)->i≠g)(h3:∀m,ds=[.os m]->i≠m):out.R[i]?=R[i]?:=by
 unfold Tv at h;split at h
 next e s g m q1 q2 q3 row q4 rows' hj=>grind
 next=>cases h
theorem Age(h:Tu R c o i' k size off ds n=some out)(h1:i≠i')(h3:∀m,ds=[.os m]->i≠m):out.R[i]?=R[i]?:=by
 unfold Tu at h;split at h
 .rename_i m;have hm:=h3 m rfl;split at h
  .cases hb:Nat.beq m i' with
   |true=>rw[hb]at h;simp at h
   |false=>rw[hb]at h;simp only[eQ]at h;unfold Rk at h;grind
  .cases h
 .cases h
theorem Ni(h:Di L cur l=some (v::vs)):∃x xs,l=x::xs/\Bb L cur x=some v:=by
 match l,h with
 | [],h=>cases h
 |x::xs,h=>refine⟨x,xs,rfl,?_⟩;simp only[Di]at h;grind
theorem An3{cs : List (Bool × Bool)}(h : Ix P L cur R c o = some out)(hi : i < R.length)(hw : i ∉ Dl ⟨0, o, L, cur, cs, c, R, out, true, false, none⟩) : out.R[i]?=R[i]? := by
  unfold Ix at h;split at h
  · simp at h;subst h;rfl
  · obtain ⟨dst, op, type, pos, after, guard⟩ := o;simp only at h;cases op with
    | box t x=>
      simp only at h;split at h
      · generalize (Nat.beq _ _)=bb at h;cases bb with
        |false=>simp at h
        |true=>simp at h;subst h;simp[fa hi]
      · cases h
    | alloc t=>
      simp only at h;split at h
      · simp at h;subst h;simp[fa hi]
      · cases h
    | store t x y =>
      simp only at h;cases hc:cur.isEmpty with
      |false=>rw[hc]at h;simp at h
      | true=>
        rw[hc]at h;simp only[eO]at h;split at h
        · rename_i j off ds n e1 e2 e3;split at h
          · generalize (Nat.beq _ _&&Nat.ble _ _&&Option.isNone _)=bb at h;cases bb with
            |false=>simp at h
            | true=>simp at h;subst h;simp only[Dl,e1,aF]at hw;simp only;rw[bS (Ne.symm hw)]
          · cases h
        · rename_i j k size off ds n e1 e2 e3;simp only[Dl,e1,ah,not_or]at hw;obtain⟨hw1,hw2⟩:=hw;split at h
          · rename_i out' hput;simp at h;subst h;unfold Rk at hput;split at hput
            · generalize (Nat.beq _ _&&(Nat.beq _ _&&(Nat.ble _ _&&Option.isNone _)))=bb at hput;cases bb with
              |false=>simp at hput
              | true=>simp at hput;subst hput;simp only;rw[bS (Ne.symm hw1)]
            · cases hput
          · have hms:∀m,ds=[.os m]->i≠m:=by
              intro m hds;rintro rfl;subst hds;refine hw2 (bD _ ?_);obtain⟨av,h1,h2⟩:=Cj e2;cases av with
              |d x=>simp[Ht]at h2;subst h2;exact I2 h1 (by simp[AV.touchV,D.touchV])
              |agg l=>simp[Ht]at h2;subst h2;exact I2 h1 (by simp[AV.touchV,D.touchV,dg])
              |tup l=>simp[Ht]at h2
            split at h
            · rename_i out' hput;simp at h;subst h;refine Agf hput hi hw1 (λe s g hj=>?_) hms;rintro rfl;exact hw2 (bC _ (Acv (Nh e1) hj))
            · exact Age h hw1 hms
        · cases h
    | buildSlice t len parts=>
      simp only at h;split at h
      · unfold G_ at h;split at h
        · split at h
          · generalize (Nat.beq _ _&&Nat.ble _ _)=bb at h;cases bb with
            |false=>simp at h
            | true=>
              simp only[eO]at h;split at h
              · cases ho:Lf c with
                |true=>rw[ho]at h;simp at h;subst h;simp[fa hi]
                |false=>rw[ho]at h;simp at h;subst h;rfl
              · generalize (Lf c&&Nat.beq _ _)=bb at h;cases bb with
                |false=>simp at h
                |true=>obtain⟨ds,_,rfl⟩:=Cw h;simp[fa hi]
          · cases h
        · cases h
      · cases h
    | convert s d x=>
      simp only at h;rcases yR h with e|⟨r,e⟩
      · rw [e]
      · rw [e,aJ hi]
    | makeSlice t x y=>
      simp only at h;generalize (Kn x y)=bb at h;cases bb with
      |false=>simp at h
      | true=>
        simp only[eO]at h;unfold L3 at h;split at h
        · split at h
          · split at h
            · generalize (Nat.beq _ _)=bb at h;cases bb with
              |false=>simp at h
              |true=>simp at h;subst h;simp[fa hi]
            · cases h
          · cases h
        · split at h
          · split at h
            · generalize (Nat.beq _ _&&_)=bb at h;cases bb with
              |false=>simp at h
              |true=>simp at h;subst h;simp[fa hi]
            · cases h
          · cases h
        · cases h
    | call kk =>
      obtain⟨callee,cargs,argTypes⟩:=kk;cases callee with
      |invoke r m=>simp at h
      | builtin b=>
        cases b <;> first
          |(simp at h;done)
          | (simp only at h
             split at h
             · rename_i args e1
               first
                 |exact Acl h e1 (by simpa[Dl]using hw)
                 |exact Agg h e1 (by simpa[Dl]using hw)
             · cases h
             done)
          | (simp only at h
             split at h
             · rename_i i' g q size off y e1;have hall:=e1;obtain⟨z,hz⟩:=E3 e1 (av:=.d (.oi i' g q size off)) (by simp);obtain⟨hi1,hg1⟩:=zY hz;obtain⟨x0,xs0,hx0,hv0⟩:=Ni e1;have hii:i≠i':=by rintro rfl;exact hw (by simpa[Dl,hx0,Adr,hv0]using hi1)
               have hig:i≠g:=by rintro rfl;exact hw (by simpa[Dl,hx0,Adr,hv0]using hg1)
               exact qW h hi hii hig
             · rename_i i' n s y e1;obtain⟨z,hz⟩:=E3 e1 (av:=.d (.osb i' 0 n s)) (by simp);obtain⟨x0,xs0,hx0,hv0⟩:=Ni e1;have hii:i≠i':=by rintro rfl;exact hw (by simp[Dl,hx0,Adr,hv0])
               unfold Oq at h;split at h
               · exact qV h hii
               · obtain⟨r0,hr0⟩:=Tz h;rw[hr0,aJ (by simpa using hi),bS (Ne.symm hii)]
             · rename_i args _ _ e1;unfold B4 at h;split at h
               · rename_i t u x y hts;generalize (Nat.beq _ _)=bb at h;cases bb with
                 |false=>simp at h
                 | true=>
                   simp only[eO]at h;split at h
                   · split at h
                     · split at h
                       · generalize (Nat.beq _ _)=bb at h;cases bb with
                         |false=>simp at h
                         | true=>
                           simp only[eO]at h;split at h
                           · simp at h;subst h;simp[fa hi]
                           · rename_i j;split at h
                             · generalize (Nat.beq _ _&&Nat.beq _ _)=bb at h;cases bb with
                               |false=>simp at h
                               | true=>simp at h;subst h;obtain⟨z,hz⟩:=E3 e1 (av:=.d (.os _)) ai;have hj:=Dy hz;simp only;rw[aJ (by simpa using hi),bS];rintro rfl;refine hw ?_;obtain⟨x0,xs0,hx0,hv0⟩:=Ni e1;simp[Dl,hx0,Adr,hv0]
                             · cases h
                           · cases h
                       · cases h
                     · cases h
                   · cases h
               · cases h
             · cases h)
      | value f =>
        simp only at h;split at h
        · rename_i g first caps args e1 e2;cases c with
          | call f' q1 q2 res R2 pi =>
            simp only[Gy]at h;generalize (Nat.beq g f'&&Fe pi&&Nat.ble pi.length R2.length)=bb at h;cases bb with
            |false=>simp at h
            | true=>
              simp only[eO]at h;split at h
              · split at h
                · rename_i Rp2 res2 RR e3 e4 e5;simp at h;subst h;simp only[Dl]at hw;simp only;rw[aJ (by rw[Fh];exact hi)];cases hg:R[i]? with
                  |none=>rw[List.getElem?_eq_none_iff]at hg;omega
                  | some r=>
                    have hlt:i<(E9 R pi RR).length:=by rw[Fh];exact hi
                    rcases Qy pi R _ i _ (af hlt) with⟨j,h1,_⟩|⟨h1,_⟩
                    · exact absurd (ae h1) hw
                    · rw [af hlt,←h1,hg]
                · cases h
              · cases h
          | callB f' q1 res rows0 k0 rw0=>
            simp only[Gy]at h;generalize (Nat.beq g f'&&res.flat)=bb at h;cases bb with
            |false=>simp at h
            | true=>
              simp only[eO]at h;split at h
              · split at h
                · simp at h;subst h;rfl
                · cases h
              · split at h
                · simp at h;subst h;rfl
                · cases h
              · cases h
          |_=>simp[Gy]at h
        · cases h
    |_=>simp at h
end
end Go.SL
namespace Go.SL
variable{ops:Array Oper}{rs:List Rec}{i n:Nat}{X:Nat->Bool}{r:Rec}
section
variable{P:Program}{C:Ctx}{S S':Nat->Prop}{w w':World}{ρ ρ':fh}{R R':List Res}{L L':List Ent}{a:Act}
structure Aat(P:Program)(n:Nat)(ops:Array Oper)(r:Rec):Prop where
 op:ops[r.i]?=some r.o
 guard:Lx ops r.need r.o=some r.cur
 cs:Gq r.need r.cur=some r.cs
 ev:r.fl=none->Ix P r.need r.cur r.Rin r.c r.o=some r.out
 flo:∀i,r.fl=some i->Y_ P r.need r.cur r.Rin r.c i r.o=some r.out
 dst:∀d,r.o.dst=some d->d<n/\r.cur.all (λg=>!(Nat.beq g.1 d))=true
 nodst:r.o.dst=none->r.cur.isEmpty=true
 ok:∀x,r.out.c=some x->(Ju r.cur r.r r.cs x).ok P
 gb:Nq r.need r.cur r.r r.c r.o=true
 eff:r.eff=(r.fl.isNone && !Gb r.c r.o)
def Ajh(L:List Ent)(r:Rec):List Ent:=match r.o.dst with|some d=>S4 L d r.cur r.out.v|none=>L
def I_(P:Program)(n:Nat)(ops:Array Oper):List Ent->List Res->List Rec->List Ent->List Res->Prop
 |L,R,[],L',R'=>L=L'/\R=R'
 |L,R,r::rs,L',R'=>Aat P n ops r/\r.Rin=R/\(∀e,e∈r.need->e∈L)/\I_ P n ops (Ajh L r) r.out.R rs L' R'
theorem Mm:∀{ts:fc}{e:Ent},e∈J7 L ts->e∈L
 | [],e,h=>by simp[J7]at h
 | t :: ts, e, h => by
  simp only[J7]at h;split at h
  .rename_i x hx;rcases ah.1 h with rfl|h
   .exact(C4 hx).1
   .rcases ao.1 h with h|h
    .rw[List.mem_filterMap]at h;obtain⟨g,_,hg⟩:=h;exact(C4 hg).1
    .exact Mm h
  .exact Mm h
theorem Q0{n : Nat}{ops : Array Oper} : ∀{is : fc}{L : List Ent}{R : List Res}{cls : List Cl}{rs : List Rec}{L' : List Ent}{R' : List Res}{ks : List Cl},
  Sz P n ops is L R cls=some (rs,L',R',ks)->Cg P ks->I_ P n ops L R rs L' R'/\rs.map (·.i)=is
 | [],L,R,cls,rs,L',R',ks,h,_=>by simp[Sz]at h;obtain⟨rfl,rfl,rfl,rfl⟩:=h;exact⟨⟨rfl,rfl⟩,rfl⟩
 | i :: is, L, R, cls, rs, L', R', ks, h, hok => by
  simp only[Sz]at h;split at h
  .cases h
  .rename_i o ho;split at h
   .cases h
   .rename_i cur hcur;split at h
    .rename_i out cs e1 e2;cases hb:(Aj5 n o cur&&Nq (J7 L (Vn ops o)) cur (isR (cls.headD .nop)) (Gp (cls.headD .nop)) o) with
     |false=>rw[hb]at h;simp at h
     | true=>
      rw[hb]at h;simp only[ac]at hb;obtain⟨hb,hgb⟩:=hb;unfold Aj5 at hb;simp only[eO]at h;have hev1:Ri o (Gp (cls.headD .nop))=none->Ix P (J7 L (Vn ops o)) cur R (Gp (cls.headD .nop)) o=some out:=by intro hf;unfold Aj4 at e1;rw[hf]at e1;exact e1
      have hev2:∀j,Ri o (Gp (cls.headD .nop))=some j->Y_ P (J7 L (Vn ops o)) cur R (Gp (cls.headD .nop)) j o=some out:=by intro j hf;unfold Aj4 at e1;rw[hf]at e1;exact e1
      have hdst:∀d,o.dst=some d->d<n/\cur.all (λg=>!(Nat.beq g.1 d))=true:=by intro d hd;rw[hd]at hb;simp only[ac]at hb;exact⟨by have:=hb.1;simpa[e_]using this,hb.2⟩
      have hnod:o.dst=none->cur.isEmpty=true:=by intro hd;rw[hd]at hb;exact hb
      split at h
      .rename_i x hx;split at h
       .rename_i rs2 L2 R2 ks2 e3;simp only[al,aI]at h;obtain⟨rfl,rfl,rfl,rfl⟩:=h;obtain⟨g1,g2⟩:=Q0 e3 hok.2;exact⟨⟨⟨ho,hcur,e2,hev1,hev2,hdst,hnod,λy hy=>(by rw[hx]at hy;cases hy;exact hok.1),hgb,rfl⟩,rfl,λe he=>Mm he,g1⟩,by simp[g2]⟩
       .cases h
      .rename_i hx;split at h
       .rename_i rs2 L2 R2 ks2 e3;simp only[al,aI]at h;obtain⟨rfl,rfl,rfl,rfl⟩:=h;obtain⟨g1,g2⟩:=Q0 e3 hok;exact⟨⟨⟨ho,hcur,e2,hev1,hev2,hdst,hnod,λy hy=>(by rw[hx]at hy;cases hy),hgb,rfl⟩,rfl,λe he=>Mm he,g1⟩,by simp[g2]⟩
       .cases h
    .cases h
theorem Rl{L:List Ent}{cur:Ce}{c:Cl}{o:Oper}{out:Out}(h:Y_ P L cur R c i o=some out) :
  (∃t z cells r',o.op=.alloc t/\Ee P t=some z/\Fj z.cells.toList=some cells/\R[i]?=some r'/\out=⟨.d (.o i 0),R,some (.flt i (.box t cells) r')⟩) \/
  (∃t l c0 o1 r1 r' c1,o.op=.makeSlice t l l/\R[i]?=some r'/\L3 P [] c0 t ((Bb L cur l).bind Ca)=some o1/\o1.R=[r1]/\o1.c=some c1/\out=⟨.d (.os i),R,some (.fltm i c1 r1 r')⟩):=by
 unfold Y_ at h;split at h
 .rename_i t l k ht;split at h
  .rename_i i0 c0 q1 q2 r' e1;split at h
   .rename_i o1 hs e2;have hlk:l=k:=by
     unfold Kn at hs;split at hs
     .rw[aj hs]
     .rw[eq_of_beq hs]
     .cases hs
    subst hlk;split at h
    .rename_i r1 c1 e3 e4;simp only[al]at h;exact .inr ⟨t,l,c0,o1,r1,r',c1,ht,e1,e2,e3,e4,h.symm⟩
    .cases h
   .cases h
  .cases h
 .rename_i t ht;split at h
  .rename_i cells r' e1 e2;simp at h;cases hz:Ee P t with
   |none=>rw[hz]at e1;simp at e1
   |some z=>rw[hz]at e1;exact .inl ⟨t,z,cells,r',ht,hz,e1,e2,h.symm⟩
  .cases h
 .cases h
def D4(X:Nat->Bool):List Res->List Rec->List Res
 |R,[]=>R
 |R,r::rs=>bif r.eff&&X r.i then D4 X r.out.R rs else D4 X R rs
theorem Hs(h:Aat P n ops r)(he:r.eff=false):r.out.R=r.Rin:=by
 have:=h.eff;rw[he]at this;cases hf:r.fl with
 |none=>rw[hf]at this;exact(Wu (R':=r.Rin) (by simpa using this.symm) (λ_ _=>rfl) (h.ev hf)).1
 |some i=>
  rcases Rl (h.flo i hf) with⟨t,z,cells,r',_,_,_,_,e⟩|⟨t,l,c0,o1,r1,r',c1,_,_,_,_,_,e⟩ <;>
  rw[e]
def PC(X:Nat->Bool)(rs:List Rec):Prop:=∀r q,r∈rs->q∈rs->r.eff=true->q.eff=true->r.i<q.i->X q.i=true->X r.i=true
def Fs(rs:List Rec):Prop:=rs.Pairwise λr q=>r.i<q.i
theorem PC.tail(h:PC X (r::rs)):PC X rs:=
 λa b ha hb=>h a b (ak _ ha) (ak _ hb)
theorem F2{X:Nat->Bool}:∀{rs:List Rec}{R:List Res},(∀r,r∈rs->r.eff=true->X r.i=false)->D4 X R rs=R
 | [],R,_=>rfl
 |r::rs,R,h=>by
  have ih:=F2 (R:=R) (λq hq=>h q (ak _ hq));simp only[D4];cases he:r.eff with
  |false=>simpa using ih
  |true=>rw[h r ai he];simpa using ih
theorem J_(hp:PC X (r::rs))(hs:Fs (r::rs))(he:r.eff=true)(hx:X r.i=false):∀q,q∈rs->q.eff=true->X q.i=false:=by
 intro q hq hqe;cases hxq:X q.i with
 |false=>rfl
 |true=>have:=hp r q ai (ak _ hq) he hqe ((bm.1 hs).1 q hq) hxq;rw[hx]at this;cases this
theorem Al7{r':Rec}(h1:r.o=r'.o)(h2:r.need=r'.need)(h3:r.cur=r'.cur)(h4:r.c=r'.c)(h5:r.Rin=r'.Rin):Dl r=Dl r':=by unfold Dl;rw[h1,h2,h3,h4,h5]
theorem S3(h:Aat P n ops r)(hw:i∉Dl r)(hl:i<r.Rin.length):r.out.R[i]?=r.Rin[i]?:=by
 cases hf:r.fl with
 | none=>
  exact An3 (cs:=r.cs) (h.ev hf) hl (λhm=>hw (by have e:Dl ⟨0,r.o,r.need,r.cur,r.cs,r.c,r.Rin,r.out,true,false,none⟩=Dl r:=Al7 rfl rfl rfl rfl rfl;rw[←e];exact hm))
 |some j=>
  rcases Rl (h.flo j hf) with⟨t,z,cells,r',_,_,_,_,e⟩|⟨t,l,c0,o1,r1,r',c1,_,_,_,_,_,e⟩ <;>
  rw[e]
theorem Ov{n:Nat}{ops:Array Oper}{X:Nat->Bool}{i:Nat}:∀{rs:List Rec}{L:List Ent}{R:List Res},I_ P n ops L R rs L' R'->Fs rs->PC X rs ->
  (∀r,r∈rs->r.eff=true->X r.i=true->i∉Dl r/\i<r.Rin.length)->(D4 X R rs)[i]?=R[i]?
 | [],L,R,_,_,_,_=>rfl
 | r::rs,L,R,hc,hs,hp,h=>by
  obtain⟨hr,hR,_,hc'⟩:=hc;simp only[D4];cases he:r.eff with
  |false=>have hq:=Hs hr he;rw[hq,hR]at hc';simpa using Ov hc' (bm.1 hs).2 hp.tail (λq hq=>h q (ak _ hq))
  | true=>
   cases hx:X r.i with
   |false=>simp only[Bool.and_false,eQ];rw[F2 (J_ hp hs he hx)]
   |true=>simp only[Bool.and_self,eO];rw[Ov hc' (bm.1 hs).2 hp.tail (λq hq=>h q (ak _ hq))];obtain⟨g1,g2⟩:=h r ai he hx;rw[S3 hr g1 g2,hR]
theorem Xv{n:Nat}{ops:Array Oper}{X Y:Nat->Bool}{i:Nat}:∀{rs:List Rec}{L:List Ent}{R:List Res},I_ P n ops L R rs L' R'->Fs rs->PC X rs->PC Y rs ->
  (∀r,r∈rs->r.eff=true->X r.i≠Y r.i->i∉Dl r/\i<r.Rin.length)->(D4 X R rs)[i]?=(D4 Y R rs)[i]?
 | [],L,R,_,_,_,_,_=>rfl
 | r :: rs, L, R, hc, hs, hp, hq, h => by
  obtain⟨hr,hR,_,hc'⟩:=hc;have hs':=(bm.1 hs).2;simp only[D4];cases he:r.eff with
  |false=>have hq':=Hs hr he;rw[hq',hR]at hc';simpa using Xv hc' hs' hp.tail hq.tail (λq hq=>h q (ak _ hq))
  | true=>
   cases hx:X r.i with
   | false=>
    cases hy:Y r.i with
    |false=>simp only[Bool.and_false,eQ];rw[F2 (J_ hp hs he hx),F2 (J_ hq hs he hy)]
    |true=>simp only[Bool.and_false,eQ,Bool.and_self,eO];have hl:=J_ hp hs he hx;rw[F2 hl,Ov hc' hs' hq.tail λq hq2 hqe hqy=>h q (ak _ hq2) hqe (by rw[hl q hq2 hqe,hqy];simp)];obtain⟨g1,g2⟩:=h r ai he (by rw[hx,hy];simp);rw[S3 hr g1 g2,hR]
   | true=>
    cases hy:Y r.i with
    |true=>simp only[Bool.and_self,eO];exact Xv hc' hs' hp.tail hq.tail (λq hq=>h q (ak _ hq))
    |false=>simp only[Bool.and_false,eQ,Bool.and_self,eO];have hl:=J_ hq hs he hy;rw[F2 hl,Ov hc' hs' hp.tail λq hq2 hqe hqx=>h q (ak _ hq2) hqe (by rw[hl q hq2 hqe,hqx];simp)];obtain⟨g1,g2⟩:=h r ai he (by rw[hx,hy];simp);rw[S3 hr g1 g2,hR]
theorem Kd{X Y:Nat->Bool}:∀{rs:List Rec}{R:List Res},(∀r,r∈rs->r.eff=true->X r.i=Y r.i)->D4 X R rs=D4 Y R rs
 | [],_,_=>rfl
 | r::rs,R,h=>by
  simp only[D4];cases he:r.eff with
  |false=>simpa using Kd (λq hq=>h q (ak _ hq))
  |true=>rw[h r ai he];cases Y r.i <;> simpa using Kd (λq hq=>h q (ak _ hq))
theorem V0{n:Nat}{ops:Array Oper}{q:Rec}:∀{rs:List Rec}{L:List Ent}{R:List Res},I_ P n ops L R rs L' R'->Fs rs->q∈rs->D4 (λi=>Nat.blt i q.i) R rs=q.Rin
 | [],L,R,_,_,h=>by cases h
 | r::rs,L,R,hc,hs,hq=>by
  obtain⟨hr,hR,_,hc'⟩:=hc;have hs':=(bm.1 hs).2;have hlt:=(bm.1 hs).1;rcases ah.1 hq with rfl|hq
  .rw[hR];refine F2 λx hx _=>?_;rcases ah.1 hx with rfl|hx
   .cases hb:Nat.blt x.i x.i with
    |false=>rfl
    |true=>rw[bG]at hb;omega
   .have:=hlt x hx;cases hb:Nat.blt x.i q.i with
    |false=>rfl
    |true=>rw[bG]at hb;omega
  .have h1:Nat.blt r.i q.i=true:=by rw[bG];exact hlt q hq
   simp only[D4,h1,bl];cases he:r.eff with
   |false=>have hq':=Hs hr he;rw[hq',hR]at hc';exact V0 hc' hs' hq
   |true=>exact V0 hc' hs' hq
theorem O6{n:Nat}{ops:Array Oper}{q:Rec}:∀{rs:List Rec}{L:List Ent}{R:List Res},I_ P n ops L R rs L' R'->Fs rs->q∈rs->D4 (λi=>Nat.ble i q.i) R rs=q.out.R
 | [],L,R,_,_,h=>by cases h
 | r::rs,L,R,hc,hs,hq=>by
  obtain⟨hr,hR,_,hc'⟩:=hc;have hs':=(bm.1 hs).2;have hlt:=(bm.1 hs).1;rcases ah.1 hq with rfl|hq
  .have h1:Nat.ble q.i q.i=true:=by simp
   have hno:∀x,x∈rs->x.eff=true->Nat.ble x.i q.i=false:=by
    intro x hx _;have:=hlt x hx;cases hb:Nat.ble x.i q.i with
    |false=>rfl
    |true=>have:=bp hb;omega
   simp only[D4,h1,bl];cases he:q.eff with
   |false=>simp only[eQ];rw[F2 hno,Hs hr he,hR]
   |true=>simp only[eO];rw[F2 hno]
  .have h1:Nat.ble r.i q.i=true:=by have:=hlt q hq;exact Nat.ble_eq_true_of_le (by omega)
   simp only[D4,h1,bl];cases he:r.eff with
   |false=>have hq':=Hs hr he;rw[hq',hR]at hc';exact O6 hc' hs' hq
   |true=>exact O6 hc' hs' hq
theorem Xw{n:Nat}{ops:Array Oper}{X:Nat->Bool}:∀{rs:List Rec}{L:List Ent}{R:List Res},I_ P n ops L R rs L' R'->(∀r,r∈rs->X r.i=true)->D4 X R rs=R'
 | [],L,R,hc,_=>hc.2
 | r::rs,L,R,hc,h=>by
  obtain⟨hr,hR,_,hc'⟩:=hc;simp only[D4,h r ai,bl];cases he:r.eff with
  |false=>have hq':=Hs hr he;rw[hq',hR]at hc';exact Xw hc' (λq hq=>h q (ak _ hq))
  |true=>exact Xw hc' (λq hq=>h q (ak _ hq))
theorem Ow{n:Nat}{ops:Array Oper}{q:Rec}:∀{rs:List Rec}{L:List Ent}{R:List Res},I_ P n ops L R rs L' R'->q∈rs->Aat P n ops q
 | [],L,R,_,h=>by cases h
 |r::rs,L,R,hc,hq=>by
  rcases ah.1 hq with rfl|hq
  .exact hc.1
  .exact Ow hc.2.2.2 hq
def Js(q:Rec)(e:Ent):Prop:=∀d,q.o.dst=some d->d≠e.t/\∀g,g∈e.p->g.1≠d
def Al2(rs:List Rec)(L0:List Ent)(X:Nat->Bool)(e:Ent):Prop:=
 (e∈L0/\∀q,q∈rs->X q.i=true->Js q e) \/
 (∃r,r∈rs/\X r.i=true/\r.o.dst=some e.t/\e.p=r.cur/\e.v=r.out.v/\∀q,q∈rs->r.i<q.i->X q.i=true->Js q e)
theorem Zj{n:Nat}{ops:Array Oper}:∀{rs:List Rec}{L:List Ent}{R:List Res},I_ P n ops L R rs L' R'->Fs rs->∀e,e∈L' ->
  (e∈L/\∀q,q∈rs->Js q e)\/(∃r,r∈rs/\r.o.dst=some e.t/\e.p=r.cur/\e.v=r.out.v/\∀q,q∈rs->r.i<q.i->Js q e)
 | [],L,R,hc,_,e,he=>by have:=hc.1;subst this;exact .inl ⟨he,λq hq=>by cases hq⟩
 | r :: rs, L, R, hc, hs, e, he => by
  obtain⟨hr,hR,_,hc'⟩:=hc;have hs':=(bm.1 hs).2;have hlt:=(bm.1 hs).1;rcases Zj hc' hs' e he with⟨h1,h2⟩|⟨x,h1,h2,h3,h4,h5⟩
  .unfold Ajh at h1;cases hd:r.o.dst with
   |none=>
    rw[hd]at h1;refine .inl ⟨h1,λq hq=>?_⟩;rcases ah.1 hq with rfl|hq
    .intro d hd';rw[hd]at hd';cases hd'
    .exact h2 q hq
   | some d=>
    rw[hd]at h1;unfold S4 at h1;rcases ah.1 h1 with rfl|h1
    .refine .inr ⟨r,ai,hd,rfl,rfl,λq hq hlt'=>?_⟩;rcases ah.1 hq with rfl|hq
     .omega
     .exact h2 q hq
    .rw[ar]at h1;obtain⟨h1,hf⟩:=h1;simp only[ac]at hf;refine .inl ⟨h1,λq hq=>?_⟩;rcases ah.1 hq with rfl|hq
     .intro d' hd';rw[hd]at hd';cases hd';refine⟨λe'=>?_,λg hg e'=>?_⟩
      .subst e';simp at hf
      .have:=(a9.1 hf.2) g hg;subst e';simp at this
     .exact h2 q hq
  .refine .inr ⟨x,ak _ h1,h2,h3,h4,λq hq hlt'=>?_⟩;rcases ah.1 hq with rfl|hq
   .have:=hlt x h1;omega
   .exact h5 q hq hlt'
theorem Zi{n : Nat}{ops : Array Oper}{q : Rec} : ∀{rs : List Rec}{L : List Ent}{R : List Res}, I_ P n ops L R rs L' R' -> Fs rs -> q ∈ rs -> ∀e, e ∈ q.need ->
  (e∈L/\∀x,x∈rs->x.i<q.i->Js x e)\/(∃r,r∈rs/\r.i<q.i/\r.o.dst=some e.t/\e.p=r.cur/\e.v=r.out.v/\∀x,x∈rs->r.i<x.i->x.i<q.i->Js x e)
 | [],L,R,_,_,h,_,_=>by cases h
 | r :: rs, L, R, hc, hs, hq, e, he => by
  obtain⟨hr,hR,hn,hc'⟩:=hc;have hs':=(bm.1 hs).2;have hlt:=(bm.1 hs).1;rcases ah.1 hq with rfl|hq
  .refine .inl ⟨hn e he,λx hx hlt'=>?_⟩;rcases ah.1 hx with rfl|hx
   .omega
   .have:=hlt x hx;omega
  .rcases Zi hc' hs' hq e he with⟨h1,h2⟩|⟨x,h1,h1',h2,h3,h4,h5⟩
   .unfold Ajh at h1;cases hd:r.o.dst with
    |none=>
     rw[hd]at h1;refine .inl ⟨h1,λq' hq' hl=>?_⟩;rcases ah.1 hq' with rfl|hq'
     .intro d hd';rw[hd]at hd';cases hd'
     .exact h2 q' hq' hl
    | some d=>
     rw[hd]at h1;unfold S4 at h1;rcases ah.1 h1 with rfl|h1
     .refine .inr ⟨r,ai,hlt q hq,hd,rfl,rfl,λq' hq' hlt' hl=>?_⟩;rcases ah.1 hq' with rfl|hq'
      .omega
      .exact h2 q' hq' hl
     .rw[ar]at h1;obtain⟨h1,hf⟩:=h1;simp only[ac]at hf;refine .inl ⟨h1,λq' hq' hl=>?_⟩;rcases ah.1 hq' with rfl|hq'
      .intro d' hd';rw[hd]at hd';cases hd';refine⟨λe'=>?_,λg hg e'=>?_⟩
       .subst e';simp at hf
       .have:=(a9.1 hf.2) g hg;subst e';simp at this
      .exact h2 q' hq' hl
   .refine .inr ⟨x,ak _ h1,h1',h2,h3,h4,λq' hq' hlt' hl=>?_⟩;rcases ah.1 hq' with rfl|hq'
    .have:=hlt x h1;omega
    .exact h5 q' hq' hlt' hl
end
end Go.SL
namespace Go.SL
variable{d i:Nat}{X X':Nat->Bool}{q:Rec}{v:Value}
section
variable{P:Program}{C:Ctx}{S S':Nat->Prop}{w w':World}{ρ ρ':fh}{R R' R0:List Res}{L L' L0:List Ent}{a:Act}{n:Nat}{ops:Array Oper}{rs:List Rec}
def Closed(ops:Array Oper)(X:Nat->Bool):Prop:=∀j o,X j=true->ops[j]?=some o->∀e,e∈o.after->Region.binds .any e=true->X e.on=true
theorem W5:∀N,(O8 ops N).length=N
 |0=>rfl
 |N+1=>by simp[O8,W5 N]
theorem Abr{m:Nat}(h:Abt m i=true):m.testBit i=true:=by have h1:(m >>> i) &&& 1=1:=aj h;unfold Nat.testBit;rw[Nat.and_comm,h1];rfl
theorem Amz{l:fc}{i:Nat}:∀{es:List Edge}{m:Nat},(orE l es m).testBit i=true->m.testBit i=true\/∃e,e∈es/\Region.binds .any e=true/\(e.on=i\/∃m',l[e.on]?=some m'/\m'.testBit i=true)
 | [],m,h=>.inl h
 | e :: r, m, h => by
  simp only[orE]at h;rcases Amz h with h|⟨e',h1,h2⟩
  .cases hb:(Region.binds .any e&&Nat.blt e.on l.length) with
   |false=>rw[hb]at h;exact .inl h
   | true=>
    rw[hb]at h;simp only[eO]at h;simp only[ac]at hb;have h':(m ||| ((1 <<< e.on) ||| (l[e.on]?).getD 0)).testBit i=true:=h;simp only[Nat.testBit_or,aE]at h';rcases h' with h'|h'|h'
    .exact .inl h'
    .refine .inr ⟨e,ai,hb.1,.inl ?_⟩;rw[Nat.testBit_shiftLeft]at h';simp only[ac,dF]at h';rcases bc e.on i with hlt|hge
     .have:=Nat.testBit_one_eq_true_iff_self_eq_zero.1 h'.2;omega
     .omega
    grind
  grind
theorem Avx(hX:Closed ops X)(N:Nat):∀{j i:Nat}{m:Nat},(O8 ops N)[j]?=some m->m.testBit i=true->X j=true->X i=true:=by
 induction N with
 |zero=>intro j i l h _ _;simp[O8]at h
 | succ N ih=>
  intro j i m h hi hj;simp only[O8]at h;rcases Dc h with h|⟨e,h⟩
  .exact ih h hi hj
  .rw[W5]at e;subst e;cases ho:ops[j]? with
   |none=>rw[ho]at h;subst h;simp at hi
   | some o=>
    rw[ho]at h;simp only at h;subst h;rcases Amz hi with hi|⟨e,he,hb,hi⟩
    .simp at hi
    .have hon:=hX j o hj ho e (Array.mem_toList_iff.1 he) hb;grind
theorem Uf(hX:Closed ops X){j:Nat}(h:Abt (((O8 ops ops.size)[j]?).getD 0) i=true)(hj:X j=true):X i=true:=by have h:=Abr h;grind[Avx]
structure Al4(ops:Array Oper)(L0:List Ent)(rs:List Rec):Prop where
 flat:∀e,e∈L0->e.p=[]
 back:∀r,r∈rs->∀e,e∈r.o.after->Region.binds .any e=true->e.on<r.i
 pair:∀r q,r∈rs->q∈rs->r.i<q.i->Abt (((O8 ops ops.size)[q.i]?).getD 0) r.i=true\/Po r q=true
theorem Akw(h:Ru ops L0 rs=true):Al4 ops L0 rs:=by
 unfold Ru at h;simp only[ac,a9]at h;obtain⟨⟨h1,h2⟩,h3⟩:=h;refine⟨λe he=>by simpa using h1 e he,λr hr e he hb=>?_,λr q hr hq hlt=>?_⟩
 .have:=h2 r hr;rw[Array.all_eq_true_iff_forall_mem]at this;have:=this e he;rw[hb]at this;simpa[e_]using this
 .have:=h3 r hr q hq;simp only[aE]at this;rcases this with h|h|h
  .have:=bp h;omega
  .exact .inl h
  .exact .inr h
theorem Zf{need:List Ent}(h:clear need d=true):∀e,e∈need->d≠e.t/\∀g,g∈e.p->g.1≠d:=by
 intro e he;unfold clear at h;have:=(a9.1 h) e he;simp only[ac]at this;refine⟨λe'=>?_,λg hg e'=>?_⟩
 .subst e';simp at this
 .have h2:=(a9.1 this.2) g hg;subst e';simp at h2
structure Ayn(r q:Rec):Prop where
 eff:r.eff=false\/q.eff=false
 d1:∀d,r.o.dst=some d->(∀e,e∈q.need->d≠e.t/\∀g,g∈e.p->g.1≠d)/\(∀g,g∈q.cur->g.1≠d)/\q.o.dst≠some d
 d2:∀d,q.o.dst=some d->∀e,e∈r.need->d≠e.t/\∀g,g∈e.p->g.1≠d
 e1:r.eff=true->∀i,i∈M8 q->i∉Dl r/\i<r.Rin.length
 e2:q.eff=true->∀i,i∈M8 r->i∉Dl q/\i<q.Rin.length
theorem F1{r:Rec}(h:Po r q=true):Ayn r q:=by
 unfold Po at h;simp only[ac]at h;obtain⟨⟨⟨⟨h1,h2⟩,h3⟩,h4⟩,h5⟩:=h;refine⟨?_,λd hd=>?_,λd hd=>?_,λhe i hi=>?_,λhe i hi=>?_⟩
 .simpa using h1
 .rw[hd]at h2;simp only[ac]at h2;obtain⟨⟨g1,g2⟩,g3⟩:=h2;refine⟨Zf g1,λg hg e=>?_,λe=>?_⟩
  .simp only[aS]at g2;have:=(bq.1 g2) g hg;subst e;simp at this
  .rw[e]at g3;simp at g3
 .rw[hd]at h3;exact Zf h3
 .rw[he]at h4;simp only[aC,aO]at h4;have:=(a9.1 h4) i hi;simp only[ac,aS]at this;refine⟨λhm=>?_,by have:=this.2;simpa[e_]using this⟩;rw[←Q3]at hm;rw[hm]at this;simp at this
 .rw[he]at h5;simp only[aC,aO]at h5;have:=(a9.1 h5) i hi;simp only[ac,aS]at this;refine⟨λhm=>?_,by have:=this.2;simpa[e_]using this⟩;rw[←Q3]at hm;rw[hm]at this;simp at this
def J(n:Nat)(C:Ctx)(L0:List Ent)(R0:List Res)(rs:List Rec)(X:Nat->Bool)(a:Act)(w:World):Prop:=
 a.defers=C.df/\a.tmps.size=n/\∃S ρ,Inv C S w ρ (D4 X R0 rs)/\(∀e,Al2 rs L0 X e->Wn S w ρ a e) /\
  ∀r i,r∈rs->r.fl=some i->X r.i=false->∃h,ρ[i]?=some h/\h.oneCell'=false
structure As6(C:Ctx)(rs:List Rec):Prop where
 inj:∀r q i,r∈rs->q∈rs->r.fl=some i->q.fl=some i->r=q
 low:∀r i,r∈rs->r.fl=some i->C.h.length<=i
theorem Lz{r:Rec}{i:Nat}:∀{rs:List Rec},r∈rs->r.fl=some i->i∈I7 rs
 | [],h,_=>by cases h
 | x::rs,h,hf=>by
  rcases ah.1 h with rfl|h
  .simp[I7,hf]
  .have:=Lz h hf;unfold I7;grind
theorem Agb{l:fc}(h:(Ej l i).isNone=true):i∉l:=by
 induction l with
 |nil=>simp
 | cons a r ih=>
  simp only[Ej]at h;cases hb:Nat.beq a i with
  |true=>rw[hb]at h;simp at h
  |false=>
   rw[hb]at h;simp only[eQ]at h;intro hm;rcases ah.1 hm with rfl|hm
   .simp at hb
   grind
theorem Ts:∀{rs:List Rec},Fe (I7 rs)=true->∀r q i,r∈rs->q∈rs->r.fl=some i->q.fl=some i->r=q
 | [],_,r,q,i,h,_,_,_=>by cases h
 | x :: rs, hn, r, q, i, hr, hq, h1, h2 => by
  cases hx:x.fl with
  | none=>
   simp only[I7,hx]at hn;rcases ah.1 hr with rfl|hr
   .rw[hx]at h1;cases h1
   .rcases ah.1 hq with rfl|hq
    .rw[hx]at h2;cases h2
    .exact Ts hn r q i hr hq h1 h2
  | some j=>
   simp only[I7,hx,Fe,ac]at hn;have hnot:=Agb hn.1;rcases ah.1 hr with e1|hr2
   .rcases ah.1 hq with e2|hq2
    .rw[e1,e2]
    .rw[e1,hx]at h1;cases h1;exact absurd (Lz hq2 h2) hnot
   .rcases ah.1 hq with e2|hq2
    .rw[e2,hx]at h2;cases h2;exact absurd (Lz hr2 h1) hnot
    .exact Ts hn.2 r q i hr2 hq2 h1 h2
theorem Inv.birth(h:Inv C S w ρ R){r:Res}{d:Value}(hi:R[i]?=some r)(hd:ρ[i]?=some d)(hdd:d.oneCell'=false)(hC:C.h.length<=i)
  (hw:∀b,b<w.heap.size->w'.heap[b]?=w.heap[b]?)(hsz:w.heap.size<=w'.heap.size)(ho:w'.os=w.os)(ht:Tp w w')(hp:w'.output=w.output)
  (hok:r.ok S w' (ρ.set i v) v)(hf:∀b,r.foot v b->w.heap.size<=b/\b<w'.heap.size):Inv C S w' (ρ.set i v) R/\Pb ρ (ρ.set i v):=by
 have hil:i<ρ.length:=(ab.1 hd).1;have hpre:Pb ρ (ρ.set i v):=by intro j x hj hx;grind
 have key:∀(j:Nat) x,(ρ.set i v)[j]?=some x->(j=i/\x=v)\/(j≠i/\ρ[j]?=some x):=by grind
 refine⟨⟨by simp[h.len],λj r1 v1 h1 h2=>?_,λj k r1 r2 v1 v2 b hjk h1 h2 h3 h4 h5 h6=>?_,λj r1 v1 b h1 h2 h3=>?_,h.sub,λb hb=>⟨aQ (h.sup b hb).1 hsz,(h.sup b hb).2⟩,λb hb hf=>(hw b (aQ hb h.size)).trans (h.frm b hb hf),aG h.size hsz,ho.trans h.os,ht.trans h.tape,hp.trans h.output,λj x hj=>?_,h.gl⟩,hpre⟩
 .rcases key j v1 h2 with⟨rfl,rfl⟩|⟨hj,h2⟩
  .rw[hi]at h1;cases h1;exact hok
  .exact(h.ok j r1 v1 h1 h2).monoA (λ_ h=>h) (λb hb=>hw b (h.sup b hb).1) hpre (λb hb=>hw b (h.own j r1 v1 b h1 h2 hb).2.1)
 .rcases key j v1 h3 with⟨rfl,rfl⟩|⟨hj,h3'⟩
  .rcases key k v2 h4 with⟨rfl,_⟩|⟨hk,h4'⟩
   .exact hjk rfl
   .rw[hi]at h1;cases h1;have:=(hf b h5).1;have:=(h.own k r2 v2 b h2 h4' h6).2.1;omega
  .rcases key k v2 h4 with⟨rfl,rfl⟩|⟨hk,h4'⟩
   .rw[hi]at h2;cases h2;have:=(hf b h6).1;have:=(h.own j r1 v1 b h1 h3' h5).2.1;omega
   .exact h.dis j k r1 r2 v1 v2 b hjk h1 h2 h3' h4' h5 h6
 .rcases key j v1 h2 with⟨rfl,rfl⟩|⟨hj,h2⟩
  .rw[hi]at h1;cases h1;obtain⟨g1,g2⟩:=hf b h3;exact⟨λhb=>by have:=(h.sup b hb).1;omega,g2,.inr (aG h.size g1)⟩
  .obtain⟨g1,g2,g3⟩:=h.own j r1 v1 b h1 h2 h3;exact⟨g1,aQ g2 hsz,g3⟩
 .have hjl:j<C.h.length:=(ab.1 hj).1;rw[bS (by omega)];exact h.pre j x hj
theorem An2{e:Ent}(h:Wn S w ρ a e)(hS:∀b,S b->S' b)(hw:∀b,S b->w'.heap[b]?=w.heap[b]?)(hρ:Pb ρ ρ')(h1:d≠e.t)(h2:∀g,g∈e.p->g.1≠d):Wn S' w' ρ' (a.put (some d) v) e:=by
 have hp:e.p.all (λg=>!(Nat.beq g.1 d))=true:=by
  rw[a9];intro g hg;cases hb:Nat.beq g.1 d with
  |false=>rfl
  |true=>exact absurd (aj hb) (h2 g hg)
 refine⟨λhpt=>?_,λhpt=>?_⟩
 .obtain⟨x,hx,hr⟩:=h.1 ((Lt hp).1 hpt);exact⟨x,by rw[Kr h1];exact hx,hr.monoA hS hw hρ⟩
 .rw[Kr h1];exact h.2 λk=>hpt ((Lt hp).2 k)
theorem Asw(hch:I_ P n ops L0 R0 rs L' R')(hs:Fs rs)(hany:Al4 ops L0 rs)(hfl:As6 C rs)(hX:Closed ops X)(hq:q∈rs)(hqX:X q.i=false)
  (hready:∀e,e∈q.o.after->Region.binds .any e=true->X e.on=true)(hX':∀j,X' j=(X j || decide (j=q.i)))(hJ:J n C L0 R0 rs X a w)
  {K:Act->World->Prop}(hK:∀a' w',J n C L0 R0 rs X' a' w'->K a' w'):K9 P ops q.i K a w:=by
 obtain⟨hdef,hsize,S,ρ,hI,hE,hD⟩:=hJ;have hrec:=Ow hch hq;have hXc':Closed ops X':=by
  intro j o hj ho e he hb;rw[hX']at hj ⊢;simp only[aE,dF]at hj ⊢;rcases hj with hj|rfl
  .exact .inl (hX j o hj ho e he hb)
  .rw[hrec.op]at ho;cases ho;exact .inl (hready e he hb)
 have hq':X' q.i=true:=by rw[hX'];simp
 have ahead:∀r,r∈rs->r.i<q.i->Abt (((O8 ops ops.size)[q.i]?).getD 0) r.i=true->X r.i=true:=by
  intro r hr hlt hm;have:=Uf hXc' hm hq';rw[hX']at this;simp only[aE,dF]at this;rcases this with h|h
  .exact h
  .omega
 have behind:∀r,r∈rs->q.i<r.i->X r.i=true->Po q r=true:=by
  intro r hr hlt hx;rcases hany.pair q r hq hr hlt with h|h
  .have:=Uf hX h hx;rw[hqX]at this;cases this
  .exact h
 have early:∀r,r∈rs->r.i<q.i->X r.i=false->Po r q=true:=by
  intro r hr hlt hx;rcases hany.pair r q hr hq hlt with h|h
  .have:=ahead r hr hlt h;rw[hx]at this;cases this
  .exact h
 have uniq:∀r,r∈rs->r.i=q.i->r=q:=by
  intro r hr hi;obtain⟨k,hk,rfl⟩:=cu hr;obtain⟨m,hm,rfl⟩:=cu hq;have hp:=cg.1 hs;rcases bM k m with h|h|h
  .have:=hp k m hk hm h;omega
  .subst h;rfl
  .have:=hp m k hm hk h;omega
 have hPC:PC X rs:=by
  intro r r2 hr hr2 he he2 hlt hx;rcases hany.pair r r2 hr hr2 hlt with h|h
  .exact Uf hX h hx
  .rcases(F1 h).eff with h|h
   .rw[he]at h;cases h
   .rw[he2]at h;cases h
 have hPCq:PC (λi=>Nat.blt i q.i) rs:=by intro r r2 _ _ _ _ hlt hx;rw[bG]at hx ⊢;omega
 have hneed:B0 S w ρ a q.need:=by
  intro e he;refine hE e ?_;have late:∀x,x∈rs->q.i<x.i->X x.i=true->Js x e:=λx hx hlt hxx d hd=>(F1 (behind x hx hlt hxx)).d2 d hd e he;rcases Zi hch hs hq e he with⟨h1,h2⟩|⟨r,h1,h1',h2,h3,h4,h5⟩
  .refine .inl ⟨h1,λx hx hxx=>?_⟩;rcases bM x.i q.i with h|h|h
   .exact h2 x hx h
   .rw[uniq x hx h]at hxx;rw[hqX]at hxx;cases hxx
   .exact late x hx h hxx
  .refine .inr ⟨r,h1,?_,h2,h3,h4,λx hx hlt hxx=>?_⟩
   .cases hxr:X r.i with
    |true=>rfl
    |false=>exact absurd rfl (((F1 (early r h1 h1' hxr)).d1 _ h2).1 e he).1
   .rcases bM x.i q.i with h|h|h
    .exact h5 x hx hlt h
    .rw[uniq x hx h]at hxx;rw[hqX]at hxx;cases hxx
    .exact late x hx h hxx
 have hown:q.eff=true->D4 X R0 rs=q.Rin/\D4 X' R0 rs=q.out.R:=by
  intro he;have key:∀r,r∈rs->r.eff=true->X r.i=Nat.blt r.i q.i:=by
   intro r hr hre;rcases bM r.i q.i with h|h|h
   .have hb:Nat.blt r.i q.i=true:=by rw[bG];exact h
    rw[hb];rcases hany.pair r q hr hq h with h'|h'
    .exact ahead r hr h h'
    .rcases(F1 h').eff with k|k
     .rw[hre]at k;cases k
     .rw[he]at k;cases k
   .rw[uniq r hr h,hqX];cases hb:Nat.blt q.i q.i with
    |false=>rfl
    |true=>rw[bG]at hb;omega
   .have hb:Nat.blt r.i q.i=false:=by
     cases hb:Nat.blt r.i q.i with
     |false=>rfl
     |true=>rw[bG]at hb;omega
    rw[hb];cases hx:X r.i with
    |false=>rfl
    |true=>
     rcases(F1 (behind r hr h hx)).eff with k|k
     .rw[he]at k;cases k
     .rw[hre]at k;cases k
  refine⟨(Kd key).trans (V0 hch hs hq),(Kd (Y:=λi=>Nat.ble i q.i) λr hr hre=>?_).trans (O6 hch hs hq)⟩;rw[hX',key r hr hre];rcases bM r.i q.i with h|h|h
  .have h1:Nat.blt r.i q.i=true:=by rw[bG];exact h
   have h2:Nat.ble r.i q.i=true:=Nat.ble_eq_true_of_le (by omega);rw[h1,h2];rfl
  .rw[h];simp
  .have h2:Nat.ble r.i q.i=false:=by
    cases hb:Nat.ble r.i q.i with
    |false=>rfl
    |true=>have:=bp hb;omega
   have h1:Nat.blt r.i q.i=false:=by
    cases hb:Nat.blt r.i q.i with
    |false=>rfl
    |true=>rw[bG]at hb;omega
   rw[h1,h2];simp;omega
 have hquiet:q.eff=false->D4 X' R0 rs=D4 X R0 rs:=by
  intro he;refine Kd λr hr hre=>?_;rw[hX'];have:¬(r.i=q.i):=λh=>by rw[uniq r hr h,he]at hre;cases hre
  simp[this]
 have htouch:q.eff=false->∀i,i∈M8 q->q.Rin[i]?=(D4 X R0 rs)[i]?:=by
  intro he i hi;rw[←V0 hch hs hq];refine Xv hch hs hPCq hPC λr hr hre hne=>?_;rcases bM r.i q.i with h|h|h
  .have hb:Nat.blt r.i q.i=true:=by rw[bG];exact h
   have hxr:X r.i=false:=by
    cases hx:X r.i with
    |false=>rfl
    |true=>rw[hb,hx]at hne;exact absurd rfl hne
   exact(F1 (early r hr h hxr)).e1 hre i hi
  .rw[uniq r hr h,he]at hre;cases hre
  .have hb:Nat.blt r.i q.i=false:=by
    cases hb:Nat.blt r.i q.i with
    |false=>rfl
    |true=>rw[bG]at hb;omega
   have hxr:X r.i=true:=by
    cases hx:X r.i with
    |true=>rfl
    |false=>rw[hb,hx]at hne;exact absurd rfl hne
   exact(F1 (behind r hr h hxr)).e2 hre i hi
 have hev:q.fl=none->∃out,Ix P q.need q.cur (D4 X R0 rs) q.c q.o=some out/\out.v=q.out.v/\out.c=q.out.c/\out.R=D4 X' R0 rs:=by
  intro hfn;cases he:q.eff with
  |true=>obtain⟨h1,h2⟩:=hown he;exact⟨q.out,by rw[h1];exact hrec.ev hfn,rfl,rfl,h2.symm⟩
  |false=>
   have hqq:Gb q.c q.o=true:=by have:=hrec.eff;rw[he,hfn]at this;simpa using this.symm
   have ht:∀i,i∈deepen q.Rin (Kl q.o.op q.need)++Aro q.c q.Rin q.need->q.Rin[i]?=(D4 X R0 rs)[i]?:=λi hi=>htouch he i (by unfold M8;rw[hfn];exact hi);obtain⟨_,h2⟩:=Wu hqq ht (hrec.ev hfn);exact⟨_,h2,rfl,rfl,(hquiet he).symm⟩
 have entries:∀e,Al2 rs L0 X' e->(Al2 rs L0 X e/\Js q e)\/(q.o.dst=some e.t/\e.p=q.cur/\e.v=q.out.v):=by
  intro e he;have mono:∀x,x∈rs->X x.i=true->X' x.i=true:=λx _ hx=>by rw[hX',hx];rfl
  rcases he with⟨h1,h2⟩|⟨r,h1,h2,h3,h4,h5,h6⟩
  .exact .inl ⟨.inl ⟨h1,λx hx hxx=>h2 x hx (mono x hx hxx)⟩,h2 q hq hq'⟩
  .by_cases hri:r.i=q.i
   .rw[uniq r h1 hri]at h3 h4 h5;exact .inr ⟨h3,h4,h5⟩
   .have hxr:X r.i=true:=by
     rw[hX']at h2;simp only[aE,dF]at h2;exact h2.resolve_right hri
    refine .inl ⟨.inr ⟨r,h1,hxr,h3,h4,h5,λx hx hlt hxx=>h6 x hx hlt (mono x hx hxx)⟩,?_⟩;rcases bc r.i q.i with h|h
    .exact h6 q hq h hq'
    .have hp:=(F1 (behind r h1 (by omega) hxr));intro d hd;obtain⟨_,g2,g3⟩:=hp.d1 d hd;refine⟨λe'=>g3 (by rw[h3,e']),λg hg=>?_⟩;rw[h4]at hg;exact g2 g hg
 have deads:∀ρ',Pre ρ ρ'->∀r i,r∈rs->r.fl=some i->X' r.i=false->∃h,ρ'[i]?=some h/\h.oneCell'=false:=by intro ρ' hpre r i hr hfi hx;rw[hX']at hx;simp only[aA]at hx;obtain⟨h,g1,g2⟩:=hD r i hr hfi hx.1;exact⟨h,hpre _ _ g1,g2⟩
 have fin:∀v w' S' ρ',Inv C S' w' ρ' (D4 X' R0 rs)->(∀b,S b->S' b)->(∀b,S b->w'.heap[b]?=w.heap[b]?)->Pb ρ ρ' ->
   (∀r i,r∈rs->r.fl=some i->X' r.i=false->∃h,ρ'[i]?=some h/\h.oneCell'=false)->(pt a q.cur->RdA S' w' ρ' v q.out.v)->(pt a q.cur\/v=undef)->K (a.put q.o.dst v) w':=by
  intro v w' S' ρ' hinv hsub hsame hpre hdead hrd hv;refine hK _ _ ⟨?_,?_,S',ρ',hinv,λe he=>?_,hdead⟩
  .cases hd:q.o.dst <;> exact hdef
  .cases hd:q.o.dst <;> simp[Act.put,hsize]
  .rcases entries e he with⟨h1,h2⟩|⟨h1,h2,h3⟩
   .cases hd:q.o.dst with
    |none=>have hee:=hE e h1;refine⟨λhp=>?_,hee.2⟩;obtain⟨x,hx,hr⟩:=hee.1 hp;exact⟨x,hx,hr.monoA hsub hsame hpre⟩
    |some d=>obtain⟨g1,g2⟩:=h2 d hd;exact An2 (hE e h1) hsub hsame hpre g1 g2
   .rw[h1];obtain⟨d1,d2⟩:=hrec.dst e.t h1;refine⟨λhp=>⟨v,Nc (by rw[hsize];exact d1),by rw[h3];exact hrd ((Lt d2).1 (by rw[←h2];exact hp))⟩,λhp=>?_⟩;rw[h2]at hp;have hnp:¬pt a q.cur:=λk=>hp ((Lt d2).2 k);rw[hv.resolve_left hnp];exact Nc (by rw[hsize];exact d1)
 obtain⟨hw1,hw2⟩:=Ab2 hneed hrec.guard;unfold K9;simp only[hrec.op];cases hfl':q.fl with
 | none=>
  obtain⟨out,ev1,ev2,ev3,ev4⟩:=hev hfl';by_cases hpt:pt a q.cur
  .rw[eT (hw1.2 hpt)];refine⟨Y8 ev1,Ahs hI hneed hpt ev1 (λx hx=>?_) λv w' S' ρ' hA=>?_⟩
   .rw[ev3]at hx;exact Vm hneed hrec.cs (hrec.ok x hx) hpt
   .rw[ev4,ev2]at hA;exact fin v w' S' ρ' hA.inv hA.sub hA.same hA.pre.a (deads ρ' hA.pre) (λ_=>hA.rd) (.inl hpt)
  .have hnw:¬(Region.wanted q.o (yielded ops a.tmps)=true):=λh=>hpt (hw1.1 h);rw[eU hnw];have hne:q.cur.isEmpty=false:=by
    cases hc:q.cur.isEmpty with
    |false=>rfl
    |true=>simp at hc;rw[hc]at hpt;exact absurd B9 hpt
   have hg:=hrec.gb;unfold Nq at hg;rw[hne]at hg;simp only[aO,ac,aE,aS]at hg;obtain⟨ρ',hI',hpre⟩:=hI.skip (yQ ev1 hg.1 λhr x hx=>vU hneed hrec.cs hr hne (hg.2.resolve_left (by rw[hr];simp)) (hrec.ok x (by rw[←ev3];exact hx)) hpt);rw[ev4]at hI';cases hd:q.o.dst with
   |none=>have:=hrec.nodst hd;rw[hne]at this;cases this
   |some d=>have:=fin undef w S ρ' hI' (λ_ h=>h) (λ_ _=>rfl) hpre.a (deads ρ' hpre) (λh=>absurd h hpt) (.inr rfl);rw[hd]at this;exact this
 | some i=>
  have hspec:=Rl (hrec.flo i hfl');have heff:q.eff=false:=by rw[hrec.eff,hfl'];rfl
  have hcR:=hquiet heff;by_cases hpt:pt a q.cur
  .rw[eT (hw1.2 hpt)];obtain⟨dd,k1,k2⟩:=hD q i hq hfl' hqX;have hil:i<ρ.length:=(ab.1 k1).1;have htr:∀{r':Res},q.Rin[i]?=some r'->(D4 X R0 rs)[i]?=some r':=λg4=>by rw[←htouch heff i (by unfold M8;rw[hfl'];simp)];exact g4
   have hpre0:∀v,Pb ρ (ρ.set i v):=by
    intro v j x hj hx;rw[aK];split
    .rename_i e;subst e;rw[k1]at hj;cases hj;rw[k2]at hx;cases hx
    .exact hj
   have hdeads:∀v:Value,∀r j,r∈rs->r.fl=some j->X' r.i=false->∃h,(ρ.set i v)[j]?=some h/\h.oneCell'=false:=by intro v r j hr hfj hx;rw[hX']at hx;simp only[aA,dG]at hx;obtain⟨h,m1,m2⟩:=hD r j hr hfj hx.1;refine⟨h,?_,m2⟩;rw[bS (λe=>hx.2 (by subst e;rw[hfl.inj r q i hr hq hfj hfl']))];exact m1
   rcases hspec with⟨t,z,cells,r',g1,g2,g3,g4,g5⟩|⟨t,l,c0,o1,r1,r',c1,g1,g4,g2,g3,g6,g5⟩
   .have hsame:(Res.box t cells)=r':=(Vm hneed hrec.cs (hrec.ok (.flt i (.box t cells) r') (by rw[g5])) hpt:Cl.ok P (.flt i (.box t cells) r'));subst hsame;have hRi:=htr g4;have hold:∀b,b<w.heap.size->(w.alloc (.cells z.cells t)).heap[b]?=w.heap[b]?:=λb hb=>Bq _ _ _ hb;have hcells:Ap (Rd S w ρ) z.cells.toList cells:=Ir g3;obtain⟨hI',hpre⟩:=hI.birth (w':=w.alloc (.cells z.cells t)) (v:=.pointer (some ⟨w.heap.size,0,none⟩)) hRi k1 k2 (hfl.low q i hq hfl') hold (by simp) rfl ⟨rfl,λ_=>by first|exact ag _|exact aR _⟩ rfl
     (.inr ⟨_,z.cells,rfl,E4 _ _,hcells.mono λ_ _ h=>h.monoA (λ_ h=>h) (λb hb=>hold b (hI.sup b hb).1) (hpre0 _)⟩)
     (λb hb=>by simp[Res.foot]at hb;subst hb;simp)
    refine⟨(λc hc=>by rw[g1]at hc;cases hc),Da (v:=.pointer (some ⟨w.heap.size,0,none⟩)) (w':=w.alloc (.cells z.cells t)) ?_ (fin _ _ S _ (by rw[hcR];exact hI') (λ_ h=>h) (λb hb=>hold b (hI.sup b hb).1) hpre (hdeads _) ?_ (.inl hpt))⟩
    .have he:execOp a.eval q.o=execOp a.eval {q.o with op:=.alloc t}:=by rw[←g1]
     rw[he];simp[execOp,Instr.alloc,newVar,newRow,Ga g2]
    .intro _;rw[g5];exact .d (.o (by simp[hil]))
   .have hcl:Cl.ok P (.fltm i c1 r1 r'):=Vm hneed hrec.cs (hrec.ok _ (by rw[g5])) hpt;obtain⟨hc1,hsame⟩:=hcl;subst hsame;have hRi:=htr g4;obtain⟨l0,nn,cs,e,r2,m1,m2,m3,m4,m5,m6⟩:=Y9 (S:=S) (w:=w) g2 (λx hx=>by rw[g6]at hx;cases hx;exact hc1) (λb hb=>(hI.sup b hb).1);have hr2:r2=r1:=by rw[g3]at m3;simpa using m3.symm
    subst hr2;have hold:∀b,b<w.heap.size->(w.alloc (.cells cs e)).heap[b]?=w.heap[b]?:=λb hb=>Bq _ _ _ hb;have hlk:=A3 hneed hpt m1;obtain⟨hI',hpre⟩:=hI.birth (w':=w.alloc (.cells cs e)) (v:=.slice (some ⟨w.heap.size,0,none⟩) nn nn) hRi k1 k2 (hfl.low q i hq hfl') hold (by simp) rfl ⟨rfl,λ_=>by first|exact ag _|exact aR _⟩ rfl
     (.inr (m5 _)) (λb hb=>by rw[m6 b hb];simp)
    refine⟨(λc hc=>by rw[g1]at hc;cases hc),Da (v:=.slice (some ⟨w.heap.size,0,none⟩) nn nn) (w':=w.alloc (.cells cs e)) ?_ (fin _ _ S _ (by rw[hcR];exact hI') (λ_ h=>h) (λb hb=>hold b (hI.sup b hb).1) hpre (hdeads _) ?_ (.inl hpt))⟩
    .have he:execOp a.eval q.o=execOp a.eval {q.o with op:=.makeSlice t l l}:=by rw[←g1]
     rw[he];simp only[execOp,hlk,eX,m4];rfl
    .intro _;rw[g5];exact .d (.os (by simp[hil]) rfl)
  .have hnw:¬(Region.wanted q.o (yielded ops a.tmps)=true):=λh=>hpt (hw1.1 h);rw[eU hnw];have hne:q.cur.isEmpty=false:=by
    cases hc:q.cur.isEmpty with
    |false=>rfl
    |true=>simp at hc;rw[hc]at hpt;exact absurd B9 hpt
   cases hd:q.o.dst with
   |none=>have:=hrec.nodst hd;rw[hne]at this;cases this
   |some d=>have:=fin undef w S ρ (by rw[hcR];exact hI) (λ_ h=>h) (λ_ _=>rfl) (Pre.refl ρ).a (deads ρ (Pre.refl _)) (λh=>absurd h hpt) (.inr rfl);rw[hd]at this;exact this
def unl(listed:Array Bool):Nat:=(listed.toList.filter λb=>!b).length
theorem Auq{listed:Array Bool}(h:listed[i]?=some false):unl (listed.setIfInBounds i true)+1=unl listed:=by
 obtain⟨l⟩:=listed;simp only[unl,List.setIfInBounds_toArray];simp only[cF]at h;induction l generalizing i with
 |nil=>simp at h
 | cons x l ih=>
  cases i with
  |zero=>simp at h;subst h;simp
  |succ i=>grind
theorem Ayi(hch:I_ P n ops L0 R0 rs L' R')(hidx:rs.map (·.i)=List.range ops.size)(hany:Al4 ops L0 rs)(hfl:As6 C rs){ro:Option Nat}{Q:Exit->Act->World->Prop}(hQ:∀a' w',Sat n C L' R' a' w'->Q .normal a' w') :
  ∀(fuel:Nat)(listed:Array Bool)(a:Act)(w:World),listed.size=ops.size->unl listed<=fuel->Closed ops (λi=>listed.getD i false)->J n C L0 R0 rs (λi=>listed.getD i false) a w ->
   wpAnyIn (FR ro) 0 P .any ops Q fuel listed a w:=by
 have hs:Fs rs:=by
  have:(rs.map (·.i)).Pairwise (· < ·):=by rw[hidx];exact List.pairwise_lt_range
  rw[cK]at this;exact this
 have hget:∀i,i<ops.size->∃r,r∈rs/\r.i=i:=by
  intro i hi;have:i∈rs.map (·.i):=by rw[hidx];simpa using hi
  obtain⟨r,hr,e⟩:=an.1 this;exact⟨r,hr,e⟩
 have hlt:∀r,r∈rs->r.i<ops.size:=by intro r hr;have:r.i∈rs.map (·.i):=an.2 ⟨r,hr,rfl⟩;rw[hidx]at this;simpa using this
 have done:∀(listed:Array Bool)(a:Act)(w:World),listed.size=ops.size->(∀i,i<ops.size->listed.getD i false=true)->J n C L0 R0 rs (λi=>listed.getD i false) a w->Q .normal a w:=by
  intro listed a w _ hall ⟨h1,h2,S,ρ,h3,h4,_⟩;have hX:∀r,r∈rs->listed.getD r.i false=true:=λr hr=>hall _ (hlt r hr);refine hQ a w ⟨h1,h2,S,ρ,by rw[Xw hch hX]at h3;exact h3,λe he=>h4 e ?_⟩;rcases Zj hch hs e he with⟨g1,g2⟩|⟨r,g1,g2,g3,g4,g5⟩
  .exact .inl ⟨g1,λq hq _=>g2 q hq⟩
  .exact .inr ⟨r,g1,hX r g1,g2,g3,g4,λq hq hl _=>g5 q hq hl⟩
 have none_ready:∀(listed:Array Bool),listed.size=ops.size->Region.ready .any ops listed=[]->∀i,i<ops.size->listed.getD i false=true:=by
  intro listed hsz hr i;induction i using Nat.strongRecOn with
  | _ i ih=>
   intro hi;cases hx:listed.getD i false with
   |true=>rfl
   | false=>
    exfalso;obtain⟨r,hr1,hr2⟩:=hget i hi;have hrec:=Ow hch hr1;have:i∈Region.ready .any ops listed:=by
     rw[mem_ready];have hil:i<listed.size:=by omega
     refine⟨by simp only[bE,cL hil]at hx ⊢;simpa using hx,r.o,by rw[←hr2];exact hrec.op,λe he hb=>?_⟩;have:=hany.back r hr1 e he hb;exact ih e.on (by omega) (by omega)
    rw[hr]at this;cases this
 intro fuel;induction fuel with
 | zero=>
  intro listed a w hsz hu hX hJ;have hall:∀i,i<ops.size->listed.getD i false=true:=by
   intro i hi;have hil:i<listed.size:=by omega
   have hnil:listed.toList.filter (λb=>!b)=[]:=bK (Nat.le_zero.1 hu);rw[cV]at hnil;have:=hnil listed[i] (by simp);simp only[bE,cL hil,ch];simpa using this
  refine⟨?_,done listed a w hsz hall hJ⟩;apply List.eq_nil_iff_forall_not_mem.2;intro j hj;rw[mem_ready]at hj;obtain⟨h1,o,ho,_⟩:=hj;have hjl:j<ops.size:=(bn.1 ho).1;have:=hall j hjl;have hjs:j<listed.size:=by omega
  simp only[bE,cL hjs,ch]at h1 this;rw[h1]at this;cases this
 | succ fuel ih=>
  intro listed a w hsz hu hX hJ;refine⟨λhr=>done listed a w hsz (none_ready listed hsz hr) hJ,λi hi=>?_⟩;rw[mem_ready]at hi;obtain⟨h1,o,ho,hall⟩:=hi;have hil:i<ops.size:=(bn.1 ho).1;have his:i<listed.size:=by omega
  have hif:listed[i]?=some false:=by rw[cL his];simp only[bE,cL his,ch]at h1;rw[h1]
  obtain⟨q,hq,hqi⟩:=hget i hil;have hrec:=Ow hch hq;have hqo:q.o=o:=by have:=hrec.op;rw[hqi,ho]at this;cases this;rfl
  have hX':∀j,(listed.setIfInBounds i true).getD j false=(listed.getD j false || decide (j=q.i)):=by
   intro j;rw[hqi];simp only[bE,Array.getElem?_setIfInBounds];by_cases hji:j=i
   .subst hji;simp[his]
   .simp[Ne.symm hji,hji]
  subst hqi;refine Aa7 (λ_ _ h=>h) (Asw hch hs hany hfl (X':=λj=>(listed.setIfInBounds q.i true).getD j false) hX hq ?_ (by rw[hqo];exact hall) hX' hJ λa' w' hJ'=>ih _ a' w' (by simpa using hsz) ?_ ?_ hJ')
  .simp[eV,hif]
  .have:=Auq hif;omega
  .intro j o' hj ho' e he hb;simp only[hX',aE,dF]at hj ⊢;rcases hj with hj|rfl
   .exact .inl (hX j o' hj ho' e he hb)
   .rw[ho]at ho';cases ho';exact .inl (hall e he hb)
end
end Go.SL
namespace Go.SL
variable{f:D->D}{pi ts:fc}{e i j k size t:Nat}{v x:Value}
abbrev St:=List (Nat×AV)
def mkL:St->List Ent
 | []=>[]
 |(t,v)::r=>⟨t,[],v⟩::mkL r
def sel(L:List Ent):fc->Option St
 | []=>some []
 |t::ts=>match E0 L t,sel L ts with
  |some e,some r=>bif e.p.isEmpty then some ((t,e.v)::r) else none
  |_,_=>none
def Iv:St->fc
 | []=>[]
 |(t,_)::r=>t::Iv r
def W(ro:Option Nat)(P:Program)(n:Nat)(C:Ctx)(Q:Exit->Act->World->Prop)(c:Code)(st:St)(R:List Res):Prop:=
 ∀a w,Sat n C (mkL st) R a w->c.wpIn (FR ro) 0 P Q a w
section
variable{ro:Option Nat}{P:Program}{n:Nat}{C:Ctx}{Q:Exit->Act->World->Prop}{st st':St}{R R':List Res}{S S':Nat->Prop}{w w':World}{ρ ρ':fh}{a:Act}
theorem Gj:∀{st:St}{e:Ent},e∈mkL st->e.p=[]
 | [],e,h=>by cases h
 |(t,v)::r,e,h=>by
  rcases ah.1 h with rfl|h
  .rfl
  .exact Gj h
theorem qF:∀{ts:fc}{L:List Ent}{st:St},sel L ts=some st->∀e,e∈mkL st->e∈L
 | [],L,st,h,e,he=>by simp[sel]at h;subst h;cases he
 | t :: ts, L, st, h, e, he => by
  simp only[sel]at h;split at h
  .rename_i x r h1 h2;cases hp:x.p.isEmpty with
   |false=>rw[hp]at h;simp at h
   | true=>
    rw[hp]at h;simp at h;subst h;obtain⟨g1,g2⟩:=C4 h1;rcases ah.1 he with rfl|he
    .have:(⟨t,[],x.v⟩:Ent)=x:=by
      obtain⟨xt,xp,xv⟩:=x;grind
     rw[this];exact g1
    .exact qF h2 e he
  .cases h
theorem Sat.sub{L L':List Ent}(h:Sat n C L R a w)(hs:∀e,e∈L'->e∈L):Sat n C L' R a w:=by obtain⟨h1,h2,S,ρ,h3,h4⟩:=h;exact⟨h1,h2,S,ρ,h3,λe he=>h4 e (hs e he)⟩
def Ex{σ:Type}(n:Nat)(C:Ctx)(φ:σ->Prop)(st:σ->St)(R:σ->List Res)(a:Act)(w:World):Prop:=∃s,φ s/\Sat n C (mkL (st s)) (R s) a w
theorem Inv.pick(hI:Inv C S w ρ R){Rp R2:List Res}(hn:Fe pi=true)(hp:J6 R pi=some Rp)(hr:H2 (Ej pi) Rp=some R2)(hh:Pre C.h (Ct ρ pi)) :
  Inv C S w (Ct ρ pi) R2:=by
 obtain⟨st,hid,foots⟩:=hI.start hn hp hr;refine⟨st.len,st.ok,st.dis,λj r h b h1 h2 h3=>?_,hI.sub,hI.sup,hI.frm,hI.size,hI.os,hI.tape,hI.output,hh,hI.gl⟩;obtain⟨i,r0,k1,k2,k3,k4⟩:=foots j r h h1 h2;exact hI.own i r0 h b k2 k3 (by rw[←k4];exact h3)
def Vp(f:Nat->Option Nat):St->Option St
 | []=>some []
 |(t,v)::r=>match v.norm.ren f,Vp f r with
  |some v',some r'=>some ((t,v')::r')
  |_,_=>none
theorem yH{f:Nat->Option Nat}:∀{st st':St},Vp f st=some st'->∀e,e∈mkL st'->∃e0,e0∈mkL st/\e0.t=e.t/\e.p=[]/\e0.v.norm.ren f=some e.v
 | [],st',h,e,he=>by simp[Vp]at h;subst h;cases he
 | (t, v) :: r, st', h, e, he => by
  simp only[Vp]at h;split at h
  .rename_i v' r' h1 h2;simp at h;subst h;rcases ah.1 he with rfl|he
   .exact⟨⟨t,[],v⟩,ai,rfl,rfl,h1⟩
   .obtain⟨e0,g1,g2,g3,g4⟩:=yH h2 e he;exact⟨e0,ak _ g1,g2,g3,g4⟩
  .cases h
def Ka:Nat->fc->Nat->Bool
 |0,_,_=>true
 |k+1,i::r,j=>Nat.beq i j&&Ka k r (j+1)
 |_+1,[],_=>false
theorem Q8:∀{k:Nat}{l:fc}{j:Nat},Ka k l j=true->∀i,i<k->l[i]?=some (j+i)
 |0,_,_,_,i,h=>by omega
 |k+1,[],_,h,_,_=>by simp[Ka]at h
 |k+1,a::r,j,h,i,hi=>by
  simp only[Ka,ac]at h;cases i with
  |zero=>simp;exact aj h.1
  |succ i=>simp;rw[Q8 h.2 i (by omega)];congr 1;omega
def qI(k:Nat)(pi ts:fc)(st:St)(R:List Res):Option (St×List Res):=
 bif Fe pi&&Ka k pi 0 then
  match sel (mkL st) ts,J6 R pi with
  |some st1,some Rp=>match Vp (Ej pi) st1,H2 (Ej pi) Rp with
   |some st',some R'=>some (st',R')
   |_,_=>none
  |_,_=>none
 else none
theorem Sat.re(hk:C.h.length<=k)(h:qI k pi ts st R=some (st',R'))(hs:Sat n C (mkL st) R a w):Sat n C (mkL st') R' a w:=by
 unfold qI at h;cases hb:(Fe pi&&Ka k pi 0) with
 |false=>rw[hb]at h;simp at h
 | true=>
  rw[hb]at h;simp only[eO]at h;simp only[ac]at hb;split at h
  .rename_i st1 Rp e1 e2;split at h
   .rename_i st2 R2 e3 e4;simp at h;obtain⟨rfl,rfl⟩:=h;obtain⟨h1,h2,S,ρ,h3,h4⟩:=hs.sub (qF e1);have hid:∀(i j:Nat) x,Ej pi i=some j->ρ[i]?=some x->(Ct ρ pi)[j]?=some x:=(h3.start hb.1 e2 e4).2.1;refine⟨h1,h2,S,Ct ρ pi,h3.pick hb.1 e2 e4 λi v hv=>?_,λe he=>?_⟩
    .have hi:i<C.h.length:=(ab.1 hv).1;have:=Q8 hb.2 i (by omega);simp only[aH]at this;have hp:=h3.pre i v hv;simp[Ct,this,List.getD_eq_getElem?_getD,hp]
    .obtain⟨e0,g1,g2,g3,g4⟩:=yH e3 e he;have hp0:=Gj g1;obtain⟨k1,_⟩:=h4 e0 g1;obtain⟨v,hv,hr⟩:=k1 (by rw[hp0];exact B9);refine⟨λ_=>⟨v,by rw[←g2];exact hv,hr.norm.ren hid _ g4⟩,λhn=>absurd (by rw[g3];exact B9) hn⟩
   .cases h
  .cases h
def D.frz(i:Nat)(sz:Nat)(rows:List (List Pd)):D->D
 |.os j=>bif Nat.beq i j then .p (.s rows) else .os j
 |.osb j lo n s=>bif Nat.beq i j&&Nat.beq s sz then .p (.s ((rows.drop lo).take n)) else .osb j lo n s
 |d=>d
def AV.frz(i:Nat)(sz:Nat)(rows:List (List Pd)):AV->AV
 |.d x=>.d (x.frz i sz rows)
 |.agg ds=>.agg (ds.map (D.frz i sz rows))
 |.tup l=>.tup l
def Res.frz(i:Nat)(sz:Nat)(rows:List (List Pd)):Res->Res
 |.box t cells=>.box t (cells.map (D.frz i sz rows))
 |r=>r
def Aju(i:Nat)(st:St)(R:List Res):Option (St×List Res):=
 match R[i]? with
 |some (.sl _ sz rows)=>some (st.map λx=>(x.1,x.2.frz i sz rows),(R.set i .non).map (Res.frz i sz rows))
 |_=>none
theorem qN{f:AV->AV}:∀{st:St}{e:Ent},e∈mkL (st.map λx=>(x.1,f x.2))->∃e0,e0∈mkL st/\e0.t=e.t/\e.p=[]/\e.v=f e0.v
 | [],e,h=>by cases h
 | (t,v)::r,e,h=>by
  rcases ah.1 h with rfl|h
  .exact⟨⟨t,[],v⟩,ai,rfl,rfl,rfl⟩
  .obtain⟨e0,g1,g2⟩:=qN h;exact⟨e0,ak _ g1,g2⟩
theorem Inv.frz{rows:List (List Pd)}(h3:Inv C S w ρ R)(hi:R[i]?=some (.sl e size rows)) :
  ∃S',(∀b,S b->S' b)/\Inv C S' w ρ ((R.set i .non).map (Res.frz i size rows))/\∀v d,RdA S w ρ v d->RdA S' w ρ v (d.frz i size rows):=by
 have hil:i<ρ.length:=by rw[h3.len];exact(ab.1 hi).1
 have hρ:ρ[i]?=some ρ[i]:=af hil;have hF:=h3.freeze hi hρ;have hrow:ρ[i].oneCell'=true->RdP (λb=>S b\/(Res.sl e size rows).foot ρ[i] b) w ρ[i] (.s rows):=λh1=>Res.ok0.frozen ((h3.ok i _ _ hi hρ).live h1)
 have hd : ∀v d, Rd S w ρ v d -> Rd (λb => S b \/ (Res.sl e size rows).foot ρ[i] b) w ρ v (d.frz i size rows) := by
  intro v d hr;have hm:=hr.mono (S':=λb=>S b\/(Res.sl e size rows).foot ρ[i] b) (w':=w) (ρ':=ρ) (λ_ h=>.inl h) (λ_ _=>rfl) (Pre.refl _);cases d with
  | os j=>
   simp only[D.frz];cases hb:Nat.beq i j with
   |false=>simpa using hm
   |true=>have:=aj hb;subst this;have h1:=hr.one;have:=hr.os_inv;rw[hρ]at this;cases this;exact .p (hrow h1)
  | osb j lo m sz=>
   simp only[D.frz];cases hb:Nat.beq i j&&Nat.beq sz size with
   |false=>simpa using hm
   | true=>
    simp only[ac]at hb;have:=aj hb.1;subst this;have:=aj hb.2;subst this;cases hr with
    | @osb _ _ _ _ q ad len cap g1 hl hc hq hq2=>
     rw[hρ]at g1;have g3:ρ[i]=.slice ad len cap:=by simpa using g1
     have hF:=hrow (by rw[g3];rfl);have hkk:=(h3.ok i _ _ hi hρ).live (by rw[g3];rfl);have hz:∀row,row∈rows->row.length=sz:=by
      rcases hkk with⟨_,h0⟩|⟨b,o,cp,vs,_,_,_,_,_,h0,_⟩
      .subst h0;simp
      .exact h0
     have g2:ρ[i]=.slice ad len cap:=by simpa using g1
     rw[g2]at hF;have hcut:=RdP.cut hF (l:=lo) (h:=lo+m) (by omega) hl hz;rw[show (lo+m)-lo=m from by omega,List.drop_take,show (lo+m)-lo=m from by omega]at hcut;have hF0:=hF;rw[g2];simp only[eO];by_cases hlc:lo<cap
     .rw[eU (by omega)]at hcut;rw[hq2 hlc];exact .p hcut
     .have hlc:cap=lo:=by omega
      subst hlc;have hn0:m=0:=by obtain⟨_,_,hsf,hle,_⟩:=hF0.slice_form;cases hsf;omega
      subst hn0;simp only[List.take_zero];exact .p (.s _ ⟨0,0,none⟩ _ 0 [] (λ_ _=>undef) (ce _) (by simp) (λ_=>by simp) (by simp) (by simp) (by simp))
  |_=>exact hm
 have ha:∀v d,RdA S w ρ v d->RdA (λb=>S b\/(Res.sl e size rows).foot ρ[i] b) w ρ v (d.frz i size rows):=by
  intro v d hr;cases hr with
  |d h=>exact .d (hd _ _ h)
  |agg h=>exact .agg (h.map_right λ_ _ h=>hd _ _ h)
  |tup hl h=>exact .tup hl λj x a hx ha=>(h j x a hx ha).mono (λ_ h=>.inl h) (λ_ _=>rfl) (Pre.refl _)
 have hget:∀(j:Nat) r,((R.set i .non).map (Res.frz i size rows))[j]?=some r->∃r0,(R.set i .non)[j]?=some r0/\r=r0.frz i size rows:=by intro j r hj;rw[aD]at hj;obtain⟨r0,g1,g2⟩:=Cw hj;exact⟨r0,g1,g2.symm⟩
 have hfoot:∀(r0:Res) v,(r0.frz i size rows).foot v=r0.foot v:=by intro r0 v;cases r0 <;> rfl
 refine⟨_,λ_ h=>.inl h,⟨by rw[au];exact hF.len,λj r v hj hv=>?_,λj k r r2 v v2 b hjk hj hk hv hv2 hf hf2=>?_,λj r v b hj hv hf=>?_,hF.sub,hF.sup,hF.frm,hF.size,hF.os,hF.tape,hF.output,hF.pre,hF.gl⟩,ha⟩
 .obtain⟨r0,g1,rfl⟩:=hget j r hj;have hok:=hF.ok j r0 v g1 hv;rw[aK]at g1;split at g1
  .split at g1
   .cases g1;exact .inr trivial
   .cases g1
  .have hok0:=h3.ok j r0 v g1 hv;cases r0 with
   |box t cells=>
    rcases hok0 with h0|⟨b,vs,rfl,hb,hc⟩
    .exact .inl h0
    .exact .inr ⟨b,vs,rfl,hb,hc.map_right λ_ _ h=>hd _ _ h⟩
   |_=>exact hok
 .obtain⟨r0,g1,rfl⟩:=hget j r hj;obtain⟨r1,g2,rfl⟩:=hget k r2 hk;rw[hfoot]at hf hf2;exact hF.dis j k r0 r1 v v2 b hjk g1 g2 hv hv2 hf hf2
 .obtain⟨r0,g1,rfl⟩:=hget j r hj;rw[hfoot]at hf;exact hF.own j r0 v b g1 hv hf
theorem Sat.frz(h:Aju i st R=some (st',R'))(hs:Sat n C (mkL st) R a w):Sat n C (mkL st') R' a w:=by
 unfold Aju at h;split at h
 .rename_i e size rows hi;simp only[al,aI]at h;obtain⟨rfl,rfl⟩:=h;obtain⟨h1,h2,S,ρ,h3,h4⟩:=hs;obtain⟨S',_,hI,ha⟩:=h3.frz hi;refine⟨h1,h2,S',ρ,hI,λe he=>?_⟩;obtain⟨e0,g1,g2,g3,g4⟩:=qN he;have hp0:=Gj g1;obtain⟨k1,_⟩:=h4 e0 g1;obtain⟨v,hv,hr⟩:=k1 (by rw[hp0];exact B9);refine⟨λ_=>⟨v,by rw[←g2];exact hv,by rw[g4];exact ha _ _ hr⟩,λhn=>absurd (by rw[g3];exact B9) hn⟩
 .cases h
def Og(t:Nat)(v:AV):St->St
 | []=>[]
 |(u,x)::r=>bif Nat.beq u t then (u,v)::Og t v r else (u,x)::Og t v r
def Ky(t:Nat):St->Bool
 | []=>true
 |(u,x)::r=>(!(Nat.beq u t) || match x with|.d (.p (.v (.slice none 0 0)))=>true|_=>false)&&Ky t r
def Aja(t e size:Nat)(st:St)(R:List Res):Option (St×List Res):=
 bif Ky t st then some (Og t (.d (.os R.length)) st,R++[.sl e size []]) else none
theorem Ss{t:Nat}{v:AV}:∀{st:St}{e:Ent},e∈mkL (Og t v st)->(e.t=t/\e.p=[]/\e.v=v/\∃x,⟨t,[],x⟩∈mkL st/\(Ky t st=true->∃y,x=y/\(match y with|.d (.p (.v (.slice none 0 0)))=>true|_=>false)=true))\/e∈mkL st
 | [],e,h=>by cases h
 | (u, x) :: r, e, h => by
  simp only[Og]at h;cases hb:Nat.beq u t with
  | true=>
   rw[hb]at h;simp only[eO]at h;have:=aj hb;subst this;rcases ah.1 h with rfl|h
   .refine .inl ⟨rfl,rfl,rfl,x,ai,λhn=>⟨x,rfl,?_⟩⟩;simp only[Ky,hb,aC,aO,ac]at hn;exact hn.1
   .rcases Ss h with⟨g1,g2,g3,y,g4,g5⟩|h
    .refine .inl ⟨g1,g2,g3,y,ak _ g4,λhn=>g5 ?_⟩;simp only[Ky,ac]at hn;exact hn.2
    .exact .inr (ak _ h)
  | false=>
   rw[hb]at h;simp only[eQ]at h;rcases ah.1 h with rfl|h
   .exact .inr ai
   .rcases Ss h with⟨g1,g2,g3,y,g4,g5⟩|h
    .refine .inl ⟨g1,g2,g3,y,ak _ g4,λhn=>g5 ?_⟩;simp only[Ky,ac]at hn;exact hn.2
    .exact .inr (ak _ h)
theorem Sat.own(h:Aja t e size st R=some (st',R'))(hs:Sat n C (mkL st) R a w):Sat n C (mkL st') R' a w:=by
 unfold Aja at h;cases hb:Ky t st with
 |false=>rw[hb]at h;simp at h
 | true=>
  rw[hb]at h;simp at h;obtain⟨rfl,rfl⟩:=h;obtain⟨h1,h2,S,ρ,h3,h4⟩:=hs;refine⟨h1,h2,S,ρ++[.slice none 0 0],h3.push (.sl e size []) (.slice none 0 0) (λ_ _=>rfl) (ag _) rfl ⟨rfl,λ_=>by grind⟩ rfl (.inr (.inl ⟨rfl,rfl⟩)) (by simp[Res.foot]),λx hx=>?_⟩;rcases Ss hx with⟨g1,g2,g3,y,g4,g5⟩|hx
  .obtain⟨z,rfl,hz⟩:=g5 hb;obtain⟨v,hv,hr⟩:=(h4 _ g4).1 B9;split at hz
   .have:=hr.exact_inv;subst this;refine⟨λ_=>⟨.slice none 0 0,by rw[g1];exact hv,by rw[g3];exact .d (.os (by rw[←h3.len];simp) rfl)⟩,λhn=>absurd (by rw[g2];exact B9) hn⟩
   .cases hz
  .obtain⟨k1,k2⟩:=h4 x hx;refine⟨λhp=>?_,k2⟩;obtain⟨v,hv,hr⟩:=k1 hp;exact⟨v,hv,hr.mono (λ_ h=>h) (λ_ _=>rfl) (Pre.append _ _)⟩
def AV.mapD(f:D->D):AV->AV
 |.d x=>.d (f x)
 |.agg ds=>.agg (ds.map f)
 |.tup l=>.tup l
def Res.mapD(f:D->D):Res->Res
 |.box t cells=>.box t (cells.map f)
 |r=>r
theorem dw(f:D->D)(r:Res)(v:Value):(r.mapD f).foot v=r.foot v:=by cases r <;> rfl
theorem Inv.mapD(h:Inv C S w ρ R)(hf:∀v d,Rd S w ρ v d->Rd S w ρ v (f d)):Inv C S w ρ (R.map (Res.mapD f)):=by
 have hget:∀(j:Nat) r,(R.map (Res.mapD f))[j]?=some r->∃r0,R[j]?=some r0/\r=r0.mapD f:=by grind
 refine⟨by rw[au];exact h.len,λj r v hj hv=>?_,λj k r r2 v v2 b hjk hj hk hv hv2 hf hf2=>?_,λj r v b hj hv hf=>?_,h.sub,h.sup,h.frm,h.size,h.os,h.tape,h.output,h.pre,h.gl⟩
 .obtain⟨r0,g1,rfl⟩:=hget j r hj;have hok:=h.ok j r0 v g1 hv;cases r0 with
  |box t cells=>
   rcases hok with h0|⟨b,vs,rfl,hb,hc⟩
   .exact .inl h0
   .exact .inr ⟨b,vs,rfl,hb,hc.map_right λ_ _ h=>hf _ _ h⟩
  |_=>exact hok
 .obtain⟨r0,g1,rfl⟩:=hget j r hj;obtain⟨r1,g2,rfl⟩:=hget k r2 hk;rw[dw]at hf hf2;exact h.dis j k r0 r1 v v2 b hjk g1 g2 hv hv2 hf hf2
 .obtain⟨r0,g1,rfl⟩:=hget j r hj;rw[dw]at hf;exact h.own j r0 v b g1 hv hf
theorem RdA.mapD(hf:∀v d,Rd S w ρ v d->Rd S w ρ v (f d)){x:AV}(h:RdA S w ρ v x):RdA S w ρ v (x.mapD f):=by
 cases h with
 |d h=>exact .d (hf _ _ h)
 |agg h=>exact .agg (h.map_right λ_ _ h=>hf _ _ h)
 |tup hl h=>exact .tup hl h
def D.mv(i j:Nat):D->D
 |.os k=>bif Nat.beq i k then .os j else .os k
 |d=>d
def Ari(i:Nat)(st:St)(R:List Res):Option (St×List Res):=
 match R[i]? with
 |some (.sl e size rows)=>some (st.map λx=>(x.1,x.2.mapD (D.mv i R.length)),(R.set i .non++[Res.sl e size rows]).map (Res.mapD (D.mv i R.length)))
 |_=>none
theorem Sat.mv(h:Ari i st R=some (st',R'))(hs:Sat n C (mkL st) R a w):Sat n C (mkL st') R' a w:=by
 unfold Ari at h;split at h
 .rename_i e size rows hi;simp only[al,aI]at h;obtain⟨rfl,rfl⟩:=h;obtain⟨h1,h2,S,ρ,h3,h4⟩:=hs;obtain⟨v,hv⟩:=h3.rho hi;have hM:Inv C S w (ρ++[v]) (R.set i .non++[Res.sl e size rows]):=h3.move (r':=.sl e size rows) (v':=v) hi hv (λ_ _ _=>rfl) (ag _) rfl ⟨rfl,λ_=>by grind⟩ rfl (λk hk=>.inl hk)
   ((h3.ok i _ v hi hv).mono (λ_ h=>h) (λ_ _=>rfl) (Pre.append _ _) (λ_ _=>rfl))
  have hd:∀x d,Rd S w (ρ++[v]) x d->Rd S w (ρ++[v]) x (d.mv i R.length):=by
   intro x d hr;cases d with
   | os k=>
    simp only[D.mv];cases hb:Nat.beq i k with
    |false=>exact hr
    | true=>
     have:=aj hb;subst this;cases hr with
     |os g1 g2=>have:(ρ++[v])[i]?=some v:=Pre.append _ _ _ _ hv;rw[this]at g1;cases g1;exact .os (by rw[←h3.len];simp) g2
   |_=>exact hr
  refine⟨h1,h2,S,ρ++[v],hM.mapD hd,λx hx=>?_⟩;obtain⟨e0,g1,g2,g3,g4⟩:=qN hx;have hp0:=Gj g1;obtain⟨k1,_⟩:=h4 e0 g1;obtain⟨y,hy,hr⟩:=k1 (by rw[hp0];exact B9);refine⟨λ_=>⟨y,by rw[←g2];exact hy,by rw[g4];exact(hr.mono (λ_ h=>h) (λ_ _=>rfl) (Pre.append _ _)).mapD hd⟩,λhn=>absurd (by rw[g3];exact B9) hn⟩
 .cases h
def Pu:D->Bool
 |.p (.v (.slice none 0 0))=>true
 |_=>false
def Abm(i j e size:Nat)(st:St)(R:List Res):Option (St×List Res):=
 match R[i]? with
 |some (.box t cells)=>match cells[j]? with
  |some d=>bif Pu d then some (st,R.set i (.box t (cells.set j (.os R.length)))++[.sl e size []]) else none
  |none=>none
 |_=>none
theorem Inv.swap{r r':Res}(h:Inv C S w ρ R)(hi:R[i]?=some r)(hok:∀v,r.ok S w ρ v->r'.ok S w ρ v)(hf:∀v,r'.foot v=r.foot v):Inv C S w ρ (R.set i r'):=by
 have key:∀(j:Nat) r1,(R.set i r')[j]?=some r1->∃r0,R[j]?=some r0/\(∀v,r0.ok S w ρ v->r1.ok S w ρ v)/\∀v,r1.foot v=r0.foot v:=by grind
 refine⟨by rw[bA];exact h.len,λj r1 v hj hv=>?_,λj k r1 r2 v v2 b hjk hj hk hv hv2 hf hf2=>?_,λj r1 v b hj hv hf=>?_,h.sub,h.sup,h.frm,h.size,h.os,h.tape,h.output,h.pre,h.gl⟩
 .obtain⟨r0,g1,g2,_⟩:=key j r1 hj;exact g2 v (h.ok j r0 v g1 hv)
 .obtain⟨r0,g1,_,g3⟩:=key j r1 hj;obtain⟨q0,m1,_,m3⟩:=key k r2 hk;rw[g3]at hf;rw[m3]at hf2;exact h.dis j k r0 q0 v v2 b hjk g1 m1 hv hv2 hf hf2
 .obtain⟨r0,g1,_,g3⟩:=key j r1 hj;rw[g3]at hf;exact h.own j r0 v b g1 hv hf
theorem Ai7{d:D}(hn:Pu d=true)(h:Rd S w ρ x d)(hl:ρ.length=R.length):Rd S w (ρ++[.slice none 0 0]) x (.os R.length):=by
 unfold Pu at hn;split at hn
 .cases h with
  |p h=>cases h;exact .os (by rw[←hl];simp) rfl
 .cases hn
theorem Sat.ownb(h : Abm i j e size st R = some (st', R'))(hs : Sat n C (mkL st) R a w) : Sat n C (mkL st') R' a w := by
 unfold Abm at h;split at h
 .rename_i t cells hi;split at h
  .rename_i d hj;cases hb:Pu d with
   |false=>rw[hb]at h;simp at h
   | true=>
    rw[hb]at h;simp at h;obtain⟨rfl,rfl⟩:=h;obtain⟨h1,h2,S,ρ,h3,h4⟩:=hs;have hP:=h3.push (w':=w) (.sl e size []) (.slice none 0 0) (λ_ _=>rfl) (ag _) rfl ⟨rfl,λ_=>by grind⟩ rfl (.inr (.inl ⟨rfl,rfl⟩)) (by simp[Res.foot]);have hil:i<R.length:=(ab.1 hi).1;have hi':(R++[Res.sl e size []])[i]?=some (.box t cells):=by rw[aJ hil];exact hi
    have hlen:=h3.len
    have hQ := hP.swap (r' := .box t (cells.set j (.os R.length))) hi' (λv hv => by
     rcases hv with h0|⟨b,vs,rfl,hb',hc⟩
     .exact .inl h0
     .refine .inr ⟨b,vs,rfl,hb',dh (by rw[bA];exact hc.length) λk x d' hx hd=>?_⟩;rw[aK]at hd;split at hd
      .rename_i e';subst e';split at hd
       .cases hd;have hr:=hc.both hx hj;unfold Pu at hb;split at hb
        .cases hr with
         |p hr=>cases hr;exact .os (by rw[←hlen];simp) rfl
        .cases hb
       .cases hd
      .exact hc.both hx hd) (λ_=>rfl)
    refine⟨h1,h2,S,ρ++[.slice none 0 0],by rw[List.set_append_left _ _ hil]at hQ;exact hQ,λx hx=>?_⟩;obtain⟨k1,k2⟩:=h4 x hx;refine⟨λhp=>?_,k2⟩;obtain⟨v,hv,hr⟩:=k1 hp;exact⟨v,hv,hr.mono (λ_ h=>h) (λ_ _=>rfl) (Pre.append _ _)⟩
  .cases h
 .cases h
def Aai(j:Nat):AV->Bool
 |.agg ds=>match ds[j]? with
  |some d=>Pu d
  |none=>false
 |_=>false
def Ai0(j:Nat)(d:D):AV->AV
 |.agg ds=>.agg (ds.set j d)
 |v=>v
def Abl(t j e size:Nat)(st:St)(R:List Res):Option (St×List Res):=
 bif st.all (λx=>!(Nat.beq x.1 t) || Aai j x.2)then some (st.map λx=>(x.1,bif Nat.beq x.1 t then Ai0 j (.os R.length) x.2 else x.2),R++[.sl e size []]) else none
theorem qM:∀{st:St}{e:Ent},e∈mkL st->(e.t,e.v)∈st/\e.p=[]
 | [],e,h=>by cases h
 |(t,v)::r,e,h=>by
  rcases ah.1 h with rfl|h
  .exact⟨ai,rfl⟩
  .exact⟨ak _ (qM h).1,(qM h).2⟩
theorem Abp{f:Nat×AV->Nat×AV}(hf:∀x,(f x).1=x.1):∀{st:St}{e:Ent},e∈mkL (st.map f)->∃v,(e.t,v)∈st/\(⟨e.t,[],v⟩:Ent)∈mkL st/\e.p=[]/\e.v=(f (e.t,v)).2
 | [],e,h=>by cases h
 | (t,v)::r,e,h=>by
  have h:e∈(⟨(f (t,v)).1,[],(f (t,v)).2⟩:Ent)::mkL (r.map f):=h;rcases ah.1 h with rfl|h
  .have:=hf (t,v);simp only at this;refine⟨v,?_,?_,rfl,?_⟩ <;> simp only[this]
   .exact ai
   .exact ai
  .obtain⟨u,g1,g2,g3,g4⟩:=Abp hf h;exact⟨u,ak _ g1,ak _ g2,g3,g4⟩
theorem Sat.ownt(h:Abl t j e size st R=some (st',R'))(hs:Sat n C (mkL st) R a w):Sat n C (mkL st') R' a w:=by
 unfold Abl at h;cases hb:(st.all λx=>!(Nat.beq x.1 t) || Aai j x.2) with
 |false=>rw[hb]at h;simp at h
 | true=>
  rw[hb]at h;simp only[eO,al,aI]at h;obtain⟨rfl,rfl⟩:=h;obtain⟨h1,h2,S,ρ,h3,h4⟩:=hs;refine⟨h1,h2,S,ρ++[.slice none 0 0],h3.push (.sl e size []) (.slice none 0 0) (λ_ _=>rfl) (ag _) rfl ⟨rfl,λ_=>by grind⟩ rfl (.inr (.inl ⟨rfl,rfl⟩)) (by simp[Res.foot]),λx hx=>?_⟩;obtain⟨u,g1,g2,g3,g4⟩:=Abp (f:=λx=>(x.1,bif Nat.beq x.1 t then Ai0 j (.os R.length) x.2 else x.2)) (λ_=>rfl) hx;obtain⟨v,hv,hr⟩:=(h4 _ g2).1 B9;refine⟨λ_=>⟨v,hv,?_⟩,λhn=>absurd (by rw[g3];exact B9) hn⟩;rw[g4];simp only at hr ⊢;cases hc:Nat.beq x.t t with
  |false=>simp only[eQ];exact hr.mono (λ_ h=>h) (λ_ _=>rfl) (Pre.append _ _)
  | true=>
   simp only[eO];have hn:=(a9.1 hb) _ g1;simp only[hc,aC,aO]at hn;cases hr with
   | agg hr=>
    rename_i vs ds;simp only[Aai]at hn;simp only[Ai0];split at hn
    .rename_i d hj;refine .agg (dh (by rw[bA];exact hr.length) λk y d' hy hd=>?_);rw[aK]at hd;split at hd
     .rename_i e';subst e';split at hd
      .cases hd;exact Ai7 hn (hr.both hy hj) h3.len
      .cases hd
     .exact(hr.both hy hd).mono (λ_ h=>h) (λ_ _=>rfl) (Pre.append _ _)
    .cases hn
   |_=>simp[Aai]at hn
end
end Go.SL
namespace Go.SL
variable{res v:AV}{c:Code}{C0:Ctx}{fn:Func}{pi:fc}{R2:List Res}{results:List ResultVar}{D k:Nat}
inductive Ctl(σ ρ:Type) where
 |next (s:σ)
 |brk (s:σ)
 |ret (r:ρ)
def whileN{σ ρ:Type}(f:σ->Option (Ctl σ ρ)):Nat->σ->Option (Ctl σ ρ)
 |0,_=>none
 |n+1,s=>match f s with
  |some (.next s')=>whileN f n s'
  |some (.brk s')=>some (.next s')
  |some (.ret r)=>some (.ret r)
  |none=>none
def foldE{α σ ρ:Type}(f:α->σ->Option (Ctl σ ρ)):List α->σ->Option (Ctl σ ρ)
 | [],s=>some (.next s)
 |x::xs,s=>match f x s with
  |some (.next s')=>foldE f xs s'
  |some (.brk s')=>some (.next s')
  |some (.ret r)=>some (.ret r)
  |none=>none
theorem Acf{p:Nat->Prop}(h:∃n,p n):∃n,p n/\∀m,m<n->¬p m:=by
 obtain⟨n,hn⟩:=h;induction n using Nat.strongRecOn with
 | _ n ih=>
  by_cases hx:∃m,m<n/\p m
  .obtain⟨m,h1,h2⟩:=hx;exact ih m h1 h2
  .exact⟨n,hn,λm hm hp=>hx ⟨m,hm,hp⟩⟩
section
variable{ro:Option Nat}{P:Program}{n:Nat}{C:Ctx}{Q:Exit->Act->World->Prop}{st st':St}{R R':List Res}{S S':Nat->Prop}{w w':World}{ρ ρ':fh}{a:Act}
theorem Ah2(I:Nat->Act->World->Prop)(h0:∃m,∀a w,Sat n C (mkL st) R a w->I m a w)
  (h:∀m a w,I m a w->c.wpIn (FR ro) 0 P (Exit.then (λa' w'=>∃k,k<m/\I k a' w') Q) a w):W ro P n C Q (.loop c) st R:=by
 intro a w hs;obtain⟨m0,h0⟩:=h0;have key:∀a w,(∃m,I m a w)->∃m,I m a w/\∀k,k<m->¬I k a w:=λa w h=>Acf h
 let μ:Act->World->Nat:=λa w=>@dite _ (∃m,I m a w) (Classical.propDecidable _) (λh=>Classical.choose (key a w h)) (λ_=>0)
 have hμ:∀a w(hx:∃m,I m a w),I (μ a w) a w/\∀k,k<μ a w->¬I k a w:=by
  intro a w hx;have:μ a w=Classical.choose (key a w hx):=by simp only[μ];rw[dif_pos hx]
  rw[this];exact Classical.choose_spec (key a w hx)
 refine wpIn_loop (λa w=>∃m,I m a w) μ ⟨m0,h0 a w hs⟩ λa w hI=>?_;obtain⟨h1,h2⟩:=hμ a w hI;refine wpIn_mono (h _ a w h1) λe a' w' hq=>?_;cases e with
 |normal=>
  obtain⟨k,hk,hIk⟩:=hq;refine⟨⟨k,hIk⟩,?_⟩;obtain⟨g1,g2⟩:=hμ a' w' ⟨k,hIk⟩;rcases bc k (μ a' w') with h|h
  .exact absurd hIk (g2 k h)
  .omega
 |_=>exact hq
theorem Awf{σ τ:Type}(f:σ->Option (Ctl σ τ))(stF:σ->St)(RF:σ->List Res)(r:Ctl σ τ)(fuel:Nat)(s:σ)(hm:whileN f fuel s=some r)
  (h0:st=stF s/\R=RF s)
  (h:∀s k,f s=some k->(∀s',k=.brk s'->r=.next s')->(∀v,k=.ret v->r=.ret v) ->
   W ro P n C (Exit.then (λa' w'=>∃s',k=.next s'/\Sat n C (mkL (stF s')) (RF s') a' w') Q) c (stF s) (RF s)):W ro P n C Q (.loop c) st R:=by
 refine Ah2 (λm a w=>∃s,whileN f m s=some r/\Sat n C (mkL (stF s)) (RF s) a w) ⟨fuel,λa w hs=>⟨s,hm,by rw[h0.1,h0.2]at hs;exact hs⟩⟩ λm a w hI=>?_;obtain⟨s,hf,hs⟩:=hI;cases m with
 |zero=>simp[whileN]at hf
 | succ m=>
  simp only[whileN]at hf;cases hk:f s with
  |none=>rw[hk]at hf;cases hf
  | some k=>
   rw[hk]at hf;refine wpIn_mono (h s k hk ?_ ?_ a w hs) λe a' w' hq=>?_
   .intro s' e;subst e;simp only[al]at hf;exact hf.symm
   .intro v e;subst e;simp only[al]at hf;exact hf.symm
   .cases e with
    |normal=>obtain⟨s',e,hs'⟩:=hq;subst e;exact⟨m,Nat.lt_succ_self m,s',hf,hs'⟩
    |_=>exact hq
def Abg(P : Program)(st : St)(R : List Res) : ResultVar -> Option AV
 |.tmp t=>match E0 (mkL st) t with
  |some e=>some e.v
  |none=>none
 | .cell t ty=>match E0 (mkL st) t,A9 P ty with
  | some e,some m=>match e.v with
   |.d (.o i off)=>match R[i]? with
    |some (.box _ cells)=>Gw P ty ((cells.drop off).take m)
    |_=>none
   |_=>none
  |_,_=>none
def Pl(P:Program)(st:St)(R:List Res):List ResultVar->Option (List AV)
 | []=>some []
 |r::l=>match Abg P st R r,Pl P st R l with
  |some v,some vs=>some (v.norm::vs)
  |_,_=>none
def Ato:List AV->AV
 | [v]=>v
 |l=>.tup l
def Pm(P:Program)(results:List ResultVar)(k:Nat)(pi:fc)(st:St)(R:List Res):Option (AV×List Res):=
 bif Fe pi&&Ka k pi 0 then
  match Pl P st R results,J6 R pi with
  |some vs,some Rp=>match (Ato vs).ren (Ej pi),H2 (Ej pi) Rp with
   |some v,some R'=>some (v,R')
   |_,_=>none
  |_,_=>none
 else none
def Kg(P:Program)(fn:Func)(C:Ctx)(res:AV)(R2:List Res):Exit->Act->World->Prop:=
 bodyPostM (FR none) 0 P fn λe w'=>∃v S' ρ',e=.returned v/\RdA S' w' ρ' v res/\Inv C S' w' ρ' R2
structure Up(C0 C:Ctx):Prop where
 up:∀S w ρ R,Inv C S w ρ R->Inv C0 S w ρ R
 df:C.df=[]\/∃D,C.df=[{target:=.collected D,args:=#[]}]/\C0.w.heap.size<=D
 hl:C0.h.length<=C.h.length
theorem dy{C:Ctx}(h:C.df=[]):Up C C:=⟨λ_ _ _ _ h=>h,.inl h,ag _⟩
theorem Inv.shut(hI:Inv C0 S w ρ R)(h0:C0.w.heap.size<=D)(hS:¬S D)(hR:∀(i:Nat) r h,R[i]?=some r->ρ[i]?=some h->¬r.foot h D)(o:Obj):Inv C0 S (w.putObj D o) ρ R/\∀b,S b->(w.putObj D o).heap[b]?=w.heap[b]?:=by
 have hsame:∀b,b≠D->(w.putObj D o).heap[b]?=w.heap[b]?:=λb hb=>World.putObj_heap_other hb;have hSs:∀b,S b->(w.putObj D o).heap[b]?=w.heap[b]?:=λb hb=>hsame b (λe=>hS (e ▸ hb));have hsz:(w.putObj D o).heap.size=w.heap.size:=by simp[World.putObj]
 refine⟨⟨hI.len,λi r h h1 h2=>(hI.ok i r h h1 h2).mono (λ_ h=>h) hSs (Pre.refl _) (λb hb=>hsame b (λe=>hR i r h h1 h2 (e ▸ hb))),hI.dis,λi r h b h1 h2 h3=>?_,hI.sub,λb hb=>?_,λb hb hf=>?_,?_,hI.os,hI.tape,hI.output,hI.pre,hI.gl⟩,hSs⟩
 .rw[hsz];exact hI.own i r h b h1 h2 h3
 .rw[hsz];exact hI.sup b hb
 .exact(hsame b (by omega)).trans (hI.frm b hb hf)
 .rw[hsz];exact hI.size
theorem Amx(hI:Inv C S w ρ R)(hL:B0 S w ρ a (mkL st)){r:ResultVar}(h:Abg P st R r=some v) :
  ∃x,(match r with|.tmp t=>pure (a.tmps.getD t undef)|.cell t ty=>do loadVar ty (←asAddr (a.tmps.getD t undef)):Sem Value).run P w=.ok x w/\RdA S w ρ x v:=by
 have slot:∀t e,E0 (mkL st) t=some e->∃x,a.tmps.getD t undef=x/\RdA S w ρ x e.v:=by intro t e he;obtain⟨hm,ht⟩:=C4 he;obtain⟨x,hx,hr⟩:=(hL e hm).1 (by rw[Gj hm];exact B9);rw[ht]at hx;exact⟨x,by simp[eV,hx],hr⟩
 unfold Abg at h;split at h
 .rename_i t;split at h
  .rename_i e he;simp at h;subst h;obtain⟨x,hx,hr⟩:=slot t e he;exact⟨x,by simp[hx],hr⟩
  .cases h
 .rename_i t ty;split at h
  .rename_i e m he hm;split at h
   .rename_i i off hv;split at h
    .rename_i u cells hi;obtain⟨x,hx,hr⟩:=slot t e he;rw[hv]at hr;obtain⟨b,hb,hρ⟩:=hr.d_inv.o_inv;obtain⟨y,hy,hry⟩:=Gf (P:=P) (S:=S) (w:=w) (ρ:=ρ) (ad:=⟨b,off,none⟩) h (λj d hd=>Adn hI hi hρ off m j d hd);refine⟨y,?_,hry⟩;simp only[hx,hb,asAddr,eX,eZ,eY,hy]
    .cases h
   .cases h
  .cases h
theorem Yv(hI:Inv C S w ρ R)(hL:B0 S w ρ a (mkL st)):∀{l:List ResultVar}{vs:List AV},Pl P st R l=some vs ->
  ∃xs,(l.mapM fun|.tmp t=>pure (a.tmps.getD t undef)|.cell t ty=>do loadVar ty (←asAddr (a.tmps.getD t undef)):Sem fh).run P w=.ok xs w/\Ap (RdA S w ρ) xs vs
 | [],vs,h=>by simp[Pl]at h;subst h;exact⟨[],by simp,trivial⟩
 | r::l,vs,h=>by
  simp only[Pl]at h;split at h
  .rename_i v vs' h1 h2;simp at h;subst h;obtain⟨x,hx,hr⟩:=Amx hI hL h1;obtain⟨xs,hxs,hrs⟩:=Yv hI hL h2;refine⟨x::xs,?_,hr.norm,hrs⟩;simp only[List.mapM_cons,eX];rw[hx];simp only[eY];rw[hxs];simp
  .cases h
theorem Atp(hf:fn.results.toList=results)(hk:C.h.length<=k)(h:Pm P results k pi st R=some (res,R2))
  (h3:Inv C S w ρ R)(h4:B0 S w ρ a (mkL st)):∃x,(Go.results fn a.tmps).run P w=.ok x w/\∃v S' ρ',Ending.returned x=.returned v/\RdA S' w ρ' v res/\Inv C S' w ρ' R2:=by
 unfold Pm at h;cases hb:(Fe pi&&Ka k pi 0) with
 |false=>rw[hb]at h;simp at h
 | true=>
  rw[hb]at h;simp only[eO]at h;simp only[ac]at hb;split at h
  .rename_i vs Rp e1 e2;split at h
   .rename_i v R3 e3 e4;simp at h;obtain⟨rfl,rfl⟩:=h;have hid:∀(i j:Nat) x,Ej pi i=some j->ρ[i]?=some x->(Ct ρ pi)[j]?=some x:=(h3.start hb.1 e2 e4).2.1;obtain⟨xs,hxs,hrs⟩:=Yv (P:=P) h3 h4 e1;have hI2:=h3.pick hb.1 e2 e4 λi v hv=>by
     have hi:i<C.h.length:=(ab.1 hv).1;have:=Q8 hb.2 i (by omega);simp only[aH]at this;have hp:=h3.pre i v hv;simp[Ct,this,List.getD_eq_getElem?_getD,hp]
    have hrun:∃x,(Go.results fn a.tmps).run P w=.ok x w/\RdA S w ρ x (Ato vs):=by
     have hm:∀g:ResultVar->Sem Value,(∀t,g (.tmp t)=pure (a.tmps.getD t undef))->(∀t ty,g (.cell t ty)=do loadVar ty (←asAddr (a.tmps.getD t undef)))->(fn.results.mapM g:Sem (Array Value)).run P w=.ok xs.toArray w:=by
      intro g g1 g2;have e:g=(fun|.tmp t=>pure (a.tmps.getD t undef)|.cell t ty=>do loadVar ty (←asAddr (a.tmps.getD t undef))):=by
       funext x;cases x with
       |tmp t=>exact g1 t
       |cell t ty=>exact g2 t ty
      rw[e,Sw,hf,hxs];rfl
     have hlen:=hrs.length
     match xs,vs,hrs,hlen,hm with
     | [x],[v],hrs,_,hm=>refine⟨x,?_,hrs.1⟩;unfold Go.results;simp only[eX];rw[hm _ (λ_=>rfl) (λ_ _=>rfl)];simp
     | [],[],hrs,_,hm=>refine⟨.tuple #[],?_,.tup (vs:=[]) rfl (by simp)⟩;unfold Go.results;simp only[eX];rw[hm _ (λ_=>rfl) (λ_ _=>rfl)];simp
     |x::y::l,v::u::l',hrs,hl,hm=>refine⟨.tuple (x::y::l).toArray,?_,.tup hl λj z b h1 h2=>hrs.both h1 h2⟩;unfold Go.results;simp only[eX];rw[hm _ (λ_=>rfl) (λ_ _=>rfl)];simp
     | [],_::_,hrs,_,_=>exact hrs.elim
     |_::_,[],hrs,_,_=>exact hrs.elim
     | [_],_::_::_,hrs,_,_=>exact hrs.2.elim
     |_::_::_,[_],hrs,_,_=>exact hrs.2.elim
    obtain⟨x,hx,hr⟩:=hrun;exact⟨x,hx,x,S,Ct ρ pi,rfl,hr.ren hid _ e3,hI2⟩
   .cases h
  .cases h
theorem Sat.post(hup:Up C0 C)(hf:fn.results.toList=results)(hk:C.h.length<=k)(h:Pm P results k pi st R=some (res,R2))
  (hs:Sat n C (mkL st) R a w):Kg P fn C0 res R2 .ret a w:=by
 obtain⟨h1,_,S,ρ,h3,h4⟩:=hs;have hk0:C0.h.length<=k:=aG hup.hl hk;show LeavesInM (FR none) 0 P fn a.tmps _ a.defers .returning w;rw[h1];rcases hup.df with hd|⟨D,hd,hD0⟩
 .rw[hd];exact Atp hf hk0 h (hup.up _ _ _ _ h3) h4
 .rw[hd];obtain⟨D',e,m1,m2,m3,m4⟩:=h3.gl.2.2 _ (by rw[hd];exact aF.2 rfl);have:D'=D:=by injection e with e1 _;injection e1 with e1;exact e1.symm
  subst this;have hK:w.heap[D']?=some (.deferred (some [])):=(h3.frm D' m1 m2).trans m4;have hS:¬S D':=λhSD=>by
   rcases(h3.sup D' hSD).2 with q|q|q
   .exact m3 q
   .exact m2 q
   .omega
  have hR:∀(i:Nat) r h,R[i]?=some r->ρ[i]?=some h->¬r.foot h D':=λi r h g1 g2 g3=>by
   rcases(h3.own i r h D' g1 g2 g3).2.2 with q|q
   .exact m2 q
   .omega
  obtain⟨g1,g2⟩:=(hup.up _ _ _ _ h3).shut hD0 hS hR (.deferred none);refine⟨by simp,.inl ⟨D',_,rfl,run_takeDeferred hK,?_⟩⟩;refine Atp hf hk0 h g1 λe he=>?_;obtain⟨q1,q2⟩:=h4 e he;refine⟨λhp=>?_,q2⟩;obtain⟨x,hx,hr⟩:=q1 hp;exact⟨x,hx,hr.mono (λ_ h=>h) g2 (Pre.refl _)⟩
def Wb:Nat->List AV->St
 |_,[]=>[]
 |i,v::l=>(i,v)::Wb (i+1) l
theorem zH:∀{l:List AV}{i:Nat}{e:Ent},e∈mkL (Wb i l)->∃j,e.t=i+j/\e.p=[]/\l[j]?=some e.v
 | [],i,e,h=>by cases h
 | v::l,i,e,h=>by
  rcases ah.1 h with rfl|h
  .exact⟨0,rfl,rfl,rfl⟩
  .obtain⟨j,h1,h2,h3⟩:=zH h;exact⟨j+1,by omega,h2,by simpa using h3⟩
theorem Ac1{f:FuncId}{args:List AV}(hf:P.funcs[f]?=some fn)(hb:fn.body=some c)(hn:fn.ntmps=n)(hl:args.length<=n)
  (h:∀C:Ctx,C.df=[]->C.h.length=R.length->W none P n C (Kg P fn C res R2) c (Wb 0 args) R):CallOk P f args R res R2:=by
 intro S w ρ vs hst hv;refine callsIn_wide.1 (callsIn_of_wp_marks (F:=Fence.wide) (n:=0) hf hb trivial ?_);have hlen:=hv.length;refine h ⟨w,S,Gt ρ R,ρ,[]⟩ rfl (by simp[hst.len]) _ _ ⟨rfl,?_,S,ρ,hst.inv,λe he=>?_⟩
 .simp;omega
 .obtain⟨j,h1,h2,h3⟩:=zH he;refine⟨λ_=>?_,λhnp=>absurd (by rw[h2];exact B9) hnp⟩;obtain⟨x,hx,hr⟩:=hv.get h3;refine⟨x,?_,hr⟩;have hj:j<vs.length:=(ab.1 hx).1;simp only[aH]at h1;rw[h1];simp[Array.getElem?_append,hj];rw[af hj]at hx;simpa using hx
end
end Go.SL
namespace Go.SL
variable{α:Type}{d res:AV}{f:FuncId}{rows:List (List Pd)}{tys:List (TypeId×Nat)}{args args':List AV}{R2 R2':List Res}{ρ2:fh}{e i k size t:Nat}{v x:Value}
section
variable{P:Program}{n:Nat}{C:Ctx}{st st':St}{R R':List Res}{S S':Nat->Prop}{w w':World}{ρ ρ':fh}{a:Act}
theorem Aj9{rows:List (List α)}(h1:∀row,row∈rows->row.length=size)(hk:k<rows.length*size):∃i j row d,k=i*size+j/\rows[i]?=some row/\row[j]?=some d/\j<size:=by
 have hs:0<size:=by grind
 have hkl:k / size<rows.length:=(Nat.div_lt_iff_lt_mul hs).2 hk;have hrow:=af hkl;have hrl:=h1 _ (ae hrow);have hj:k % size<(rows[k / size]).length:=by rw[hrl];exact Nat.mod_lt _ hs
 refine⟨k / size,k % size,_,_,?_,hrow,af hj,Nat.mod_lt _ hs⟩;rw[Nat.mul_comm];exact(Nat.div_add_mod k size).symm
theorem Xu{e:Ent}(h:Wn S w ρ a e)(hS:∀b,S b->S' b)(hρ:Pre ρ ρ'):Wn S' w ρ' a e:=by refine⟨λhp=>?_,h.2⟩;obtain⟨v,hv,hr⟩:=h.1 hp;exact⟨v,hv,hr.mono hS (λ_ _=>rfl) hρ⟩
theorem Inv.swap0{r r':Res}(h:Inv C S w ρ R)(hi:R[i]?=some r)(hρ:ρ[i]?=some v)(hok:r.ok S w ρ v->r'.ok S w ρ v)(hf:∀b,r'.foot v b=r.foot v b):Inv C S w ρ (R.set i r'):=by
 refine h.regroup (λj _=>j) (by simp[h.len]) (Pre.refl _) (λj r1 v1 h1 h2=>?_) (λj r1 v1 b h1 h2 h3=>?_) (λ_ _=>rfl) rfl rfl ⟨rfl,λ_=>by grind⟩ rfl
 .rw[aK]at h1;split at h1
  .rename_i hj;subst hj;split at h1
   .cases h1;rw[hρ]at h2;cases h2;exact hok (h.ok i r v hi hρ)
   .cases h1
  .exact h.ok j r1 v1 h1 h2
 grind
def Acw(i:Nat)(tys:List (TypeId×Nat))(st:St)(R:List Res):Option (St×List Res):=
 match R[i]? with
 |some (.zsl e size rows)=>bif Nat.beq tys.length size then some (st,R.set i (.dsl e size R.length)++[.gh size tys rows none]) else none
 |_=>none
theorem Inv.deepen(h:Inv C S w ρ R)(hi:R[i]?=some (.zsl e size rows))(ht:tys.length=size) :
  ∃g,Inv C S w (ρ++[g]) (R.set i (.dsl e size R.length)++[.gh size tys rows none]):=by
 have hL:ρ.length=R.length:=h.len;have hil:i<ρ.length:=by rw[hL];exact(ab.1 hi).1
 have hρ:ρ[i]?=some ρ[i]:=af hil;generalize ρ[i]=v at hρ;have nohole:∀q,¬G7 size none q:=λq ⟨p,hp,_⟩=>by cases hp
 have key : ∃g : Value, (∀(xs cs : Array Value)(f : Fn), g = Value.func f xs cs -> (∀(k : Nat)(x : Value), xs[k]?=some x -> ¬ ∃a n c, x = Value.slice (some a) n c)) /\ (g.oneCell' = false \/ ∃f xs cs, g=.func f xs cs /\ gOk S w size tys rows none xs) /\
   (∀ρ':fh,ρ'[R.length]?=some g->(Res.dsl e size R.length).ok S w ρ' v):=by
  rcases h.ok i _ _ hi hρ with hd|hk
  .exact⟨undef,(λxs cs f h=>by cases h),.inl rfl,λρ' _=>.inl hd⟩
  .rcases hk with⟨h1,h2⟩|⟨b,o,cap,vs,h1,hb,h3,h4,h5,h6,h7⟩
   .subst h1;subst h2;refine⟨.func (.func 0) #[] #[],(λxs cs f h=>by cases h;simp),.inr ⟨_,_,_,rfl,by simp,by simp,by simp,by simp⟩,λρ' hg=>.inr ⟨_,_,_,hg,.inl ⟨rfl,by simp⟩⟩⟩
   .subst h1;have hle:rows.length*size<=cap*size:=bi _ h3;have hsz:(vs.extract o (o+rows.length*size)).size=rows.length*size:=by simp;omega
    have hget:∀(k:Nat)(x:Value),(vs.extract o (o+rows.length*size))[k]?=some x->k<rows.length*size/\vs[o+k]?=some x:=by
     intro k x hx;have hkl:k<rows.length*size:=by rw[←hsz];exact(bn.1 hx).1
     refine⟨hkl,?_⟩;rw[Array.getElem?_extract]at hx;split at hx
     .exact hx
     .cases hx
    have hns:∀(k:Nat)(x:Value),(vs.extract o (o+rows.length*size))[k]?=some x->¬ ∃a n c,x=Value.slice (some a) n c:=by
     rintro k x hx ⟨a,n,c,rfl⟩;obtain⟨hk,hv⟩:=hget k _ hx;obtain⟨i2,j2,row,d,e1,e2,e3,_⟩:=Aj9 h6 hk;obtain⟨y,hy,hz⟩:=h7 i2 row e2 j2 d e3;subst e1;rw[←bu,hy]at hv;cases hv;cases d with
     |v z=>obtain⟨e1,_,hn⟩:=hz;subst e1;exact hn
     |s r=>cases hz.1
    refine⟨.func (.func 0) (vs.extract o (o+rows.length*size)) #[],(λxs cs f h=>by cases h;exact hns),.inr ⟨_,_,_,rfl,h6,hsz,λi2 row hi2 j2 d hj2=>?_,λk1 k2 a1 n1 c1 a2 n2 c2 _ _ _ h8 _=>absurd ⟨_,_,_,rfl⟩ (hns k1 _ h8)⟩,λρ' hg=>.inr ⟨_,_,_,hg,.inr ⟨b,o,rows.length,cap,vs,rfl,hb,h3,h4,h5,hsz,λk x hx=>(hget k x hx).2⟩⟩⟩;obtain⟨y,hy,hz⟩:=h7 i2 row hi2 j2 d hj2;have hil2:i2<rows.length:=(ab.1 hi2).1;have hjl:j2<size:=by rw[←h6 row (ae hi2)];exact(ab.1 hj2).1
    have hlt:i2*size+j2<rows.length*size:=by have:(i2+1)*size<=rows.length*size:=bi _ hil2;rw[aM,ci]at this;omega
    refine⟨y,?_,?_⟩
    .rw[Array.getElem?_extract,eT (by omega),←bu];exact hy
    .cases d with
     |v z=>exact hz
     |s r=>obtain⟨rfl,rfl⟩:=hz;exact⟨rfl,λ_=>⟨_,_,af (by rw[ht];exact hjl),.inl ⟨rfl,rfl⟩⟩⟩
 obtain⟨g,hnos,hgok,hdok⟩:=key;refine⟨g,?_⟩;have hnew:(ρ++[g])[R.length]?=some g:=by rw[←hL];simp
 refine h.regroup (λj _=>j) (by simp[hL]) (Pre.append _ _) (λj r v1 h1 h2=>?_) (λj r v1 b h1 h2 h3=>?_) (λ_ _=>rfl) rfl rfl ⟨rfl,λ_=>by first|exact ag _|exact aR _⟩ rfl
 .rcases Dc h1 with k1|⟨e1,rfl⟩
  .have hjl:j<R.length:=by have:=(ab.1 k1).1;simpa using this
   have h2:ρ[j]?=some v1:=by rw[aJ (by omega)]at h2;exact h2
   rw[aK]at k1;split at k1
   .rename_i hj;subst hj;split at k1
    .cases k1;rw[hρ]at h2;cases h2;exact hdok _ hnew
    .omega
   .exact(h.ok j r v1 k1 h2).mono (λ_ h=>h) (λ_ _=>rfl) (Pre.append _ _) (λ_ _=>rfl)
  .have e2:j=R.length:=by simpa using e1
   subst e2;rw[hnew]at h2;cases h2;exact hgok
 .rcases Dc h1 with k1|⟨e1,rfl⟩
  .have hjl:j<R.length:=by have:=(ab.1 k1).1;simpa using this
   have h2:ρ[j]?=some v1:=by rw[aJ (by omega)]at h2;exact h2
   rw[aK]at k1;split at k1
   .rename_i hj;subst hj;split at k1
    .cases k1;exact⟨_,_,_,rfl,hi,h2,h3⟩
    .omega
   .exact⟨j,r,v1,rfl,k1,h2,h3⟩
  .have e2:j=R.length:=by simpa using e1
   subst e2;rw[hnew]at h2;cases h2;exfalso
   match g,h3,hnos with
   |.func f xs cs,h3,hnos=>
    obtain⟨k,x,k1,_,k3⟩:=h3
    match x,k3,k1 with
    |.slice (some ad) m cp,k3,k1=>exact hnos _ _ _ rfl k _ k1 ⟨_,_,_,rfl⟩
theorem Sat.deep(h:Acw i tys st R=some (st',R'))(hs:Sat n C (mkL st) R a w):Sat n C (mkL st') R' a w:=by
 unfold Acw at h;split at h
 .rename_i e size rows hi;cases hb:Nat.beq tys.length size with
  |false=>rw[hb]at h;simp at h
  |true=>rw[hb]at h;simp only[eO,al,aI]at h;obtain⟨rfl,rfl⟩:=h;obtain⟨h1,h2,S,ρ,h3,h4⟩:=hs;obtain⟨g,hI⟩:=h3.deepen hi (aj hb);exact⟨h1,h2,S,ρ++[g],hI,λe he=>Xu (h4 e he) (λ_ h=>h) (Pre.append _ _)⟩
 .cases h
def Acb(i:Nat)(st:St)(R:List Res):Option (St×List Res):=
 match R[i]? with
 |some (.dsl e size g)=>match R[g]? with
  |some (.gh s2 _ rows none)=>bif Nat.beq size s2&&Nat.blt 0 size then some (st,(R.set g .non).set i (.sl e size rows)) else none
  |_=>none
 |_=>none
theorem Sat.flat(h : Acb i st R = some (st', R'))(hs : Sat n C (mkL st) R a w) : Sat n C (mkL st') R' a w := by
 unfold Acb at h;split at h
 .rename_i e size g hi;split at h
  .rename_i s2 tys rows hg;cases hb:Nat.beq size s2&&Nat.blt 0 size with
   |false=>rw[hb]at h;simp at h
   | true=>
    rw[hb]at h;simp only[eO,al,aI]at h;obtain⟨rfl,rfl⟩:=h;simp only[ac]at hb;have:=aj hb.1;subst this;have hs0:0<size:=by simpa[e_]using hb.2
    obtain⟨h1,h2,S,ρ,h3,h4⟩:=hs;have hig:i≠g:=λe=>by subst e;rw[hi]at hg;cases hg
    obtain⟨v,hρi⟩:=h3.rho hi;obtain⟨u,hρg⟩:=h3.rho hg;have hF:=h3.freeze hg hρg;have hi':(R.set g .non)[i]?=some (.dsl e size g):=by rw[bS (Ne.symm hig)];exact hi
    refine⟨h1,h2,_,ρ,hF.swap0 hi' hρi (λhok=>?_) (λ_=>rfl),λe he=>Xu (h4 e he) (λ_ h=>.inl h) (Pre.refl _)⟩;rcases h3.ok i _ v hi hρi with hd|hk
    .exact .inl hd
    .refine .inr ?_;by_cases hv1:v.oneCell'=true
     .obtain⟨f,xs,cs,hg1,hgo,hform⟩:=Ou h3 hi hg hρi hv1 hs0;rw[hρg]at hg1;cases hg1;rcases hform with⟨k1,k2⟩|⟨b,o,cap,vs,k1,k2,k3,k4,k5,k6⟩
      .exact .inl ⟨k1,k2⟩
      .refine .inr ⟨b,o,cap,vs,k1,.of k2,k3,k4,k5,hgo.1,λi2 row hi2 j2 d hj2=>?_⟩;obtain⟨x,hx,hc⟩:=hgo.2.2.1 i2 row hi2 j2 d hj2;refine⟨x,by rw[bu];exact k6 _ x hx,?_⟩;cases d with
       |v y=>obtain⟨rfl,hy,_⟩:=hc;exact .v _ hy
       |s r=>
        have hno:¬G7 size none (i2*size+j2):=by rintro⟨p,hp,_⟩;cases hp
        obtain⟨e2,s3,_,hsl⟩:=hc.2 hno;have hfr:=Res.ok0.frozen (ρ:=ρ) (show (Res.sl e2 s3 r).ok0 S w ρ x from hsl);refine hfr.mono (λb hb=>?_) (λ_ _=>rfl);rcases hb with hb|hb
        .exact .inl hb
        .exact .inr ⟨_,x,hx,hno,hb⟩
     .exfalso;obtain⟨f,xs,cs,_,hk⟩:=hk;rcases hk with⟨rfl,_⟩|⟨b,o,len,cap,vs,rfl,_⟩ <;> exact hv1 rfl
  .cases h
 .cases h
def qA(t:Nat)(st:St)(R:List Res):Option (St×List Res):=
 match E0 (mkL st) t with
 | some en=>match en.v with
  |.d (.osb i lo m sz)=>match R[i]? with
   |some (.sl e s rows)=>bif Nat.beq sz s then some (Og t (.d (.os R.length)) st,R.set i .non++[.sl e s ((rows.drop lo).take m)]) else none
   |_=>none
  |_=>none
 |none=>none
theorem Qw{t:Nat}{v:AV}:∀{st:St}{e:Ent},e∈mkL (Og t v st)->(e.t=t/\e.p=[]/\e.v=v)\/(e∈mkL st/\e.t≠t)
 | [],e,h=>by cases h
 | (u, x) :: r, e, h => by
  unfold Og at h;cases hb:Nat.beq u t with
  | true=>
   rw[hb]at h;simp only[eO,mkL,ah]at h;rcases h with rfl|h
   .exact .inl ⟨aj hb,rfl,rfl⟩
   .rcases Qw h with h|⟨h,h'⟩
    .exact .inl h
    .exact .inr ⟨ak _ h,h'⟩
  | false=>
   rw[hb]at h;simp only[eQ,mkL,ah]at h;rcases h with rfl|h
   .refine .inr ⟨ai,λe=>?_⟩;simp only at e;subst e;simp at hb
   .rcases Qw h with h|⟨h,h'⟩
    .exact .inl h
    .exact .inr ⟨ak _ h,h'⟩
theorem Sat.trunc(h : qA t st R = some (st', R'))(hs : Sat n C (mkL st) R a w) : Sat n C (mkL st') R' a w := by
 unfold qA at h;split at h
 .rename_i en hen;split at h
  .rename_i i lo m sz hev;split at h
   .rename_i e s rows hi;cases hb:Nat.beq sz s with
    |false=>rw[hb]at h;simp at h
    | true=>
     rw[hb]at h;simp only[eO,al,aI]at h;obtain⟨rfl,rfl⟩:=h;have:=aj hb;subst this;obtain⟨h1,h2,S,ρ,h3,h4⟩:=hs;obtain⟨hmem,ht⟩:=C4 hen;obtain⟨v,hv,hr⟩:=(h4 en hmem).1 (by rw[Gj hmem];exact B9);rw[hev]at hr;have hr':=hr.d_inv;cases hr' with
     | @osb _ _ _ _ q ad len cap hρ hl hc hq hq2=>
      have hfootsub:∀k,(Res.sl e sz ((rows.drop lo).take m)).foot (.slice (ad.map (·.add q)) m (cap-lo)) k->(Res.sl e sz rows).foot (.slice ad len cap) k:=λk hk=>by
       cases ad with
       |none=>exact hk
       |some ad=>exact(F_ ad q).symm.trans hk
      have hI:=h3.move (w':=w) (r':=.sl e sz ((rows.drop lo).take m)) (v':=.slice (ad.map (·.add q)) m (cap-lo)) hi hρ (λ_ _ _=>rfl) (ag _) rfl ⟨rfl,λ_=>by first|exact ag _|exact aR _⟩ rfl (λk hk=>.inl (hfootsub k hk)) (by
       refine .inr ?_;rcases(h3.ok i _ _ hi hρ).live rfl with⟨k1,k2⟩|⟨b,o,cp,vs,k1,k2,k3,k4,k5,k6,k7⟩
       .cases k1;subst k2;have:m=0:=by omega
        subst this;have:lo=0:=by omega
        subst this;exact .inl ⟨rfl,by simp⟩
       .cases k1;have hml:((rows.drop lo).take m).length=m:=by rw[aT,bV];omega
        have hfit:o+q+(cap-lo)*sz<=vs.size:=by
         rcases bc lo cap with g|g
         .rw[hq2 g,bu,←aM,Nat.add_sub_cancel' (Nat.le_of_lt g)];exact k5
         .have e0:lo=cap:=Nat.le_antisymm hc g;subst e0;rw[Nat.sub_self,Nat.zero_mul];omega
        refine .inr ⟨b,o+q,cap-lo,vs,by rw[hml];show Value.slice (some (Addr.add ⟨b,o,none⟩ q)) _ _=_;rw[B1],k2,by rw[hml];omega,by omega,hfit,λrow hr=>k6 row (cC (be hr)),λi2 row hi2 j d hj=>?_⟩;grind)
      have hnew:(ρ++[Value.slice (ad.map (·.add q)) m (cap-lo)])[R.length]?=some (.slice (ad.map (·.add q)) m (cap-lo)):=by rw[←h3.len];simp
      refine⟨h1,h2,S,_,hI,λx hx=>?_⟩;rcases Qw hx with⟨g1,g2,g3⟩|⟨g1,_⟩
      .exact⟨λ_=>⟨_,by rw[g1,←ht];exact hv,by rw[g3];exact .d (.os hnew rfl)⟩,λhn=>absurd (by rw[g2];exact B9) hn⟩
      .exact Xu (h4 x g1) (λ_ h=>h) (Pre.append _ _)
   .cases h
  .cases h
 .cases h
theorem _root_.Go.SL.CallOk.frz(i:Nat)(h:CallOk P f args R res R2)(hi:R2[i]?=some (.sl e size rows)) :
  CallOk P f args R (res.frz i size rows) ((R2.set i .non).map (Res.frz i size rows)):=by
 intro S w ρ vs hs hv;refine Calls.mono (h S w ρ vs hs hv) λe w' hp=>?_;obtain⟨v,S',ρ',rfl,hr,hI⟩:=hp;obtain⟨S2,_,hI2,ha⟩:=hI.frz hi;grind
def D.own:D->Bool
 |.p (.v _)=>true
 |.os _=>true
 |.o _ _=>true
 |_=>false
mutual
def AV.own:AV->Bool
 |.d x=>x.own
 |.agg ds=>ds.all D.own
 |.tup l=>dz l
def dz:List AV->Bool
 | []=>true
 |a::r=>a.own&&dz r
end
def We:Res->Prop
 |.sl _ _ rows=>∀row,row∈rows->∀d,d∈row->∃v,d=.v v
 |.box _ cells=>cells.all D.own=true
 |.non=>True
 |_=>False
def Qa:List Res->Prop
 | []=>True
 |r::l=>We r/\Qa l
def dE:Pd->Bool
 |.v _=>true
 |_=>false
theorem Aq{enc:α->List Pd}(h:∀x,(enc x).all dE=true){z:Nat}{l:List α}:We (.sl e z (l.map enc)):=by
 intro row hr d hd;obtain⟨x,_,rfl⟩:=an.1 hr;have:=(a9.1 (h x)) d hd;cases d with
 |v y=>exact⟨y,rfl⟩
 |s r=>cases this
theorem Qa.get:∀{l:List Res}{j:Nat}{r:Res},Qa l->l[j]?=some r->We r
 | [],j,r,_,h=>by simp at h
 |a::l,0,r,hf,h=>by simp at h;subst h;exact hf.1
 |a::l,j+1,r,hf,h=>by simp at h;exact Qa.get hf.2 h
theorem Rd.own_mv{d d':D}(h:Rd S w ρ x d)(ho:d.own=true)(he:d.ren (λj=>some (k+j))=some d')(hρ:∀(j:Nat) v,ρ[j]?=some v->ρ2[k+j]?=some v):Rd S' w' ρ2 x d':=by
 cases d with
 | p y=>
  cases y with
  |v z=>simp[D.ren]at he;subst he;have hp:=h.p_inv;cases hp with|v _ h1=>exact .p (.v _ h1)
  |s r=>cases ho
 |os i=>simp[D.ren]at he;subst he;exact .os (hρ _ _ h.os_inv) h.one
 |o i off=>simp[D.ren]at he;subst he;obtain⟨b,rfl,h2⟩:=h.o_inv;exact .o (hρ _ _ h2)
 |_=>cases ho
theorem RdA.own_mv(hρ:∀(j:Nat) v,ρ[j]?=some v->ρ2[k+j]?=some v)(h:RdA S w ρ x d):d.own=true->∀d',d.ren (λj=>some (k+j))=some d'->RdA S' w' ρ2 x d':=by
 induction h with
 | d h=>
  intro ho d' he;simp only[AV.ren]at he;split at he
  .rename_i y hy;simp at he;subst he;exact .d (h.own_mv ho hy hρ)
  .cases he
 | agg h=>
  intro ho d' he;simp only[AV.ren]at he;split at he
  .rename_i es hes;simp at he;subst he;obtain⟨g1,g2⟩:=Kq hes;refine .agg (dh (by rw[h.length,g1]) λj x d hx hd=>?_);obtain⟨d0,k1,k2⟩:=g2 j d hd;exact(h.both hx k1).own_mv ((a9.1 ho) _ (ae k1)) k2 hρ
  .cases he
 | tup hl h ih=>
  intro ho d' he;simp only[AV.ren]at he;split at he
  .rename_i m hm;simp at he;subst he;obtain⟨g1,g2⟩:=Mx hm;refine .tup (by rw[hl,g1]) λj x a hx ha=>?_;obtain⟨a0,k1,k2⟩:=g2 j a ha;have hoj:∀{l:List AV},dz l=true->∀{j:Nat}{a:AV},l[j]?=some a->a.own=true:=by
    intro l;induction l with
    |nil=>intro _ j a h;simp at h
    |cons b l ih=>intro ho j a h;simp only[dz,ac]at ho;grind
   exact ih j x a0 hx k1 (hoj ho k1) a k2
  .cases he
def _root_.Go.SL.frzAll:fc->AV->List Res->Option (AV×List Res)
 | [],res,R2=>some (res,R2)
 |i::is,res,R2=>match R2[i]? with
  |some (.sl _ size rows)=>Go.SL.frzAll is (res.frz i size rows) ((R2.set i .non).map (Res.frz i size rows))
  |_=>none
theorem _root_.Go.SL.CallOk.frzAll:∀(is:fc){res res':AV}{R2 R2':List Res}(_:CallOk P f args R res R2)(_:Go.SL.frzAll is res R2=some (res',R2')),CallOk P f args R res' R2'
 | [],_,_,_,_,h,hq=>by simp only[Go.SL.frzAll,al,aI]at hq;obtain⟨rfl,rfl⟩:=hq;exact h
 | i::is,_,_,_,_,h,hq=>by
  simp only[Go.SL.frzAll]at hq;split at hq
  .rename_i e size rows hi;exact CallOk.frzAll is (h.frz i hi) hq
  .cases hq
theorem _root_.Go.SL.CallOk.lend{res':AV}(h:CallOk P f args' [] res R2)(hv:AV.viewL R [] args=some args':=by kernel_rfl)(ho:(oisL args).isEmpty=true:=by kernel_rfl)(hres:res.own=true:=by kernel_rfl)(hR:Qa R2:=by repeat first|exact trivial|refine ⟨Aq (λ_=>rfl),?_⟩)
  (e1:res.ren (λj=>some (R.length+j))=some res':=by kernel_rfl)(e2:H2 (λj=>some (R.length+j)) R2=some R2':=by kernel_rfl):CallOk P f args R res' (R++R2'):=by
 intro S w ρ vs hs hvs;have hI:=hs.inv;have hno:∀b,¬Gt [] [] b:=by rintro b ⟨i,r,h,h1,_⟩;simp at h1
 have hst:Start (J9 S ρ R) w [] []:=⟨rfl,by simp,by simp,by simp,λb hb=>by
  rcases hb with hb|⟨i,r,h,h1,h2,h3⟩
  .exact(hI.sup b hb).1
  .exact(hI.own i r h b h1 h2 h3).2.1,hI.glOk.mono (λ_ h=>.inl h) λ_ _=>rfl⟩
 have hargs:=Sb hI hvs (λg k s tys rows hm=>by rw[cI.1 ho]at hm;cases hm) hv;refine(h _ w [] vs hst hargs).mono λe w' hp=>?_;obtain⟨v,S1,ρ1,rfl,hr,hq⟩:=hp;have hsame:∀b,b<w.heap.size->w'.heap[b]?=w.heap[b]?:=λb hb=>hq.frm b hb (hno b);have hL:ρ.length=R.length:=hs.len;have hρ1:∀(j:Nat) u,ρ1[j]?=some u->(ρ++ρ1)[R.length+j]?=some u:=λj u hj=>by rw[aW (by omega),hL,show R.length+j-R.length=j from by omega];exact hj
 obtain⟨m1,m2⟩:=H7 e2;have foot_ren:∀{r r':Res}{u:Value}{b:Nat},We r->r.ren (λj=>some (R.length+j))=some r'->(r'.foot u b↔r.foot u b):=by
  intro r r' u b hf he;cases r with
  |box t cells=>
   simp only[Res.ren]at he;split at he
   .simp at he;subst he;rfl
   .cases he
  |sl e s rows=>simp[Res.ren]at he;subst he;rfl
  |non=>simp[Res.ren]at he;subst he;rfl
  |_=>exact hf.elim
 have key:∀(i:Nat) r u,(R++R2')[i]?=some r->(ρ++ρ1)[i]?=some u->(R[i]?=some r/\ρ[i]?=some u/\i<R.length)\/∃j r0,i=R.length+j/\R2[j]?=some r0/\r0.ren (λj=>some (R.length+j))=some r/\ρ1[j]?=some u:=by
  intro i r u h1 h2;rcases bc i R.length with hi|hi
  .rw[aJ hi]at h1;rw[aJ (by omega)]at h2;exact .inl ⟨h1,h2,hi⟩
  .rw[aW hi]at h1;rw[aW (by omega),hL]at h2;obtain⟨r0,g1,g2⟩:=m2 _ r h1;exact .inr ⟨i-R.length,r0,by omega,g1,g2,h2⟩
 have hsub:∀b,J9 S ρ R b->S1 b:=hq.sub;refine⟨v,S,ρ++ρ1,rfl,hr.own_mv hρ1 hres res' e1,⟨?_,?_,?_,?_,λ_ h=>h,?_,?_,hq.size,hq.os,hq.tape,hq.output,Pre.append _ _,hI.gl⟩⟩
 .rw[aw,aw,hL,m1,←hq.len]
 .intro i r u h1 h2;rcases key i r u h1 h2 with⟨g1,g2,_⟩|⟨j,r0,rfl,g1,g2,g3⟩
  .exact(hI.ok i r u g1 g2).mono (λ_ h=>h) (λb hb=>hsame b (hI.sup b hb).1) (Pre.append _ _) (λb hb=>hsame b (hI.own i r u b g1 g2 hb).2.1)
  .have hf:=hR.get g1;rcases hq.ok j r0 u g1 g3 with hd|hk
   .exact .inl hd
   .refine .inr ?_;cases r0 with
    | box t cells=>
     simp only[Res.ren]at g2;split at g2
     .rename_i cs hcs;simp at g2;subst g2;obtain⟨b,vs2,rfl,hb,hc⟩:=hk;obtain⟨q1,q2⟩:=Kq hcs;refine⟨b,vs2,rfl,hb,dh (by rw[hc.length,q1]) λi x d hx hd=>?_⟩;obtain⟨d0,p1,p2⟩:=q2 i d hd;exact(hc.both hx p1).own_mv ((a9.1 hf) _ (ae p1)) p2 hρ1
     .cases g2
    | sl e s rows=>
     simp[Res.ren]at g2;subst g2;rcases hk with h0|⟨b,o,cap,vs2,rfl,hb,k1,k2,k3,k4,k5⟩
     .exact .inl h0
     .refine .inr ⟨b,o,cap,vs2,rfl,hb,k1,k2,k3,k4,λi row hi j d hj=>?_⟩;obtain⟨x,hx,hr⟩:=k5 i row hi j d hj;obtain⟨y,rfl⟩:=hf row (ae hi) d (ae hj);cases hr with|v _ h1=>exact⟨_,hx,.v _ h1⟩
    |non=>simp[Res.ren]at g2;subst g2;trivial
    |_=>exact hf.elim
 .intro i j r r' u u' b hij h1 h2 h3 h4 h5 h6;rcases key i r u h1 h3 with⟨g1,g2,g3⟩|⟨i0,r0,rfl,g1,g2,g3⟩ <;> rcases key j r' u' h2 h4 with⟨k1,k2,k3⟩|⟨j0,q0,rfl,k1,k2,k3⟩
  .exact hI.dis i j r r' u u' b hij g1 k1 g2 k2 h5 h6
  .rw[foot_ren (hR.get k1) k2]at h6;exact(hq.own j0 q0 u' b k1 k3 h6).1 (hsub b (.inr ⟨i,r,u,g1,g2,h5⟩))
  .rw[foot_ren (hR.get g1) g2]at h5;exact(hq.own i0 r0 u b g1 g3 h5).1 (hsub b (.inr ⟨j,r',u',k1,k2,h6⟩))
  .rw[foot_ren (hR.get g1) g2]at h5;rw[foot_ren (hR.get k1) k2]at h6;exact hq.dis i0 j0 r0 q0 u u' b (λe=>hij (by rw[e])) g1 k1 g3 k3 h5 h6
 .intro i r u b h1 h2 h3;rcases key i r u h1 h2 with⟨g1,g2,g3⟩|⟨i0,r0,rfl,g1,g2,g3⟩
  .obtain⟨o1,o2,o3⟩:=hI.own i r u b g1 g2 h3;exact⟨o1,aQ o2 hq.size,o3⟩
  .rw[foot_ren (hR.get g1) g2]at h3;obtain⟨o1,o2,o3⟩:=hq.own i0 r0 u b g1 g3 h3;refine⟨λhb=>o1 (hsub b (.inl hb)),o2,?_⟩;rcases o3 with o3|o3
   .exact absurd o3 (hno b)
   .exact .inr o3
 .intro b hb;exact⟨aQ (hI.sup b hb).1 hq.size,.inl hb⟩
 .intro b hb _;exact hsame b hb
end
end Go.SL
