import Derived.Test.YtkcebipolafapaaGreatSlTD
namespace Go.SL
variable{σ τ:Type}{res:AV}{ops:Array Oper}{b draw:Bool}{C0:Ctx}{fn:Func}{f:FuncId}{bs:List (Bool×Bool)}{rows:List (List Pd)}{cls cs:List Cl}{R2 fl:List Res}{i id:Nat}
inductive It where
 |c (x:Code)
 |b (id:Nat)
 |k (K:Act->World->Prop)
 |l (x:Code) (m:Nat)
def Qs(ro:Option Nat)(P:Program):List It->(Exit->Act->World->Prop)->Exit->Act->World->Prop
 | [],Q=>Q
 |.c x::l,Q=>Exit.then (x.wpIn (FR ro) 0 P (Qs ro P l Q)) (Qs ro P l Q)
 |.b id::l,Q=>Exit.inBlock id (Qs ro P l Q)
 |.k K::l,Q=>Exit.then K (Qs ro P l Q)
 |.l x m::l,Q=>Exit.then (Code.roundsIn (FR ro) 0 P x (Qs ro P l Q) m) (Qs ro P l Q)
def WI(ro:Option Nat)(P:Program)(n:Nat)(C:Ctx)(Q:Exit->Act->World->Prop)(l:List It)(st:St)(R:List Res):Prop:=
 ∀a w,Sat n C (mkL st) R a w->Qs ro P l Q .normal a w
def unw(id:Nat):List It->Option (List It)
 | []=>none
 |.c _::l=>unw id l
 |.k _::l=>unw id l
 |.l _ _::l=>unw id l
 |.b id'::l=>bif Nat.beq id' id then some l else unw id l
inductive Ak3 where
 |ret
 |stop
def Q5(lv:fc):List Ent->List Ent
 | []=>[]
 |e::r=>bif e.p.isEmpty&&Me lv e.t then e::Q5 lv r else Q5 lv r
def Avi(o:Oper):Bool:=
 match o.op with
 |.alloc _=>true
 |.makeSlice ..=>true
 |_=>false
def Axd(ops:Array Oper):List Cl->Option (List Res)
 |.flts l::_=>bif ops.toList.any Avi then some l else none
 |_=>none
def Ai6(P:Program)(n:Nat)(ops:Array Oper)(draw:Bool)(L:List Ent)(R:List Res)(cls:List Cl)(lv:fc):Option (List Ent×List Res×List Cl):=
 match draw with
 |false=>match Vx P n ops (List.range ops.size) L R cls with
  |some (L',R',cs)=>some (Q5 lv L',R',cs)
  |none=>none
 | true=>match Axd ops cls with
  |some fl=>match Sz P n ops (List.range ops.size) L (R++fl) cls.tail with
   |some (rs,L',R',cs)=>bif Ru ops L rs&&Tr R.length (R.length+fl.length) rs then some (Q5 lv L',R',.flts fl::cs) else none
   |none=>none
  |none=>match Sz P n ops (List.range ops.size) L R cls with
   |some (rs,L',R',cs)=>bif Ru ops L rs&&Tr 0 0 rs then some (Q5 lv L',R',cs) else none
   |none=>none
def Ajv(L:List Ent)(c:Operand):Option Bool:=
 match c with
 |.const (.bool b)=>some b
 |.tmp t=>match E0 L t with
  |some e=>bif e.p.isEmpty then Lk e.v else none
  |none=>none
 |_=>none
def Ars:Code->Bool
 |.loop _=>true
 |_=>false
def A0(P : Program)(n : Nat)(lv : fc) : Nat -> List It -> List Ent -> List Res -> fe -> List Cl -> Option (Ak3 × List Ent × List Res × List Cl × List (Bool × Bool))
 |0,_,L,R,_,_=>some (.stop,L,R,[],[])
 | fuel+1,items,L,R,ds,cls=>match items with
  | []=>some (.stop,L,R,[],[])
  |.k _::_=>some (.stop,L,R,[],[])
  |.b _::l=>A0 P n lv fuel l L R ds cls
  |.l x m::l=>match m with
   |0=>none
   |m+1=>A0 P n lv fuel (.c x :: .l x m::l) L R ds cls
  | .c x::l=>match x with
   |.skip=>A0 P n lv fuel l L R ds cls
   |.seq a b=>A0 P n lv fuel (.c a :: .c b::l) L R ds cls
   | .region _ ops draw=>match Ai6 P n ops draw L R cls lv with
    |some (L',R',cs)=>match A0 P n lv fuel l L' R' ds (cls.drop cs.length) with
     |some (lf,L2,R2,cs2,bs)=>some (lf,L2,R2,cs++cs2,bs)
     |none=>none
    |none=>none
   | .cond c x y=>match ds with
    | []=>some (.stop,L,R,[],[])
    | d::ds=>match Ajv L c with
     |some b=>match A0 P n lv fuel ((match d with|true=>.c x|false=>.c y)::l) L R ds cls with
      |some (lf,L2,R2,cs2,bs)=>some (lf,L2,R2,cs2,(b,d)::bs)
      |none=>none
     |none=>none
   |.block id c=>match Ars c,ds with
    |true,[]=>some (.stop,L,R,[],[])
    |true,_::ds=>A0 P n lv fuel (.c c :: .b id::l) L R ds cls
    |false,ds=>A0 P n lv fuel (.c c :: .b id::l) L R ds cls
   |.exit id=>match unw id l with
    |some l'=>A0 P n lv fuel l' L R ds cls
    |none=>none
   |.ret=>some (.ret,L,R,[],[])
   |.loop x=>match ds with
    | []=>some (.stop,L,R,[],[])
    |_::ds=>A0 P n lv fuel (.c x :: .l x 1000::l) L R ds cls
   |_=>some (.stop,L,R,[],[])
def A5 : Nat -> List It -> fe -> List It
 |0,items,_=>items
 | fuel+1,items,ds=>match items with
  | []=>[]
  |.k K::l=>.k K::l
  |.b _::l=>A5 fuel l ds
  |.l x m::l=>match m with
   |0=>.l x 0::l
   |m+1=>A5 fuel (.c x :: .l x m::l) ds
  | .c x::l=>match x with
   |.skip=>A5 fuel l ds
   |.seq a b=>A5 fuel (.c a :: .c b::l) ds
   |.region _ _ _=>A5 fuel l ds
   |.cond c x y=>match ds with
    | []=>.c (.cond c x y)::l
    |d::ds=>A5 fuel ((match d with|true=>.c x|false=>.c y)::l) ds
   |.block id c=>match Ars c,ds with
    |true,[]=>.c (.block id c)::l
    |true,_::ds=>A5 fuel (.c c :: .b id::l) ds
    |false,ds=>A5 fuel (.c c :: .b id::l) ds
   |.exit id=>match unw id l with
    |some l'=>A5 fuel l' ds
    |none=>.c (.exit id)::l
   |.loop x=>match ds with
    | []=>.c (.loop x)::l
    |_::ds=>A5 fuel (.c x :: .l x 1000::l) ds
   |y=>.c y::l
section
variable{ro:Option Nat}{P:Program}{n:Nat}{C:Ctx}{Q:Exit->Act->World->Prop}{st st':St}{R R':List Res}{L L':List Ent}{S S':Nat->Prop}{w w':World}{ρ ρ':fh}{a:Act}{lv:fc}
theorem P_:∀{l:List It},Q .ret a w->Qs ro P l Q .ret a w
 | [],h=>h
 |.c _::l,h=>P_ (l:=l) h
 |.b _::l,h=>P_ (l:=l) h
 |.k _::l,h=>P_ (l:=l) h
 |.l _ _::l,h=>P_ (l:=l) h
theorem Sn{id:Nat}:∀{l l':List It},unw id l=some l'->Qs ro P l' Q .normal a w->Qs ro P l Q (.exit id) a w
 | [],l',h,_=>by simp[unw]at h
 |.c _::l,l',h,hq=>Sn (l:=l) h hq
 |.k _::l,l',h,hq=>Sn (l:=l) h hq
 |.l _ _::l,l',h,hq=>Sn (l:=l) h hq
 | .b id'::l,l',h,hq=>by
  simp only[unw]at h;show (if id=id' then Qs ro P l Q .normal a w else Qs ro P l Q (.exit id) a w);cases hb:Nat.beq id' id with
  |true=>rw[hb]at h;simp at h;subst h;rw[eT (aj hb).symm];exact hq
  |false=>
   rw[hb]at h;simp only[eQ]at h;have:¬(id=id'):=by rintro rfl;simp at hb
   rw[eU this];exact Sn h hq
theorem H8:∀{L:List Ent}{e:Ent},e∈Q5 lv L->e∈L/\e.p=[]
 | [],e,h=>by cases h
 | x::r,e,h=>by
  simp only[Q5]at h;cases hb:(x.p.isEmpty&&Me lv x.t) with
  | true=>
   rw[hb]at h;simp only[eO]at h;rcases ah.1 h with rfl|h
   .simp only[ac,cI]at hb;exact⟨ai,hb.1⟩
   .exact⟨ak _ (H8 h).1,(H8 h).2⟩
  |false=>rw[hb]at h;simp only[eQ]at h;exact⟨ak _ (H8 h).1,(H8 h).2⟩
theorem Sat.drew{L:List Ent}(hs:Sat n C L R a w):Sat n C L R a w.drew:=by obtain⟨h1,h2,S,ρ,h3,h4⟩:=hs;refine⟨h1,h2,S,ρ,h3.drew,λe he=>?_⟩;obtain⟨k1,k2⟩:=h4 e he;refine⟨λhp=>?_,k2⟩;obtain⟨v,hv,hr⟩:=k1 hp;exact⟨v,hv,hr.mono (λ_ h=>h) (λ_ _=>rfl) (Pre.refl _)⟩
theorem Ag9{rs:List Rec}{lo hi:Nat}(hs:Sat n C L R a w)(e1:Sz P n ops (List.range ops.size) L (R++fl) cls=some (rs,L',R',cs))(hok:Cg P cs)
  (hb:Ru ops L rs=true)(hr:∀i,i∈I7 rs->R.length<=i/\i<R.length+fl.length)(hfl:Tr lo hi rs=true)(hK:∀a w,Sat n C L' R' a w->Q .normal a w) :
  wpAnyIn (FR ro) 0 P .any ops Q ops.size (Array.replicate ops.size false) a w.drew:=by
 obtain⟨c1,c2⟩:=Q0 e1 hok;obtain⟨h1,h2,S,ρ,h3,h4⟩:=hs.drew;have hnd:Fe (I7 rs)=true:=by unfold Tr at hfl;simp only[ac]at hfl;exact hfl.1
 have hCl:C.h.length<=ρ.length:=by
  rcases bc ρ.length C.h.length with hlt|hge
  .have:=h3.pre _ _ (af hlt);have:=(ab.1 this).1;omega
  .exact hge
 have hF:As6 C rs:=⟨Ts hnd,λr i hrs hfi=>by have:=(hr i (Lz hrs hfi)).1;rw[h3.len]at hCl;omega⟩;obtain⟨ρ',h5,h6,h7⟩:=h3.dummies fl;refine Ayi (C:=C) c1 c2 (Akw hb) hF hK ops.size _ a _ (by simp) ?_ ?_ ⟨h1,h2,S,ρ',?_,λe he=>?_,λr i hrs hfi _=>?_⟩
 .unfold unl;refine aG (bk _ _) (by simp)
 .intro j o hj;simp only[bE,Array.getElem?_replicate]at hj;split at hj <;> simp at hj
 .have:D4 (λi=>(Array.replicate ops.size false).getD i false) (R++fl) rs=R++fl:=F2 λr _ _=>by
   simp only[bE,Array.getElem?_replicate];split <;> simp
  rw[this];exact h5
 .rcases he with⟨g1,_⟩|⟨r,_,g2,_⟩
  .obtain⟨k1,k2⟩:=h4 e g1;refine⟨λhp=>?_,k2⟩;obtain⟨v,hv,hr⟩:=k1 hp;exact⟨v,hv,hr.mono (λ_ h=>h) (λ_ _=>rfl) h6⟩
  .simp only[bE,Array.getElem?_replicate]at g2;split at g2 <;> simp at g2
 .obtain⟨m1,m2⟩:=hr i (Lz hrs hfi);exact h7 i m1 m2
theorem Au5(hm:P.follows .mixedOrders=true)(h:Ai6 P n ops draw L R cls lv=some (L',R',cs))(hok:Cg P cs)
  (hs:Sat n C L R a w)(hK:∀a w,Sat n C L' R' a w->Q .normal a w):(Code.region id ops draw).wpIn (FR ro) 0 P Q a w:=by
 cases draw with
 | false=>
  refine wpIn_region ?_;simp only[Ai6]at h;split at h
  .rename_i L1 R1 cs1 e1;simp at h;obtain⟨rfl,rfl,rfl⟩:=h;exact Sj (Xr e1 hok hs λa' w' h'=>hK a' w' (h'.sub λe he=>(H8 he).1))
  .cases h
 | true=>
  refine wpIn_region_any hm ?_;simp only[Ai6]at h;split at h
  .rename_i fl _;split at h
   .rename_i rs L1 R1 cs1 e1;cases hb:(Ru ops L rs&&Tr R.length (R.length+fl.length) rs) with
    |false=>rw[hb]at h;simp at h
    |true=>rw[hb]at h;simp at h;obtain⟨rfl,rfl,rfl⟩:=h;simp only[ac]at hb;refine Ag9 (fl:=fl) hs e1 hok.2 hb.1 (λi hi=>?_) hb.2 λa' w' h'=>hK a' w' (h'.sub λe he=>(H8 he).1);have:=(a9.1 (by unfold Tr at hb;simp only[ac]at hb;exact hb.2.2)) i hi;simp only[ac]at this;exact⟨bp this.1,by have:=this.2;simpa[e_]using this⟩
   .cases h
  .split at h
   .rename_i rs L1 R1 cs1 e1;cases hb:(Ru ops L rs&&Tr 0 0 rs) with
    |false=>rw[hb]at h;simp at h
    |true=>rw[hb]at h;simp at h;obtain⟨rfl,rfl,rfl⟩:=h;simp only[ac]at hb;refine Ag9 (fl:=[]) (lo:=0) (hi:=0) hs (by simpa using e1) hok hb.1 (λi hi=>?_) hb.2 λa' w' h'=>hK a' w' (h'.sub λe he=>(H8 he).1);have:=(a9.1 (by unfold Tr at hb;simp only[ac]at hb;exact hb.2.2)) i hi;simp[e_]at this
   .cases h
theorem Ar8{c:Operand}(hs:Sat n C L R a w)(hc:Ajv L c=some b):a.eval c=.bool b:=by
 obtain⟨_,_,S,ρ,_,h4⟩:=hs;unfold Ajv at hc;split at hc
 .simp at hc;subst hc;rfl
 .rename_i t;split at hc
  .rename_i e he;cases hp:e.p.isEmpty with
   |false=>rw[hp]at hc;simp at hc
   |true=>rw[hp]at hc;simp only[eO]at hc;have:=(Rm h4 he hc).1 (by rw[cI.1 hp];exact B9);simp[Act.eval,eV,this]
  .cases hc
 .cases hc
theorem dv:∀{l m:List Cl},Cg P (l++m)->Cg P l
 | [],_,_=>trivial
 |_::_,_,h=>⟨h.1,dv h.2⟩
theorem du:∀{l m:List Cl},Cg P (l++m)->Cg P m
 | [],_,h=>h
 |_::l,_,h=>du (l:=l) h.2
def Ad1(ro:Option Nat)(P:Program)(n:Nat)(C:Ctx)(Q:Exit->Act->World->Prop)(lf:Ak3)(L:List Ent)(R:List Res)(its:List It):Prop:=
 match lf with
 |.ret=>∀a w,Sat n C L R a w->Q .ret a w
 |.stop=>∀a w,Sat n C L R a w->Qs ro P its Q .normal a w
theorem D7(hm : P.follows .mixedOrders = true) : ∀{fuel : Nat}{items : List It}{L : List Ent}{R : List Res}{ds : fe}{cls : List Cl}{lf : Ak3}{L' : List Ent}{R' : List Res}{cs : List Cl}{bs : List (Bool × Bool)}{a : Act}{w : World},
  A0 P n lv fuel items L R ds cls=some (lf,L',R',cs,bs)->Cg P cs->Ck bs->Sat n C L R a w ->
  Ad1 ro P n C Q lf L' R' (A5 fuel items ds)->Qs ro P items Q .normal a w:=by
 intro fuel;induction fuel with
 |zero=>intro items L R ds cls lf L' R' cs bs a w h hok hbs hs hK;simp only[A0,al,aI]at h;obtain⟨rfl,rfl,rfl,rfl,rfl⟩:=h;simp only[A5]at hK;exact hK a w hs
 | succ fuel ih =>
  intro items L R ds cls lf L' R' cs bs a w h hok hbs hs hK;have stop:∀{items},A5 (fuel+1) items ds=items->some (Ak3.stop,L,R,([]:List Cl),([]:List (Bool×Bool)))=some (lf,L',R',cs,bs) ->
    Ad1 ro P n C Q lf L' R' (A5 (fuel+1) items ds)->Qs ro P items Q .normal a w:=by
   intro items hsk h hK;simp only[al,aI]at h;obtain⟨rfl,rfl,rfl,rfl,rfl⟩:=h;rw[hsk]at hK;exact hK a w hs
  cases items with
  |nil=>exact stop rfl h hK
  | cons it l=>
   cases it with
   |k K=>exact stop rfl h hK
   |b id=>exact ih (items:=l) h hok hbs hs hK
   |l x m=>
    cases m with
    |zero=>simp[A0]at h
    |succ m=>exact ih (items:=.c x :: .l x m::l) h hok hbs hs hK
   | c x =>
    cases x with
    |skip=>exact wpIn_skip (ih (items:=l) h hok hbs hs hK)
    |seq x y=>exact wpIn_seq (ih (items:=.c x :: .c y::l) h hok hbs hs hK)
    | region id ops draw=>
     simp only[A0]at h;split at h
     .rename_i L1 R1 cs1 e1;split at h
      .rename_i lf2 L2 R2 cs2 bs2 e2;simp only[al,aI]at h;obtain⟨rfl,rfl,rfl,rfl,rfl⟩:=h;exact Au5 hm e1 (dv hok) hs λa' w' hs'=>ih (items:=l) e2 (du hok) hbs hs' hK
      .cases h
     .cases h
    | cond c x y=>
     cases ds with
     |nil=>exact stop rfl h hK
     | cons d ds=>
      simp only[A0]at h;split at h
      .rename_i b hb;split at h
       .rename_i lf2 L2 R2 cs2 bs2 e2;simp only[al,aI]at h;obtain⟨rfl,rfl,rfl,rfl,rfl⟩:=h;have he:=Ar8 hs hb;have hd:b=d:=hbs.1;subst hd;cases b with
        |true=>exact wpIn_cond_true he (ih (items:=.c x::l) e2 hok hbs.2 hs hK)
        |false=>exact wpIn_cond_false he (ih (items:=.c y::l) e2 hok hbs.2 hs hK)
       .cases h
      .cases h
    | block id c=>
     cases hl:Ars c with
     | true=>
      cases ds with
      |nil=>simp only[A0,hl]at h;exact stop (by simp only[A5,hl]) h hK
      |cons d ds=>simp only[A0,hl]at h;simp only[A5,hl]at hK;exact wpIn_block (ih (items:=.c c :: .b id::l) h hok hbs hs hK)
     |false=>simp only[A0,hl]at h;simp only[A5,hl]at hK;exact wpIn_block (ih (items:=.c c :: .b id::l) h hok hbs hs hK)
    | exit id=>
     simp only[A0]at h;split at h
     .rename_i l' hl';have hK':Ad1 ro P n C Q lf L' R' (A5 fuel l' ds):=by
       cases lf with
       |ret=>exact hK
       |stop=>intro a w h2;have:=hK a w h2;simp only[A5,hl']at this;exact this
      exact wpIn_exit (Sn hl' (ih (items:=l') h hok hbs hs hK'))
     .cases h
    |ret=>simp only[A0,al,aI]at h;obtain⟨rfl,rfl,rfl,rfl,rfl⟩:=h;exact wpIn_ret (P_ (l:=l) (hK a w hs))
    |loop c=>
     cases ds with
     |nil=>exact stop rfl h hK
     |cons d ds=>exact wpIn_loop_rounds 1001 (ih (items:=.c c :: .l c 1000::l) h hok hbs hs hK)
    |rangeFunc f ps x y=>exact stop rfl h hK
    |scope c=>exact stop rfl h hK
    |label c=>exact stop rfl h hK
    |goto c=>exact stop rfl h hK
    |refuse c=>exact stop rfl h hK
inductive Adj where
 |frz (i:Nat)
 |own (t e size:Nat)
 |mv (i:Nat)
 |ownb (i j e size:Nat)
 |ownt (t j e size:Nat)
 |deep (i:Nat) (tys:List (TypeId×Nat))
 |flat (i:Nat)
 |trunc (t:Nat)
def De:List Adj->St->List Res->Option (St×List Res)
 | [],st,R=>some (st,R)
 |.frz i::l,st,R=>match Aju i st R with
  |some (st',R')=>De l st' R'
  |none=>none
 |.own t e s::l,st,R=>match Aja t e s st R with
  |some (st',R')=>De l st' R'
  |none=>none
 |.mv i::l,st,R=>match Ari i st R with
  |some (st',R')=>De l st' R'
  |none=>none
 |.ownb i j e s::l,st,R=>match Abm i j e s st R with
  |some (st',R')=>De l st' R'
  |none=>none
 |.ownt t j e s::l,st,R=>match Abl t j e s st R with
  |some (st',R')=>De l st' R'
  |none=>none
 |.deep i tys::l,st,R=>match Acw i tys st R with
  |some (st',R')=>De l st' R'
  |none=>none
 |.flat i::l,st,R=>match Acb i st R with
  |some (st',R')=>De l st' R'
  |none=>none
 |.trunc t::l,st,R=>match qA t st R with
  |some (st',R')=>De l st' R'
  |none=>none
theorem Sat.adj:∀{l:List Adj}{st:St}{R:List Res}{st':St}{R':List Res},De l st R=some (st',R')->Sat n C (mkL st) R a w->Sat n C (mkL st') R' a w
 | [],st,R,st',R',h,hs=>by simp only[De,al,aI]at h;obtain⟨rfl,rfl⟩:=h;exact hs
 | .frz i::l,st,R,st',R',h,hs=>by
  simp only[De]at h;split at h
  .rename_i s1 R1 e1;exact Sat.adj h (hs.frz e1)
  .cases h
 | .own t e s::l,st,R,st',R',h,hs=>by
  simp only[De]at h;split at h
  .rename_i s1 R1 e1;exact Sat.adj h (hs.own e1)
  .cases h
 | .mv i::l,st,R,st',R',h,hs=>by
  simp only[De]at h;split at h
  .rename_i s1 R1 e1;exact Sat.adj h (hs.mv e1)
  .cases h
 | .ownb i j e s::l,st,R,st',R',h,hs=>by
  simp only[De]at h;split at h
  .rename_i s1 R1 e1;exact Sat.adj h (hs.ownb e1)
  .cases h
 | .ownt t j e s::l,st,R,st',R',h,hs=>by
  simp only[De]at h;split at h
  .rename_i s1 R1 e1;exact Sat.adj h (hs.ownt e1)
  .cases h
 | .deep i tys::l,st,R,st',R',h,hs=>by
  simp only[De]at h;split at h
  .rename_i s1 R1 e1;exact Sat.adj h (hs.deep e1)
  .cases h
 | .flat i::l,st,R,st',R',h,hs=>by
  simp only[De]at h;split at h
  .rename_i s1 R1 e1;exact Sat.adj h (hs.flat e1)
  .cases h
 | .trunc t::l,st,R,st',R',h,hs=>by
  simp only[De]at h;split at h
  .rename_i s1 R1 e1;exact Sat.adj h (hs.trunc e1)
  .cases h
def Sq:List Ent->St
 | []=>[]
 |e::r=>bif e.p.isEmpty then (e.t,e.v)::Sq r else Sq r
theorem Km:∀{L:List Ent}{e:Ent},e∈mkL (Sq L)->e∈L
 | [],e,h=>by cases h
 | x :: r, e, h => by
  simp only[Sq]at h;cases hb:x.p.isEmpty with
  | true=>
   rw[hb]at h;simp only[eO]at h;rcases ah.1 h with rfl|h
   .have:(⟨x.t,[],x.v⟩:Ent)=x:=by
     obtain⟨xt,xp,xv⟩:=x;simp at hb ⊢;exact hb
    rw[this];exact ai
   .exact ak _ (Km h)
  |false=>rw[hb]at h;exact ak _ (Km h)
def M7(P:Program)(n:Nat)(lv:fc)(fuel:Nat)(items:List It)(st:St)(R:List Res)(ds:fe)(cls:List Cl)(adj:List Adj)(results:List ResultVar)(k:Nat)(pi:fc):Option (AV×List Res×List Cl×List (Bool×Bool)):=
 match A0 P n lv fuel items (mkL st) R ds cls with
 | some (.ret,L,R1,cs,bs)=>match De adj (Sq L) R1 with
  |some (st2,R2)=>match Pm P results k pi st2 R2 with
   |some (v,R3)=>some (v,R3,cs,bs)
   |none=>none
  |none=>none
 |_=>none
def Bz(P:Program)(n:Nat)(lv:fc)(fuel:Nat)(items:List It)(st:St)(R:List Res)(ds:fe)(cls:List Cl)(adj:List Adj)(k:Nat)(pi ts:fc):Option (St×List Res×List Cl×List (Bool×Bool)):=
 match A0 P n lv fuel items (mkL st) R ds cls with
 | some (.stop,L,R1,cs,bs)=>match De adj (Sq L) R1 with
  |some (st2,R2)=>match qI k pi ts st2 R2 with
   |some (st3,R3)=>some (st3,R3,cs,bs)
   |none=>none
  |none=>none
 |_=>none
variable{items:List It}
theorem Ah3(hm:P.follows .mixedOrders=true)(lv:fc)(fuel:Nat)(ds:fe)(cls:List Cl)(adj:List Adj)(results:List ResultVar)(k:Nat)(pi:fc) 
  (hf:fn.results.toList=results)(hk:C.h.length<=k)(hok:Cg P cls)(hbs:Ck bs)(h:M7 P n lv fuel items st R ds cls adj results k pi=some (res,R2,cls,bs))(hup:Up C0 C):WI ro P n C (Kg P fn C0 res R2) items st R:=by
 intro a w hs;unfold M7 at h;split at h
 .rename_i L R1 cs bs1 e1;split at h
  .rename_i st2 R3 e2;split at h
   .rename_i v R4 e3;simp only[al,aI]at h;obtain⟨rfl,rfl,rfl,rfl⟩:=h;exact D7 hm e1 hok hbs hs λa' w' hs'=>((hs'.sub λe he=>Km he).adj e2).post hup hf hk e3
   .cases h
  .cases h
 .cases h
def Ctx.z(C:Ctx):Ctx:={C with df:=[]}
theorem Uk(hm:P.follows .mixedOrders=true)(lv:fc)(fuel:Nat)(ds:fe)(cls:List Cl)(adj:List Adj)(results:List ResultVar)(k:Nat)(pi:fc) 
  (hf:fn.results.toList=results)(hk:C.h.length<=k)(hok:Cg P cls)(hbs:Ck bs)(h:M7 P n lv fuel items st R ds cls adj results k pi=some (res,R2,cls,bs)):WI ro P n C.z (Kg P fn C.z res R2) items st R:=
 Ah3 (C:=C.z) hm lv fuel ds cls adj results k pi hf hk hok hbs h (dy rfl)
def Sm(P:Program)(n:Nat)(lv:fc)(fuel:Nat)(items:List It)(st:St)(R:List Res)(ds:fe)(cls:List Cl)(adj:List Adj)(results:List ResultVar)(k:Nat)(pi:fc):Option (AV×List Res×List Cl×List (Bool×Bool)):=
 match A0 P n lv fuel items (mkL st) R ds cls with
 | some (.stop,L,R1,cs,bs)=>match De adj (Sq L) R1 with
  |some (st2,R2)=>match Pm P results k pi st2 R2 with
   |some (v,R3)=>some (v,R3,cs,bs)
   |none=>none
  |none=>none
 |_=>none
def Ajf:List It->Bool
 | []=>true
 |_=>false
theorem Awi(hm:P.follows .mixedOrders=true)(lv:fc)(fuel:Nat)(ds:fe)(cls:List Cl)(adj:List Adj)(results:List ResultVar)(k:Nat)(pi:fc) 
  (hf:fn.results.toList=results)(hk:C.h.length<=k)(hok:Cg P cls)(hbs:Ck bs)(hn:Ajf (A5 fuel items ds)=true)(h:Sm P n lv fuel items st R ds cls adj results k pi=some (res,R2,cls,bs))(hup:Up C0 C):WI ro P n C (Kg P fn C0 res R2) items st R:=by
 intro a w hs;unfold Sm at h;split at h
 .rename_i L R1 cs bs1 e1;split at h
  .rename_i st2 R3 e2;split at h
   .rename_i v R4 e3;simp only[al,aI]at h;obtain⟨rfl,rfl,rfl,rfl⟩:=h;refine D7 hm e1 hok hbs hs λa' w' hs'=>?_;have hnil:A5 fuel items ds=[]:=by
     cases hh:A5 fuel items ds with
     |nil=>rfl
     |cons x l=>rw[hh]at hn;cases hn
    rw[hnil];exact((hs'.sub λe he=>Km he).adj e2).post hup hf hk e3
   .cases h
  .cases h
 .cases h
theorem Ah4(hm:P.follows .mixedOrders=true)(lv:fc)(fuel:Nat)(ds:fe)(cls:List Cl)(adj:List Adj)(results:List ResultVar)(k:Nat)(pi:fc) 
  (hf:fn.results.toList=results)(hk:C.h.length<=k)(hok:Cg P cls)(hbs:Ck bs)(hn:Ajf (A5 fuel items ds)=true)(h:Sm P n lv fuel items st R ds cls adj results k pi=some (res,R2,cls,bs)):WI ro P n C.z (Kg P fn C.z res R2) items st R:=
 Awi (C:=C.z) hm lv fuel ds cls adj results k pi hf hk hok hbs hn h (dy rfl)
theorem Rw(hm:P.follows .mixedOrders=true)(lv:fc)(fuel:Nat)(ds:fe)(cls:List Cl)(adj:List Adj)(k:Nat)(pi ts:fc)(st':St)(R':List Res) 
  (hk:C.h.length<=k)(hok:Cg P cls)(hbs:Ck bs)(h:Bz P n lv fuel items st R ds cls adj k pi ts=some (st',R',cls,bs))(hW:WI ro P n C Q (A5 fuel items ds) st' R'):WI ro P n C Q items st R:=by
 intro a w hs;unfold Bz at h;split at h
 .rename_i L R1 cs bs1 e1;split at h
  .rename_i st2 R3 e2;split at h
   .rename_i st3 R4 e3;simp only[al,aI]at h;obtain⟨rfl,rfl,rfl,rfl⟩:=h;exact D7 hm e1 hok hbs hs λa' w' hs'=>hW a' w' (((hs'.sub λe he=>Km he).adj e2).re hk e3)
   .cases h
  .cases h
 .cases h
theorem uQ(hm:P.follows .mixedOrders=true)(lv:fc)(fuel:Nat)(ds:fe)(cls:List Cl)(adj:List Adj)(k:Nat)(pi:fc)(st':St)(R':List Res) 
  (hk:C.h.length<=k)(hok:Cg P cls)(hbs:Ck bs)(h:Bz P n lv fuel items st R ds cls adj k pi (Iv st')=some (st',R',cls,bs))(hW:WI ro P n C Q (A5 fuel items ds) st' R'):WI ro P n C Q items st R:=Rw hm lv fuel ds cls adj k pi _ st' R' hk hok hbs h hW
def isC:List It->Bool
 |.c _::_=>true
 |_=>false
def hdC:List It->Code
 |.c x::_=>x
 |_=>.skip
def isL:List It->Bool
 |.c (.loop _)::_=>true
 |_=>false
def lpC:List It->Code
 |.c (.loop x)::_=>x
 |_=>.skip
def tlI:List It->List It
 |_::l=>l
 | []=>[]
theorem Zt(hi:isC items=true)(φ:σ->Prop)(st':σ->St)(R':σ->List Res)(h:WI ro P n C Q (.c (hdC items) :: .k (Ex n C φ st' R')::tlI items) st R)(hK:∀s,φ s->WI ro P n C Q (tlI items) (st' s) (R' s)):WI ro P n C Q items st R:=by
 match items,hi with
 | .c x::l,_=>
  intro a w hs;refine wpIn_mono (h a w hs) λe a w hq=>?_;cases e with
  |normal=>obtain⟨s,h1,h2⟩:=hq;exact hK s h1 a w h2
  |_=>exact hq
def hdK:List It->Act->World->Prop
 |.k K::_=>K
 |_=>λ_ _=>False
def isB:List It->Bool
 |.c (.block _ _)::_=>true
 |_=>false
def Ayf:List It->Code
 |.c (.block _ x)::_=>x
 |_=>.skip
def Aye:List It->Nat
 |.c (.block i _)::_=>i
 |_=>0
def nqT:List It->List It
 |_::l=>l
 | []=>[]
def A0k:List It->Bool
 |.c (.cond _ _ _)::_=>true
 |_=>false
def cnO:List It->Operand
 |.c (.cond c _ _)::_=>c
 |_=>.const undef
def cnX:List It->Code
 |.c (.cond _ x _)::_=>x
 |_=>.skip
def cnY:List It->Code
 |.c (.cond _ _ y)::_=>y
 |_=>.skip
theorem Wc(t:Nat)(hi:A0k items=true)(ho:cnO items=.tmp t)(hc:(E0 (mkL st) t).map Ent.v=some (.d (.nq rows)))
  (ht:rows=[]->WI ro P n C Q (.c (cnX items)::nqT items) st R)(hf:WI ro P n C Q (.c (cnY items)::nqT items) st R):WI ro P n C Q items st R:=by
 match items,hi with
 | .c (.cond c x y)::l,_=>
  simp only[cnO]at ho;subst ho;intro a w hs;cases he:E0 (mkL st) t with
  |none=>rw[he]at hc;cases hc
  | some e=>
   rw[he]at hc;simp only[bF,al]at hc;obtain⟨hm,hte⟩:=C4 he;have hs2:=hs;obtain⟨_,_,S,ρ,_,h4⟩:=hs2;obtain⟨v,hv,hr⟩:=(h4 e hm).1 (by rw[Gj hm];exact B9);rw[hc]at hr;rw[hte]at hv;have hr':=hr.d_inv;cases hr' with
   | @nq b _ h=>
    have hev:a.eval (.tmp t)=.bool b:=by simp[Act.eval,eV,hv]
    cases b with
    |true=>exact wpIn_cond_true hev (ht (h rfl) a w hs)
    |false=>exact wpIn_cond_false hev (hf a w hs)
theorem Adx(hi:isB items=true)(h:WI ro P n C Q (.c (Ayf items) :: .b (Aye items)::tlI items) st R):WI ro P n C Q items st R:=by
 match items,hi with
 |.c (.block i x)::l,_=>exact λa w hs=>wpIn_block (h a w hs)
theorem Ayl{K:Act->World->Prop}(hi:hdK items=K)(h:∀a w,Sat n C (mkL st) R a w->K a w):WI ro P n C Q items st R:=by
 subst hi
 match items,h with
 |.k K::l,h=>exact h
 | [],h=>exact λa w hs=>(h a w hs).elim
 |.c _::_,h=>exact λa w hs=>(h a w hs).elim
 |.b _::_,h=>exact λa w hs=>(h a w hs).elim
 |.l _ _::_,h=>exact λa w hs=>(h a w hs).elim
theorem Ul{φ:σ->Prop}{st':σ->St}{R':σ->List Res}(hm:P.follows .mixedOrders=true)(lv:fc)(fuel:Nat)(ds:fe)(cls:List Cl)(adj:List Adj)(k:Nat)(pi:fc)(s:σ)
  (hk:C.h.length<=k)(hok:Cg P cls)(hbs:Ck bs)(hi:hdK (A5 fuel items ds)=Ex n C φ st' R')(h:Bz P n lv fuel items st R ds cls adj k pi (Iv (st' s))=some (st' s,R' s,cls,bs))(h1:φ s):WI ro P n C Q items st R:=
 uQ hm lv fuel ds cls adj k pi (st' s) (R' s) hk hok hbs h (Ayl hi λ_ _ hs=>⟨s,h1,hs⟩)
def foldI{α σ ρ:Type}(f:Nat->α->σ->Option (Ctl σ ρ)):List α->Nat->σ->Option (Ctl σ ρ)
 | [],_,s=>some (.next s)
 |x::xs,i,s=>match f i x s with
  |some (.next s')=>foldI f xs (i+1) s'
  |some (.brk s')=>some (.next s')
  |some (.ret r)=>some (.ret r)
  |none=>none
theorem Adw{α:Type}(hi:isL items=true)(f:Nat->α->σ->Option (Ctl σ τ))(stF:Nat->σ->St)(RF:Nat->σ->List Res)(r:Ctl σ τ)(xs:List α)(s:σ)(hm:foldI f xs 0 s=some r)
  (h0:st=stF 0 s)(h1:R=RF 0 s)
  (hnil:∀s,r=.next s->WI ro P n C Q (.c (lpC items) :: .k (λ_ _=>False)::tlI items) (stF xs.length s) (RF xs.length s))
  (hcons:∀i x s k,i<xs.length->xs[i]?=some x->f i x s=some k->(∀s',k=.brk s'->r=.next s')->(∀v,k=.ret v->r=.ret v) ->
   WI ro P n C Q (.c (lpC items) :: .k (Ex n C (λs'=>k=.next s') (stF (i+1)) (RF (i+1)))::tlI items) (stF i s) (RF i s)):WI ro P n C Q items st R:=by
 match items,hi with
 | .c (.loop c) :: l, _ =>
  refine Ah2 (λm a w=>∃i s,i<=xs.length/\xs.length-i=m/\foldI f (xs.drop i) i s=some r/\Sat n C (mkL (stF i s)) (RF i s) a w) ⟨xs.length,λa w hs=>⟨0,s,ce _,rfl,hm,by rw[h0,h1]at hs;exact hs⟩⟩ λm a w hI=>?_;obtain⟨i,s,hle,hl,hf,hs⟩:=hI;rcases bc i xs.length with hlt|hge
  .have hd:xs.drop i=xs[i]::xs.drop (i+1):=cJ hlt;rw[hd]at hf;simp only[foldI]at hf;cases hk:f i xs[i] s with
   |none=>rw[hk]at hf;cases hf
   | some k=>
    rw[hk]at hf;refine wpIn_mono (hcons i xs[i] s k hlt (af hlt) hk ?_ ?_ a w hs) λe a' w' hq=>?_
    .intro s' e;subst e;simp only[al]at hf;exact hf.symm
    .intro v e;subst e;simp only[al]at hf;exact hf.symm
    .cases e with
     |normal=>obtain⟨s',e,hs'⟩:=hq;subst e;exact⟨xs.length-(i+1),by omega,i+1,s',by omega,rfl,hf,hs'⟩
     |_=>exact hq
  .have hii:i=xs.length:=Nat.le_antisymm hle hge;subst hii;rw[List.drop_length]at hf;simp only[foldI,al]at hf;refine wpIn_mono (hnil s hf.symm a w hs) λe a' w' hq=>?_;cases e with
   |normal=>exact hq.elim
   |_=>exact hq
theorem Adv(hi:isL items=true)(f:σ->Option (Ctl σ τ))(stF:σ->St)(RF:σ->List Res)(r:Ctl σ τ)(fuel:Nat)(s:σ)(hm:whileN f fuel s=some r)
  (h0:st=stF s)(h1:R=RF s)
  (h:∀s k,f s=some k->(∀s',k=.brk s'->r=.next s')->(∀v,k=.ret v->r=.ret v) ->
   WI ro P n C Q (.c (lpC items) :: .k (Ex n C (λs'=>k=.next s') stF RF)::tlI items) (stF s) (RF s)):WI ro P n C Q items st R:=by
 match items,hi with
 |.c (.loop c)::l,_=>exact Awf (Q:=Qs ro P l Q) f stF RF r fuel s hm ⟨h0,h1⟩ λs k h1 h2 h3 a w hs=>h s k h1 h2 h3 a w hs
def cnt(c:Int):Nat->Int
 |0=>c
 |i+1=>IntKind.i64.wrap (cnt c i+1)
theorem T5{c:Int}(h0:-9223372036854775808<=c)(h:c+i<=9223372036854775807:=by omega):cnt c i=c+i:=by
 induction i with
 |zero=>simp[cnt]
 |succ i ih=>simp only[cnt];rw[ih (by omega),IntWalk.i64_in _ (by omega)];omega
theorem Apb(t:Nat)(h:(E0 (mkL st) t).map Ent.v=some (.d (.p (.s rows))))(hW:rows.length<=maxLen->WI ro P n C Q items st R):WI ro P n C Q items st R:=by
 intro a w hs;refine hW ?_ a w hs;obtain⟨_,_,S,ρ,h3,h4⟩:=hs;cases he:E0 (mkL st) t with
 |none=>rw[he]at h;cases h
 |some e=>rw[he]at h;simp at h;obtain⟨hm,_⟩:=C4 he;obtain⟨v,_,hr⟩:=(h4 e hm).1 (by rw[Gj hm];exact B9);rw[h]at hr;obtain⟨a,cap,_,g1,g2⟩:=hr.d_inv.p_inv.slice_form;omega
theorem Awh{e sz:Nat}(t j:Nat)(h:(E0 (mkL st) t).map Ent.v=some (.d (.os j)))(hR:R[j]?=some (.sl e sz rows))(hW:rows.length<=maxLen->WI ro P n C Q items st R):WI ro P n C Q items st R:=by
 intro a w hs;refine hW ?_ a w hs;obtain⟨_,_,S,ρ,h3,h4⟩:=hs;cases he:E0 (mkL st) t with
 |none=>rw[he]at h;cases h
 |some e=>
  rw[he]at h;simp at h;obtain⟨hm,_⟩:=C4 he;obtain⟨v,_,hr⟩:=(h4 e hm).1 (by rw[Gj hm];exact B9);rw[h]at hr;rcases(h3.ok j _ _ hR hr.d_inv.os_inv).live hr.d_inv.one with⟨_,h5⟩|⟨_,_,cap,_,_,_,h5,h6,_⟩
  .rw[h5];simp[maxLen]
  .omega
theorem zC{c:Code}{args:List AV}(n:Nat)(hf:P.funcs[f]?=some fn)(hb:fn.body=some c)(hn:fn.ntmps=n)(hl:Nat.ble args.length n=true)
  (h:∀C:Ctx,C.h.length<=R.length->WI none P n C.z (Kg P fn C.z res R2) [.c c] (Wb 0 args) R):CallOk P f args R res R2:=
 Ac1 hf hb hn (bp hl) λC hd hC=>by
  have:=h C (by rw[hC];exact ag _);have e:C.z=C:=by unfold Ctx.z;cases C;simp at hd;subst hd;rfl
  rw[e]at this;exact this
theorem Xt(hf : P.funcs[f]? = some fn)(hb : fn.body.isNone = false)(hn : (fn.name == "runtime.NumGoroutine") = false) : Ft P f := λ args w => by
 have hb':fn.body≠none:=by intro e;rw[e]at hb;cases hb
 have hn' : fn.name ≠ "runtime.NumGoroutine" := by simpa using hn
 simp[callFunc,hf,hn',hb']
end
end Go.SL
namespace Go.SL
variable{res:AV}{c:Bool}{f:FuncId}{hi hi' lo n:Int}{l:List (Bool×Bool)}{src:List (List Pd)}{args:List AV}{B i k k' n' off:Nat}{u:Unit}
abbrev I(n:Int):D:=.p (.v (.int .i64 n))
abbrev Bo(b:Bool):D:=.p (.v (.bool b))
abbrev w64(n:Int):Int:=IntKind.i64.wrap n
variable{α:Type}
abbrev DS(f:α->List Pd)(x:List α):D:=.p (.s (x.map f))
def pI(n:Int):List Pd:=[.v (.int .i64 n)]
def pK(k:IntKind)(n:Int):List Pd:=[.v (.int k n)]
def pB(b:Bool):List Pd:=[.v (.bool b)]
def pL{α:Type}(f:α->List Pd)(l:List α):List Pd:=[.s (l.map f)]
def C9:List (Bool×Bool)->Bool
 | []=>true
 |(a,b)::r=>(a==b)&&C9 r
theorem Ui:∀{l:List (Bool×Bool)},Ck l->C9 l=true
 | [],_=>rfl
 |(a,b)::r,h=>by obtain⟨h1,h2⟩:=h;subst h1;simp[C9,Ui h2]
theorem Uh:∀{l:List (Bool×Bool)},C9 l=true->Ck l
 | [],_=>trivial
 |(a,b)::r,h=>by simp only[C9,ac,dH]at h;exact⟨h.1,Uh h.2⟩
def Ag{α:Type}(l:List (Bool×Bool))(x:Option α)(d:α):Option α:=bif C9 l then x else some d
variable{x:Option α}
theorem Ip{d v:α}(h:Ag l x d=some v)(hg:¬Ck l):v=d:=by
 unfold Ag at h;cases hb:C9 l with
 |true=>exact absurd (Uh hb) hg
 |false=>rw[hb]at h;simpa using h.symm
theorem Bn{d v:α}(h:Ag l x d=some v)(hg:Ck l):x=some v:=by unfold Ag at h;rw[Ui hg]at h;exact h
def getI{α:Type}(l:List α)(n:Int):Option α:=bif decide (0<=n)then l[n.toNat]? else none
def setI{α:Type}(l:List α)(n:Int)(x:α):Option (List α):=bif decide (0<=n)&&decide (n<l.length)then some (l.set n.toNat x) else none
def mkI{α:Type}(B:Nat)(n:Int)(d:α):Option (List α):=bif decide (0<=n)&&decide (n*B<=140737488355328)then some (List.replicate n.toNat d) else none
def cutI{α:Type}(l:List α)(lo hi:Int):Option (List α):=bif decide (0<=lo)&&(decide (lo<=hi)&&decide (hi<=l.length))then some ((l.take hi.toNat).drop lo.toNat) else none
def nzI(n:Int):Option Unit:=bif n==0 then none else some ()
def appI{α:Type}(B:Nat)(l m:List α):Option (List α):=bif decide ((l.length+m.length)*B<=140737488355328)then some (l++m) else none
section
variable{P:Program}{α:Type}
variable{l m y:List α}
theorem Au(enc:α->List Pd)(size:Nat)(hs:∀x,(enc x).length=size)(h:appI (B+1) l m=some y):Cl.ok P (.app (l.map enc) (m.map enc) size (((l.map enc).length+(m.map enc).length)*(B+1)) (y.map enc)):=by
 unfold appI at h;cases hd:decide ((l.length+m.length)*(B+1)<=140737488355328) with
 |false=>rw[hd]at h;cases h
 |true=>rw[hd]at h;simp only[eO,al]at h;subst h;refine⟨by rw[au,au];exact dQ hd,λr hr=>?_,by rw[bh]⟩;obtain⟨x,_,rfl⟩:=an.1 hr;exact hs x
theorem Ig(enc:α->List Pd)(size:Nat)(hs:∀x,(enc x).length=size)(h:appI (B+1) [] m=some y):Cl.ok P (.app [] (m.map enc) size ((m.map enc).length*(B+1)) (y.map enc)):=by have:=Au (P:=P) enc size hs h;simpa using this
variable{x:α}{enc:α->List Pd}
theorem Ak(h:getI l n=some x):Cl.ok P (.row (l.map enc) n (enc x)):=by
 unfold getI at h;cases hd:decide (0<=n) with
 |false=>rw[hd]at h;cases h
 |true=>rw[hd]at h;simp only[eO]at h;exact⟨dQ hd,by rw[aD,h];rfl⟩
theorem Pv(h:getI l n=some x):Cl.ok P (.idx (l.map enc) n (enc x)):=by
 unfold getI at h;cases hd:decide (0<=n) with
 |false=>rw[hd]at h;cases h
 |true=>rw[hd]at h;simp only[eO]at h;exact⟨dQ hd,by rw[aD,h];rfl⟩
theorem Aws(h:nzI n=some u):Cl.ok P (.nz n):=by unfold nzI at h;show n≠0;intro e;subst e;cases h
theorem Ng(h:(n==0)=false):Cl.ok P (.nz n):=by show n≠0;intro e;subst e;cases h
theorem Ay(h:getI l n=some x):Cl.ok P (.row (l.map enc) ((n.toNat:Nat):Int) (enc x)):=by obtain⟨h0,h1⟩:=(Ak (P:=P) (enc:=enc) h:0<=n/\(l.map enc)[n.toNat]?=some (enc x));exact⟨Int.natCast_nonneg _,by rw[aq];exact h1⟩
theorem Az{x':α}(hx:getI l n=some x)(h:setI l n x'=some y):Cl.ok P (.upd (l.map enc) n.toNat (enc x) (enc x') (y.map enc)):=by
 obtain⟨h0,h1⟩:=(Ak (P:=P) (enc:=enc) hx:0<=n/\(l.map enc)[n.toNat]?=some (enc x));refine⟨h1,?_⟩;unfold setI at h;cases hd:(decide (0<=n)&&decide (n<l.length)) with
 |false=>rw[hd]at h;cases h
 |true=>rw[hd]at h;simp at h;subst h;rw[List.map_set]
variable{d:α}
theorem Gk(h:mkI (B+1) n d=some y):Cl.ok P (.room (n*(B+1)) (List.replicate n.toNat (enc d)) (y.map enc)):=by
 unfold mkI at h;cases hd:(decide (0<=n)&&decide (n*((B+1:Nat):Int)<=140737488355328)) with
 |false=>rw[hd]at h;cases h
 |true=>rw[hd]at h;simp at h;subst h;simp only[ac,dF]at hd;refine⟨Int.mul_nonneg hd.1 (by omega),by have:=hd.2;simpa using this,by simp⟩
theorem Ps(l:List α)(enc:α->List Pd):Cl.ok P (.len ((l.map enc).length:Int) (l.length:Int)):=by show ((l.map enc).length:Int)=l.length;rw[au]
theorem Vz(enc:α->List Pd)(size:Nat)(hs:∀x,(enc x).length=size)(h:cutI l lo hi=some y):Cl.ok P (.cut (l.map enc) size lo hi (y.map enc)):=by
 unfold cutI at h;cases hd:(decide (0<=lo)&&(decide (lo<=hi)&&decide (hi<=l.length))) with
 |false=>rw[hd]at h;cases h
 |true=>rw[hd]at h;simp only[eO,al]at h;simp only[ac,dF]at hd;subst h;refine⟨hd.1,hd.2.1,by rw[au];exact hd.2.2,λr hr=>?_,by rw[←List.map_take,←List.map_drop]⟩;obtain⟨x,_,rfl⟩:=an.1 hr;exact hs x
theorem O5(enc:α->List Pd)(size:Nat)(hs:∀x,(enc x).length=size)(h:cutI l lo (l.length:Int)=some y):Cl.ok P (.cut (l.map enc) size lo ((l.map enc).length:Int) (y.map enc)):=by
 have:((l.map enc).length:Int)=l.length:=by rw[au]
 rw[this];exact Vz enc size hs h
theorem Xh(l:List α)(enc:α->List Pd)(lo n:Nat):((l.map enc).drop lo).take n=((l.drop lo).take n).map enc:=by simp
def bndI(k:Nat)(lo hi:Int):Option Unit:=bif decide (0<=lo)&&(decide (lo<=hi)&&decide (hi<=k))then some () else none
theorem Fg(hk:k'=k)(hh:hi'=hi)(h:bndI k lo hi=some u):Cl.ok P (.bnd k' lo hi' hi):=by
 subst hk;subst hh;unfold bndI at h;cases hd:decide (0<=lo)&&(decide (lo<=hi')&&decide (hi'<=k')) with
 |false=>rw[hd]at h;cases h
 |true=>simp at hd;exact⟨hd.1,hd.2.1,hd.2.2,rfl⟩
def bnd3I(k:Nat)(lo hi mx:Int):Option Unit:=bif decide (0<=lo)&&(decide (lo<=hi)&&(decide (hi<=mx)&&decide (mx<=k)))then some () else none
theorem Ado{mx:Int}(hk:k'=k)(h:bnd3I k lo hi mx=some u):Cl.ok P (.bnd3 k' lo hi mx):=by
 subst hk;unfold bnd3I at h;cases hd:decide (0<=lo)&&(decide (lo<=hi)&&(decide (hi<=mx)&&decide (mx<=k'))) with
 |false=>rw[hd]at h;cases h
 |true=>simp at hd;exact⟨hd.1,hd.2.1,hd.2.2.1,hd.2.2.2⟩
def appPI{α:Type}(l:List α)(n:Nat)(m:List α):Option (List α):=bif decide (n+m.length<=l.length)then some (l.take n++(m++l.drop (n+m.length))) else none
theorem Asv(enc:α->List Pd)(size:Nat)(hs:∀x,(enc x).length=size){n:Nat}(hsrc:src=m.map enc)(h:appPI l n m=some y) :
  Cl.ok P (.appP (l.map enc) src size n (n+m.length) ((l.map enc).take n++(src++(l.map enc).drop (n+src.length))) (y.map enc)):=by
 subst hsrc;unfold appPI at h;cases hd:decide (n+m.length<=l.length) with
 |false=>rw[hd]at h;cases h
 |true=>rw[hd]at h;simp only[eO,al]at h;subst h;simp only[dF]at hd;refine⟨⟨by simp,by simpa using hd⟩,λx hx=>?_,by simp⟩;obtain⟨z,_,rfl⟩:=an.1 hx;exact hs z
def insI{α:Type}(B:Nat)(l:List α)(i:Int)(m:List α):Option (List α):=bif decide ((l.length+m.length)*B<=140737488355328)then some (l.take i.toNat++(m++l.drop i.toNat)) else none
def He{α:Type}(l:List α)(lo n:Nat)(d:α):List α:=l.take lo++(List.replicate n d++l.drop (lo+n))
theorem uH(enc:α->List Pd){lo n:Nat}(hn:n'=n):Cl.ok P (.eqr ((l.map enc).take lo++(List.replicate n' (enc d)++(l.map enc).drop (lo+n'))) ((He l lo n d).map enc)):=by subst hn;show _=_;simp[He]
def O7{α:Type}(l:List α)(lo n:Nat)(m:List α):List α:=l.take lo++(m.take (Nat.min m.length n)++l.drop (lo+Nat.min m.length n))
theorem V1(enc:α->List Pd)(size:Nat)(hs:∀x,(enc x).length=size){lo n:Nat}(hsrc:src=m.map enc)(hn:n'=n) :
  Cl.ok P (.cpy src size n' (Nat.min m.length n) ((l.map enc).take lo++(src.take (Nat.min m.length n)++(l.map enc).drop (lo+Nat.min m.length n))) ((O7 l lo n m).map enc)):=by
 subst hsrc;subst hn;refine⟨by simp,λx hx=>?_,by simp[O7]⟩;obtain⟨z,_,rfl⟩:=an.1 hx;exact hs z
theorem S_(h:mkI (B+1) n d=some y):Cl.ok P (.roomZ (n*(B+1)) (List.replicate n.toNat (enc d)) (y.map enc)):=Gk (P:=P) (enc:=enc) h
theorem Jh{β:Type}{enc2:β->List Pd}(size:Nat)(hs:∀x,(enc2 x).length=size){i:Int}{a m y:List β}(hx:getI l i=some x)(ho:(enc x)[off]?=some (.s (a.map enc2)))(h:appI (B+1) a m=some y) :
  Cl.ok P (.appD (l.map enc) i.toNat (enc x) off (a.map enc2) (m.map enc2) size (((a.map enc2).length+(m.map enc2).length)*(B+1)) (y.map enc2)):=by
 obtain⟨_,h1⟩:=Ay (P:=P) (enc:=enc) hx;simp only[aq]at h1;exact⟨⟨h1,ho⟩,Au (P:=P) enc2 size hs h⟩
theorem Ja{x':α}(hx:getI l n=some x)(h:setI l n x'=some y):Cl.ok P (.updD (l.map enc) n.toNat n.toNat (enc x) (enc x') (y.map enc)):=
 ⟨rfl,Az (P:=P) (enc:=enc) hx h⟩
theorem Arp(h:Ft P f/\CallOk P f args [] res [])(hx:getI l n=some x):Cl.ok P (.callB f args res (l.map enc) n.toNat (enc x)):=by obtain⟨_,h1⟩:=Ay (P:=P) (enc:=enc) hx;simp only[aq]at h1;exact⟨h,h1⟩
theorem Dr(h:Ft P f/\CallOk P f args [] res []):Cl.ok P (.callB f args res [[]] 0 []):=⟨h,rfl⟩
theorem Ba(hx:l[i]?=some x)(hl:(l.map enc).length<=maxLen):Cl.ok P (.row (l.map enc) (cnt 0 i) (enc x)):=by
 have hi:i<l.length:=(ab.1 hx).1;rw[au]at hl;have hm:maxLen=9223372036854775807:=rfl;rw[T5 (by omega)];refine⟨by omega,?_⟩;have:((0:Int)+(i:Int)).toNat=i:=by omega
 rw[this,aD,hx];rfl
theorem Aw(hx:l[i]?=some x)(hl:(l.map enc).length<=maxLen):getI l (cnt 0 i)=some x:=by
 have hi:i<l.length:=(ab.1 hx).1;rw[au]at hl;have hm:maxLen=9223372036854775807:=rfl;rw[T5 (by omega)];unfold getI;have h1:decide ((0:Int)<=0+(i:Int))=true:=dK (by omega);have h2:((0:Int)+(i:Int)).toNat=i:=by omega
 rw[h1,h2];exact hx
theorem Aof(hi:i<l.length)(hl:(l.map enc).length<=maxLen):decide (cnt 0 i<(l.length:Int))=true:=by rw[au]at hl;have hm:maxLen=9223372036854775807:=rfl;rw[T5 (by omega)];exact dK (by omega)
theorem Ahx(hl:(l.map enc).length<=maxLen):decide (cnt 0 l.length<(l.length:Int))=false:=by rw[au]at hl;have hm:maxLen=9223372036854775807:=rfl;rw[T5 (by omega)];exact dL (by omega)
end
def Fo(zs:fb)(k:Nat):List (Int×Int):=(List.range k).map λj=>(((zs.length-1-j:Nat):Int),(zs[zs.length-1-j]?.getD 0))
def bw(zs:fb):List (Int×Int):=Fo zs zs.length
def andThen{σ τ ρ:Type}(c:Option (Ctl σ τ))(g:τ->Option ρ)(f:σ->Option ρ):Option ρ:=
 match c with
 |some (.ret v)=>g v
 |some (.next s)=>f s
 |some (.brk s)=>f s
 |none=>none
theorem Ll{σ τ ρ:Type}{c:Option (Ctl σ τ)}{g:τ->Option ρ}{f:σ->Option ρ}{r:ρ}(h:andThen c g f=some r):∃k,c=some k/\(∀v,k=.ret v->g v=some r)/\(∀s,k=.next s->f s=some r):=by
 unfold andThen at h;split at h
 .exact⟨_,rfl,λv e=>by cases e;exact h,λs e=>by cases e⟩
 .exact⟨_,rfl,λv e=>(by cases e),λs e=>by cases e;exact h⟩
 .exact⟨_,rfl,λv e=>(by cases e),λs e=>by cases e⟩
 .cases h
end Go.SL
