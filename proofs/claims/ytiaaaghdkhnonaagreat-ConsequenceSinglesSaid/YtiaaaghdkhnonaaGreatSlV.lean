import Derived.Test.YtiaaaghdkhnonaaGreatSlTD
namespace Go.SL
variable{σ τ:Type}{res:AV}{ops:Array Oper}{b draw:Bool}{C0:Ctx}{fn:Func}{f:FuncId}{bs:List (Bool×Bool)}{rows:List (List Pd)}{cls cs:List Cl}{R2 fl:List Res}{i id:Nat}
inductive It where
 |c (x:Code)
 |b (id:Nat)
 |k (K:Act->World->Prop)
 |l (x:Code) (m:Nat)
def Qs(ro:Option Nat)(P:Program):List It->(Exit->Act->World->Prop)->Exit->Act->World->Prop
 | [],Q=>Q
 |.c x::l,Q=>Exit.then (x.wpIn (FR ro) 0 P (Qs ro P l Q)) (Qs ro P l Q)
 |.b id::l,Q=>Exit.inBlock id (Qs ro P l Q)
 |.k K::l,Q=>Exit.then K (Qs ro P l Q)
 |.l x m::l,Q=>Exit.then (Code.roundsIn (FR ro) 0 P x (Qs ro P l Q) m) (Qs ro P l Q)
def WI(ro:Option Nat)(P:Program)(n:Nat)(C:Ctx)(Q:Exit->Act->World->Prop)(l:List It)(st:St)(R:List Res):Prop:=
 ∀a w,Sat n C (mkL st) R a w->Qs ro P l Q .normal a w
def unw(id:Nat):List It->Option (List It)
 | []=>none
 |.c _::l=>unw id l
 |.k _::l=>unw id l
 |.l _ _::l=>unw id l
 |.b id'::l=>bif Nat.beq id' id then some l else unw id l
inductive Api where
 |ret
 |stop
def Sn(lv:List Nat):List Ent->List Ent
 | []=>[]
 |e::r=>bif e.p.isEmpty&&Mz lv e.t then e::Sn lv r else Sn lv r
def A1e(o:Oper):Bool:=
 match o.op with
 |.alloc _=>true
 |.makeSlice ..=>true
 |_=>false
def A4b(ops:Array Oper):List Cl->Option (List Res)
 |.flts l::_=>bif ops.toList.any A1e then some l else none
 |_=>none
def Ann(P:Program)(n:Nat)(ops:Array Oper)(draw:Bool)(L:List Ent)(R:List Res)(cls:List Cl)(lv:List Nat):Option (List Ent×List Res×List Cl):=
 match draw with
 |false=>match S6 P n ops (List.range ops.size) L R cls with
  |some (L',R',cs)=>some (Sn lv L',R',cs)
  |none=>none
 | true=>match A4b ops cls with
  |some fl=>match Se P n ops (List.range ops.size) L (R++fl) cls.tail with
   |some (rs,L',R',cs)=>bif Nu ops L rs&&Oh R.length (R.length+fl.length) rs then some (Sn lv L',R',.flts fl::cs) else none
   |none=>none
  |none=>match Se P n ops (List.range ops.size) L R cls with
   |some (rs,L',R',cs)=>bif Nu ops L rs&&Oh 0 0 rs then some (Sn lv L',R',cs) else none
   |none=>none
def Ad9(L:List Ent)(c:Operand):Option Bool:=
 match c with
 |.const (.bool b)=>some b
 |.tmp t=>match Ee L t with
  |some e=>bif e.p.isEmpty then L6 e.v else none
  |none=>none
 |_=>none
def Aw7:Code->Bool
 |.loop _=>true
 |_=>false
def F6(P : Program)(n : Nat)(lv : List Nat) : Nat -> List It -> List Ent -> List Res -> List Bool -> List Cl -> Option (Api × List Ent × List Res × List Cl × List (Bool × Bool))
 |0,_,L,R,_,_=>some (.stop,L,R,[],[])
 | fuel+1,items,L,R,ds,cls=>match items with
  | []=>some (.stop,L,R,[],[])
  |.k _::_=>some (.stop,L,R,[],[])
  |.b _::l=>F6 P n lv fuel l L R ds cls
  |.l x m::l=>match m with
   |0=>none
   |m+1=>F6 P n lv fuel (.c x :: .l x m::l) L R ds cls
  | .c x::l=>match x with
   |.skip=>F6 P n lv fuel l L R ds cls
   |.seq a b=>F6 P n lv fuel (.c a :: .c b::l) L R ds cls
   | .region _ ops draw=>match Ann P n ops draw L R cls lv with
    |some (L',R',cs)=>match F6 P n lv fuel l L' R' ds (cls.drop cs.length) with
     |some (lf,L2,R2,cs2,bs)=>some (lf,L2,R2,cs++cs2,bs)
     |none=>none
    |none=>none
   | .cond c x y=>match ds with
    | []=>some (.stop,L,R,[],[])
    | d::ds=>match Ad9 L c with
     |some b=>match F6 P n lv fuel ((match d with|true=>.c x|false=>.c y)::l) L R ds cls with
      |some (lf,L2,R2,cs2,bs)=>some (lf,L2,R2,cs2,(b,d)::bs)
      |none=>none
     |none=>none
   |.block id c=>match Aw7 c,ds with
    |true,[]=>some (.stop,L,R,[],[])
    |true,_::ds=>F6 P n lv fuel (.c c :: .b id::l) L R ds cls
    |false,ds=>F6 P n lv fuel (.c c :: .b id::l) L R ds cls
   |.exit id=>match unw id l with
    |some l'=>F6 P n lv fuel l' L R ds cls
    |none=>none
   |.ret=>some (.ret,L,R,[],[])
   |.loop x=>match ds with
    | []=>some (.stop,L,R,[],[])
    |_::ds=>F6 P n lv fuel (.c x :: .l x 1000::l) L R ds cls
   |_=>some (.stop,L,R,[],[])
def B2 : Nat -> List It -> List Bool -> List It
 |0,items,_=>items
 | fuel+1,items,ds=>match items with
  | []=>[]
  |.k K::l=>.k K::l
  |.b _::l=>B2 fuel l ds
  |.l x m::l=>match m with
   |0=>.l x 0::l
   |m+1=>B2 fuel (.c x :: .l x m::l) ds
  | .c x::l=>match x with
   |.skip=>B2 fuel l ds
   |.seq a b=>B2 fuel (.c a :: .c b::l) ds
   |.region _ _ _=>B2 fuel l ds
   |.cond c x y=>match ds with
    | []=>.c (.cond c x y)::l
    |d::ds=>B2 fuel ((match d with|true=>.c x|false=>.c y)::l) ds
   |.block id c=>match Aw7 c,ds with
    |true,[]=>.c (.block id c)::l
    |true,_::ds=>B2 fuel (.c c :: .b id::l) ds
    |false,ds=>B2 fuel (.c c :: .b id::l) ds
   |.exit id=>match unw id l with
    |some l'=>B2 fuel l' ds
    |none=>.c (.exit id)::l
   |.loop x=>match ds with
    | []=>.c (.loop x)::l
    |_::ds=>B2 fuel (.c x :: .l x 1000::l) ds
   |y=>.c y::l
section
variable{ro:Option Nat}{P:Program}{n:Nat}{C:Ctx}{Q:Exit->Act->World->Prop}{st st':St}{R R':List Res}{L L':List Ent}{S S':Nat->Prop}{w w':World}{ρ ρ':List Value}{a:Act}{lv:List Nat}
theorem Ov:∀{l:List It},Q .ret a w->Qs ro P l Q .ret a w
 | [],h=>h
 |.c _::l,h=>Ov (l:=l) h
 |.b _::l,h=>Ov (l:=l) h
 |.k _::l,h=>Ov (l:=l) h
 |.l _ _::l,h=>Ov (l:=l) h
theorem Ug{id:Nat}:∀{l l':List It},unw id l=some l'->Qs ro P l' Q .normal a w->Qs ro P l Q (.exit id) a w
 | [],l',h,_=>by simp[unw]at h
 |.c _::l,l',h,hq=>Ug (l:=l) h hq
 |.k _::l,l',h,hq=>Ug (l:=l) h hq
 |.l _ _::l,l',h,hq=>Ug (l:=l) h hq
 | .b id'::l,l',h,hq=>by
  simp only[unw]at h;show (if id=id' then Qs ro P l Q .normal a w else Qs ro P l Q (.exit id) a w);cases hb:Nat.beq id' id with
  |true=>
   rw[hb]at h;simp at h;subst h;rw[if_pos (al hb).symm];exact hq
  |false=>
   rw[hb]at h;simp only[cond_false]at h;have:¬(id=id'):=by rintro rfl;simp at hb
   rw[if_neg this];exact Ug h hq
theorem Is:∀{L:List Ent}{e:Ent},e∈Sn lv L->e∈L/\e.p=[]
 | [],e,h=>by cases h
 | x::r,e,h=>by
  simp only[Sn]at h;cases hb:(x.p.isEmpty&&Mz lv x.t) with
  | true=>
   rw[hb]at h;simp only[cond_true]at h;rcases ag.1 h with rfl|h
   ·simp only[ac,cE]at hb;exact⟨aj,hb.1⟩
   ·exact⟨ak _ (Is h).1,(Is h).2⟩
  |false=>
   rw[hb]at h;simp only[cond_false]at h;exact⟨ak _ (Is h).1,(Is h).2⟩
theorem Sat.drew{L:List Ent}(hs:Sat n C L R a w):Sat n C L R a w.drew:=by
 obtain⟨h1,h2,S,ρ,h3,h4⟩:=hs;refine⟨h1,h2,S,ρ,h3.drew,λe he=>?_⟩;obtain⟨k1,k2⟩:=h4 e he;refine⟨λhp=>?_,k2⟩;obtain⟨v,hv,hr⟩:=k1 hp;exact⟨v,hv,hr.mono (λ_ h=>h) (λ_ _=>rfl) (Pre.refl _)⟩
theorem Akw{rs:List Rec}{lo hi:Nat}(hs:Sat n C L R a w)(e1:Se P n ops (List.range ops.size) L (R++fl) cls=some (rs,L',R',cs))(hok:C4 P cs)
  (hb:Nu ops L rs=true)(hr:∀i,i∈Jq rs->R.length<=i/\i<R.length+fl.length)(hfl:Oh lo hi rs=true)(hK:∀a w,Sat n C L' R' a w->Q .normal a w) :
  wpAnyIn (FR ro) 0 P .any ops Q ops.size (Array.replicate ops.size false) a w.drew:=by
 obtain⟨c1,c2⟩:=Ni e1 hok;obtain⟨h1,h2,S,ρ,h3,h4⟩:=hs.drew;have hnd:Fy (Jq rs)=true:=by unfold Oh at hfl;simp only[ac]at hfl;exact hfl.1
 have hCl:C.h.length<=ρ.length:=by
  rcases aN ρ.length C.h.length with hlt|hge
  ·have:=h3.pre _ _ (ai hlt);have:=(ab.1 this).1;omega
  ·exact hge
 have hF:Ahz C rs:=⟨Ve hnd,λr i hrs hfi=>by have:=(hr i (Kd hrs hfi)).1;rw[h3.len]at hCl;omega⟩;obtain⟨ρ',h5,h6,h7⟩:=h3.dummies fl;refine A6n (C:=C) c1 c2 (uG hb) hF hK ops.size _ a _ (by simp) ?_ ?_ ⟨h1,h2,S,ρ',?_,λe he=>?_,λr i hrs hfi _=>?_⟩
 ·unfold unl;refine ay (bg _ _) (by simp)
 ·intro j o hj;simp only[aM,cf]at hj;split at hj <;> simp at hj
 ·have:Eo (λi=>(Array.replicate ops.size false).getD i false) (R++fl) rs=R++fl:=Fx λr _ _=>by
   simp only[aM,cf];split <;> simp
  rw[this];exact h5
 ·rcases he with⟨g1,_⟩|⟨r,_,g2,_⟩
  ·obtain⟨k1,k2⟩:=h4 e g1;refine⟨λhp=>?_,k2⟩;obtain⟨v,hv,hr⟩:=k1 hp;exact⟨v,hv,hr.mono (λ_ h=>h) (λ_ _=>rfl) h6⟩
  ·simp only[aM,cf]at g2;split at g2 <;> simp at g2
 ·obtain⟨m1,m2⟩:=hr i (Kd hrs hfi);exact h7 i m1 m2
theorem A0x(hm:P.follows .mixedOrders=true)(h:Ann P n ops draw L R cls lv=some (L',R',cs))(hok:C4 P cs)
  (hs:Sat n C L R a w)(hK:∀a w,Sat n C L' R' a w->Q .normal a w):(Code.region id ops draw).wpIn (FR ro) 0 P Q a w:=by
 cases draw with
 | false=>
  refine wpIn_region ?_;simp only[Ann]at h;split at h
  ·rename_i L1 R1 cs1 e1;simp at h;obtain⟨rfl,rfl,rfl⟩:=h;exact Uc (S5 e1 hok hs λa' w' h'=>hK a' w' (h'.sub λe he=>(Is he).1))
  ·cases h
 | true=>
  refine wpIn_region_any hm ?_;simp only[Ann]at h;split at h
  ·rename_i fl _;split at h
   ·rename_i rs L1 R1 cs1 e1;cases hb:(Nu ops L rs&&Oh R.length (R.length+fl.length) rs) with
    |false=>rw[hb]at h;simp at h
    |true=>
     rw[hb]at h;simp at h;obtain⟨rfl,rfl,rfl⟩:=h;simp only[ac]at hb;refine Akw (fl:=fl) hs e1 hok.2 hb.1 (λi hi=>?_) hb.2 λa' w' h'=>hK a' w' (h'.sub λe he=>(Is he).1);have:=(aC.1 (by unfold Oh at hb;simp only[ac]at hb;exact hb.2.2)) i hi;simp only[ac]at this;exact⟨bv this.1,by have:=this.2;simpa[Nat.blt_eq]using this⟩
   ·cases h
  ·split at h
   ·rename_i rs L1 R1 cs1 e1;cases hb:(Nu ops L rs&&Oh 0 0 rs) with
    |false=>rw[hb]at h;simp at h
    |true=>
     rw[hb]at h;simp at h;obtain⟨rfl,rfl,rfl⟩:=h;simp only[ac]at hb;refine Akw (fl:=[]) (lo:=0) (hi:=0) hs (by simpa using e1) hok hb.1 (λi hi=>?_) hb.2 λa' w' h'=>hK a' w' (h'.sub λe he=>(Is he).1);have:=(aC.1 (by unfold Oh at hb;simp only[ac]at hb;exact hb.2.2)) i hi;simp[Nat.blt_eq]at this
   ·cases h
theorem Af2{c:Operand}(hs:Sat n C L R a w)(hc:Ad9 L c=some b):a.eval c=.bool b:=by
 obtain⟨_,_,S,ρ,_,h4⟩:=hs;unfold Ad9 at hc;split at hc
 ·simp at hc;subst hc;rfl
 ·rename_i t;split at hc
  ·rename_i e he;cases hp:e.p.isEmpty with
   |false=>rw[hp]at hc;simp at hc
   |true=>
    rw[hp]at hc;simp only[cond_true]at hc;have:=(S8 h4 he hc).1 (by rw[cE.1 hp];exact Cc);simp[Act.eval,Array.getD_eq_getD_getElem?,this]
  ·cases hc
 ·cases hc
theorem dt:∀{l m:List Cl},C4 P (l++m)->C4 P l
 | [],_,_=>trivial
 |_::_,_,h=>⟨h.1,dt h.2⟩
theorem dq:∀{l m:List Cl},C4 P (l++m)->C4 P m
 | [],_,h=>h
 |_::l,_,h=>dq (l:=l) h.2
def Ahy(ro:Option Nat)(P:Program)(n:Nat)(C:Ctx)(Q:Exit->Act->World->Prop)(lf:Api)(L:List Ent)(R:List Res)(its:List It):Prop:=
 match lf with
 |.ret=>∀a w,Sat n C L R a w->Q .ret a w
 |.stop=>∀a w,Sat n C L R a w->Qs ro P its Q .normal a w
theorem Xk(hm : P.follows .mixedOrders = true) : ∀{fuel : Nat}{items : List It}{L : List Ent}{R : List Res}{ds : List Bool}{cls : List Cl}{lf : Api}{L' : List Ent}{R' : List Res}{cs : List Cl}{bs : List (Bool × Bool)}{a : Act}{w : World},
  F6 P n lv fuel items L R ds cls=some (lf,L',R',cs,bs)->C4 P cs->Dk bs->Sat n C L R a w ->
  Ahy ro P n C Q lf L' R' (B2 fuel items ds)->Qs ro P items Q .normal a w:=by
 intro fuel;induction fuel with
 |zero=>
  intro items L R ds cls lf L' R' cs bs a w h hok hbs hs hK;simp only[F6,ah,ar]at h;obtain⟨rfl,rfl,rfl,rfl,rfl⟩:=h;simp only[B2]at hK;exact hK a w hs
 | succ fuel ih =>
  intro items L R ds cls lf L' R' cs bs a w h hok hbs hs hK;have stop:∀{items},B2 (fuel+1) items ds=items->some (Api.stop,L,R,([]:List Cl),([]:List (Bool×Bool)))=some (lf,L',R',cs,bs) ->
    Ahy ro P n C Q lf L' R' (B2 (fuel+1) items ds)->Qs ro P items Q .normal a w:=by
   intro items hsk h hK;simp only[ah,ar]at h;obtain⟨rfl,rfl,rfl,rfl,rfl⟩:=h;rw[hsk]at hK;exact hK a w hs
  cases items with
  |nil=>exact stop rfl h hK
  | cons it l=>
   cases it with
   |k K=>exact stop rfl h hK
   |b id=>exact ih (items:=l) h hok hbs hs hK
   |l x m=>
    cases m with
    |zero=>simp[F6]at h
    |succ m=>exact ih (items:=.c x :: .l x m::l) h hok hbs hs hK
   | c x =>
    cases x with
    |skip=>exact wpIn_skip (ih (items:=l) h hok hbs hs hK)
    |seq x y=>exact wpIn_seq (ih (items:=.c x :: .c y::l) h hok hbs hs hK)
    | region id ops draw=>
     simp only[F6]at h;split at h
     ·rename_i L1 R1 cs1 e1;split at h
      ·rename_i lf2 L2 R2 cs2 bs2 e2;simp only[ah,ar]at h;obtain⟨rfl,rfl,rfl,rfl,rfl⟩:=h;exact A0x hm e1 (dt hok) hs λa' w' hs'=>ih (items:=l) e2 (dq hok) hbs hs' hK
      ·cases h
     ·cases h
    | cond c x y=>
     cases ds with
     |nil=>exact stop rfl h hK
     | cons d ds=>
      simp only[F6]at h;split at h
      ·rename_i b hb;split at h
       ·rename_i lf2 L2 R2 cs2 bs2 e2;simp only[ah,ar]at h;obtain⟨rfl,rfl,rfl,rfl,rfl⟩:=h;have he:=Af2 hs hb;have hd:b=d:=hbs.1;subst hd;cases b with
        |true=>exact wpIn_cond_true he (ih (items:=.c x::l) e2 hok hbs.2 hs hK)
        |false=>exact wpIn_cond_false he (ih (items:=.c y::l) e2 hok hbs.2 hs hK)
       ·cases h
      ·cases h
    | block id c=>
     cases hl:Aw7 c with
     | true=>
      cases ds with
      |nil=>
       simp only[F6,hl]at h;exact stop (by simp only[B2,hl]) h hK
      |cons d ds=>
       simp only[F6,hl]at h;simp only[B2,hl]at hK;exact wpIn_block (ih (items:=.c c :: .b id::l) h hok hbs hs hK)
     |false=>
      simp only[F6,hl]at h;simp only[B2,hl]at hK;exact wpIn_block (ih (items:=.c c :: .b id::l) h hok hbs hs hK)
    | exit id=>
     simp only[F6]at h;split at h
     ·rename_i l' hl';have hK':Ahy ro P n C Q lf L' R' (B2 fuel l' ds):=by
       cases lf with
       |ret=>exact hK
       |stop=>
        intro a w h2;have:=hK a w h2;simp only[B2,hl']at this;exact this
      exact wpIn_exit (Ug hl' (ih (items:=l') h hok hbs hs hK'))
     ·cases h
    |ret=>
     simp only[F6,ah,ar]at h;obtain⟨rfl,rfl,rfl,rfl,rfl⟩:=h;exact wpIn_ret (Ov (l:=l) (hK a w hs))
    |loop c=>
     cases ds with
     |nil=>exact stop rfl h hK
     |cons d ds=>exact wpIn_loop_rounds 1001 (ih (items:=.c c :: .l c 1000::l) h hok hbs hs hK)
    |rangeFunc f ps x y=>exact stop rfl h hK
    |scope c=>exact stop rfl h hK
    |label c=>exact stop rfl h hK
    |goto c=>exact stop rfl h hK
    |refuse c=>exact stop rfl h hK
inductive Adj where
 |frz (i:Nat)
 |own (t e size:Nat)
 |mv (i:Nat)
 |ownb (i j e size:Nat)
 |ownt (t j e size:Nat)
 |deep (i:Nat) (tys:List (TypeId×Nat))
 |flat (i:Nat)
 |trunc (t:Nat)
def Eb:List Adj->St->List Res->Option (St×List Res)
 | [],st,R=>some (st,R)
 |.frz i::l,st,R=>match Aoj i st R with
  |some (st',R')=>Eb l st' R'
  |none=>none
 |.own t e s::l,st,R=>match Ant t e s st R with
  |some (st',R')=>Eb l st' R'
  |none=>none
 |.mv i::l,st,R=>match Awt i st R with
  |some (st',R')=>Eb l st' R'
  |none=>none
 |.ownb i j e s::l,st,R=>match Ae3 i j e s st R with
  |some (st',R')=>Eb l st' R'
  |none=>none
 |.ownt t j e s::l,st,R=>match Ae2 t j e s st R with
  |some (st',R')=>Eb l st' R'
  |none=>none
 |.deep i tys::l,st,R=>match Agm i tys st R with
  |some (st',R')=>Eb l st' R'
  |none=>none
 |.flat i::l,st,R=>match Afy i st R with
  |some (st',R')=>Eb l st' R'
  |none=>none
 |.trunc t::l,st,R=>match vX t st R with
  |some (st',R')=>Eb l st' R'
  |none=>none
theorem Sat.adj:∀{l:List Adj}{st:St}{R:List Res}{st':St}{R':List Res},Eb l st R=some (st',R')->Sat n C (mkL st) R a w->Sat n C (mkL st') R' a w
 | [],st,R,st',R',h,hs=>by
  simp only[Eb,ah,ar]at h;obtain⟨rfl,rfl⟩:=h;exact hs
 | .frz i::l,st,R,st',R',h,hs=>by
  simp only[Eb]at h;split at h
  ·rename_i s1 R1 e1;exact Sat.adj h (hs.frz e1)
  ·cases h
 | .own t e s::l,st,R,st',R',h,hs=>by
  simp only[Eb]at h;split at h
  ·rename_i s1 R1 e1;exact Sat.adj h (hs.own e1)
  ·cases h
 | .mv i::l,st,R,st',R',h,hs=>by
  simp only[Eb]at h;split at h
  ·rename_i s1 R1 e1;exact Sat.adj h (hs.mv e1)
  ·cases h
 | .ownb i j e s::l,st,R,st',R',h,hs=>by
  simp only[Eb]at h;split at h
  ·rename_i s1 R1 e1;exact Sat.adj h (hs.ownb e1)
  ·cases h
 | .ownt t j e s::l,st,R,st',R',h,hs=>by
  simp only[Eb]at h;split at h
  ·rename_i s1 R1 e1;exact Sat.adj h (hs.ownt e1)
  ·cases h
 | .deep i tys::l,st,R,st',R',h,hs=>by
  simp only[Eb]at h;split at h
  ·rename_i s1 R1 e1;exact Sat.adj h (hs.deep e1)
  ·cases h
 | .flat i::l,st,R,st',R',h,hs=>by
  simp only[Eb]at h;split at h
  ·rename_i s1 R1 e1;exact Sat.adj h (hs.flat e1)
  ·cases h
 | .trunc t::l,st,R,st',R',h,hs=>by
  simp only[Eb]at h;split at h
  ·rename_i s1 R1 e1;exact Sat.adj h (hs.trunc e1)
  ·cases h
def Ui:List Ent->St
 | []=>[]
 |e::r=>bif e.p.isEmpty then (e.t,e.v)::Ui r else Ui r
theorem Lc:∀{L:List Ent}{e:Ent},e∈mkL (Ui L)->e∈L
 | [],e,h=>by cases h
 | x :: r, e, h => by
  simp only[Ui]at h;cases hb:x.p.isEmpty with
  | true=>
   rw[hb]at h;simp only[cond_true]at h;rcases ag.1 h with rfl|h
   ·have:(⟨x.t,[],x.v⟩:Ent)=x:=by
     obtain⟨xt,xp,xv⟩:=x;simp at hb ⊢;exact hb
    rw[this];exact aj
   ·exact ak _ (Lc h)
  |false=>
   rw[hb]at h;exact ak _ (Lc h)
def Ny(P:Program)(n:Nat)(lv:List Nat)(fuel:Nat)(items:List It)(st:St)(R:List Res)(ds:List Bool)(cls:List Cl)(adj:List Adj)(results:List ResultVar)(k:Nat)(pi:List Nat):Option (AV×List Res×List Cl×List (Bool×Bool)):=
 match F6 P n lv fuel items (mkL st) R ds cls with
 | some (.ret,L,R1,cs,bs)=>match Eb adj (Ui L) R1 with
  |some (st2,R2)=>match Uv P results k pi st2 R2 with
   |some (v,R3)=>some (v,R3,cs,bs)
   |none=>none
  |none=>none
 |_=>none
def Cy(P:Program)(n:Nat)(lv:List Nat)(fuel:Nat)(items:List It)(st:St)(R:List Res)(ds:List Bool)(cls:List Cl)(adj:List Adj)(k:Nat)(pi ts:List Nat):Option (St×List Res×List Cl×List (Bool×Bool)):=
 match F6 P n lv fuel items (mkL st) R ds cls with
 | some (.stop,L,R1,cs,bs)=>match Eb adj (Ui L) R1 with
  |some (st2,R2)=>match yH k pi ts st2 R2 with
   |some (st3,R3)=>some (st3,R3,cs,bs)
   |none=>none
  |none=>none
 |_=>none
variable{items:List It}
theorem Lr(hm:P.follows .mixedOrders=true)(lv:List Nat)(fuel:Nat)(ds:List Bool)(cls:List Cl)(adj:List Adj)(results:List ResultVar)(k:Nat)(pi:List Nat) 
  (hf:fn.results.toList=results)(hk:C.h.length<=k)(hok:C4 P cls)(hbs:Dk bs)(h:Ny P n lv fuel items st R ds cls adj results k pi=some (res,R2,cls,bs))(hup:Up C0 C):WI ro P n C (Ls P fn C0 res R2) items st R:=by
 intro a w hs;unfold Ny at h;split at h
 ·rename_i L R1 cs bs1 e1;split at h
  ·rename_i st2 R3 e2;split at h
   ·rename_i v R4 e3;simp only[ah,ar]at h;obtain⟨rfl,rfl,rfl,rfl⟩:=h;exact Xk hm e1 hok hbs hs λa' w' hs'=>((hs'.sub λe he=>Lc he).adj e2).post hup hf hk e3
   ·cases h
  ·cases h
 ·cases h
def Ctx.z(C:Ctx):Ctx:={C with df:=[]}
theorem Jk(hm:P.follows .mixedOrders=true)(lv:List Nat)(fuel:Nat)(ds:List Bool)(cls:List Cl)(adj:List Adj)(results:List ResultVar)(k:Nat)(pi:List Nat) 
  (hf:fn.results.toList=results)(hk:C.h.length<=k)(hok:C4 P cls)(hbs:Dk bs)(h:Ny P n lv fuel items st R ds cls adj results k pi=some (res,R2,cls,bs)):WI ro P n C.z (Ls P fn C.z res R2) items st R:=
 Lr (C:=C.z) hm lv fuel ds cls adj results k pi hf hk hok hbs h (du rfl)
def Ue(P:Program)(n:Nat)(lv:List Nat)(fuel:Nat)(items:List It)(st:St)(R:List Res)(ds:List Bool)(cls:List Cl)(adj:List Adj)(results:List ResultVar)(k:Nat)(pi:List Nat):Option (AV×List Res×List Cl×List (Bool×Bool)):=
 match F6 P n lv fuel items (mkL st) R ds cls with
 | some (.stop,L,R1,cs,bs)=>match Eb adj (Ui L) R1 with
  |some (st2,R2)=>match Uv P results k pi st2 R2 with
   |some (v,R3)=>some (v,R3,cs,bs)
   |none=>none
  |none=>none
 |_=>none
def An1:List It->Bool
 | []=>true
 |_=>false
theorem A2c(hm:P.follows .mixedOrders=true)(lv:List Nat)(fuel:Nat)(ds:List Bool)(cls:List Cl)(adj:List Adj)(results:List ResultVar)(k:Nat)(pi:List Nat) 
  (hf:fn.results.toList=results)(hk:C.h.length<=k)(hok:C4 P cls)(hbs:Dk bs)(hn:An1 (B2 fuel items ds)=true)(h:Ue P n lv fuel items st R ds cls adj results k pi=some (res,R2,cls,bs))(hup:Up C0 C):WI ro P n C (Ls P fn C0 res R2) items st R:=by
 intro a w hs;unfold Ue at h;split at h
 ·rename_i L R1 cs bs1 e1;split at h
  ·rename_i st2 R3 e2;split at h
   ·rename_i v R4 e3;simp only[ah,ar]at h;obtain⟨rfl,rfl,rfl,rfl⟩:=h;refine Xk hm e1 hok hbs hs λa' w' hs'=>?_;have hnil:B2 fuel items ds=[]:=by
     cases hh:B2 fuel items ds with
     |nil=>rfl
     |cons x l=>rw[hh]at hn;cases hn
    rw[hnil];exact((hs'.sub λe he=>Lc he).adj e2).post hup hf hk e3
   ·cases h
  ·cases h
 ·cases h
theorem Xy(hm:P.follows .mixedOrders=true)(lv:List Nat)(fuel:Nat)(ds:List Bool)(cls:List Cl)(adj:List Adj)(results:List ResultVar)(k:Nat)(pi:List Nat) 
  (hf:fn.results.toList=results)(hk:C.h.length<=k)(hok:C4 P cls)(hbs:Dk bs)(hn:An1 (B2 fuel items ds)=true)(h:Ue P n lv fuel items st R ds cls adj results k pi=some (res,R2,cls,bs)):WI ro P n C.z (Ls P fn C.z res R2) items st R:=
 A2c (C:=C.z) hm lv fuel ds cls adj results k pi hf hk hok hbs hn h (du rfl)
theorem Tl(hm:P.follows .mixedOrders=true)(lv:List Nat)(fuel:Nat)(ds:List Bool)(cls:List Cl)(adj:List Adj)(k:Nat)(pi ts:List Nat)(st':St)(R':List Res) 
  (hk:C.h.length<=k)(hok:C4 P cls)(hbs:Dk bs)(h:Cy P n lv fuel items st R ds cls adj k pi ts=some (st',R',cls,bs))(hW:WI ro P n C Q (B2 fuel items ds) st' R'):WI ro P n C Q items st R:=by
 intro a w hs;unfold Cy at h;split at h
 ·rename_i L R1 cs bs1 e1;split at h
  ·rename_i st2 R3 e2;split at h
   ·rename_i st3 R4 e3;simp only[ah,ar]at h;obtain⟨rfl,rfl,rfl,rfl⟩:=h;exact Xk hm e1 hok hbs hs λa' w' hs'=>hW a' w' (((hs'.sub λe he=>Lc he).adj e2).re hk e3)
   ·cases h
  ·cases h
 ·cases h
theorem Dc(hm:P.follows .mixedOrders=true)(lv:List Nat)(fuel:Nat)(ds:List Bool)(cls:List Cl)(adj:List Adj)(k:Nat)(pi:List Nat)(st':St)(R':List Res) 
  (hk:C.h.length<=k)(hok:C4 P cls)(hbs:Dk bs)(h:Cy P n lv fuel items st R ds cls adj k pi (Ir st')=some (st',R',cls,bs))(hW:WI ro P n C Q (B2 fuel items ds) st' R'):WI ro P n C Q items st R:=Tl hm lv fuel ds cls adj k pi _ st' R' hk hok hbs h hW
def isC:List It->Bool
 |.c _::_=>true
 |_=>false
def hdC:List It->Code
 |.c x::_=>x
 |_=>.skip
def isL:List It->Bool
 |.c (.loop _)::_=>true
 |_=>false
def lpC:List It->Code
 |.c (.loop x)::_=>x
 |_=>.skip
def tlI:List It->List It
 |_::l=>l
 | []=>[]
theorem Rc(hi:isC items=true)(φ:σ->Prop)(st':σ->St)(R':σ->List Res)(h:WI ro P n C Q (.c (hdC items) :: .k (Ex n C φ st' R')::tlI items) st R)(hK:∀s,φ s->WI ro P n C Q (tlI items) (st' s) (R' s)):WI ro P n C Q items st R:=by
 match items,hi with
 | .c x::l,_=>
  intro a w hs;refine wpIn_mono (h a w hs) λe a w hq=>?_;cases e with
  |normal=>
   obtain⟨s,h1,h2⟩:=hq;exact hK s h1 a w h2
  |_=>exact hq
def hdK:List It->Act->World->Prop
 |.k K::_=>K
 |_=>λ_ _=>False
def isB:List It->Bool
 |.c (.block _ _)::_=>true
 |_=>false
def Ayd:List It->Code
 |.c (.block _ x)::_=>x
 |_=>.skip
def Ayc:List It->Nat
 |.c (.block i _)::_=>i
 |_=>0
def nqT:List It->List It
 |_::l=>l
 | []=>[]
def A86:List It->Bool
 |.c (.cond _ _ _)::_=>true
 |_=>false
def cnO:List It->Operand
 |.c (.cond c _ _)::_=>c
 |_=>.const undef
def cnX:List It->Code
 |.c (.cond _ x _)::_=>x
 |_=>.skip
def cnY:List It->Code
 |.c (.cond _ _ y)::_=>y
 |_=>.skip
theorem Tm(t:Nat)(hi:A86 items=true)(ho:cnO items=.tmp t)(hc:(Ee (mkL st) t).map Ent.v=some (.d (.nq rows)))
  (ht:rows=[]->WI ro P n C Q (.c (cnX items)::nqT items) st R)(hf:WI ro P n C Q (.c (cnY items)::nqT items) st R):WI ro P n C Q items st R:=by
 match items,hi with
 | .c (.cond c x y)::l,_=>
  simp only[cnO]at ho;subst ho;intro a w hs;cases he:Ee (mkL st) t with
  |none=>rw[he]at hc;cases hc
  | some e=>
   rw[he]at hc;simp only[aT,ah]at hc;obtain⟨hm,hte⟩:=C9 he;have hs2:=hs;obtain⟨_,_,S,ρ,_,h4⟩:=hs2;obtain⟨v,hv,hr⟩:=(h4 e hm).1 (by rw[Ds hm];exact Cc);rw[hc]at hr;rw[hte]at hv;have hr':=hr.d_inv;cases hr' with
   | @nq b _ h=>
    have hev:a.eval (.tmp t)=.bool b:=by simp[Act.eval,Array.getD_eq_getD_getElem?,hv]
    cases b with
    |true=>exact wpIn_cond_true hev (ht (h rfl) a w hs)
    |false=>exact wpIn_cond_false hev (hf a w hs)
theorem Re(hi:isB items=true)(h:WI ro P n C Q (.c (Ayd items) :: .b (Ayc items)::tlI items) st R):WI ro P n C Q items st R:=by
 match items,hi with
 |.c (.block i x)::l,_=>exact λa w hs=>wpIn_block (h a w hs)
theorem A6q{K:Act->World->Prop}(hi:hdK items=K)(h:∀a w,Sat n C (mkL st) R a w->K a w):WI ro P n C Q items st R:=by
 subst hi
 match items,h with
 |.k K::l,h=>exact h
 | [],h=>exact λa w hs=>(h a w hs).elim
 |.c _::_,h=>exact λa w hs=>(h a w hs).elim
 |.b _::_,h=>exact λa w hs=>(h a w hs).elim
 |.l _ _::_,h=>exact λa w hs=>(h a w hs).elim
theorem Gp{φ:σ->Prop}{st':σ->St}{R':σ->List Res}(hm:P.follows .mixedOrders=true)(lv:List Nat)(fuel:Nat)(ds:List Bool)(cls:List Cl)(adj:List Adj)(k:Nat)(pi:List Nat)(s:σ)
  (hk:C.h.length<=k)(hok:C4 P cls)(hbs:Dk bs)(hi:hdK (B2 fuel items ds)=Ex n C φ st' R')(h:Cy P n lv fuel items st R ds cls adj k pi (Ir (st' s))=some (st' s,R' s,cls,bs))(h1:φ s):WI ro P n C Q items st R:=
 Dc hm lv fuel ds cls adj k pi (st' s) (R' s) hk hok hbs h (A6q hi λ_ _ hs=>⟨s,h1,hs⟩)
def foldI{α σ ρ:Type}(f:Nat->α->σ->Option (Ctl σ ρ)):List α->Nat->σ->Option (Ctl σ ρ)
 | [],_,s=>some (.next s)
 |x::xs,i,s=>match f i x s with
  |some (.next s')=>foldI f xs (i+1) s'
  |some (.brk s')=>some (.next s')
  |some (.ret r)=>some (.ret r)
  |none=>none
theorem Ou{α:Type}(hi:isL items=true)(f:Nat->α->σ->Option (Ctl σ τ))(stF:Nat->σ->St)(RF:Nat->σ->List Res)(r:Ctl σ τ)(xs:List α)(s:σ)(hm:foldI f xs 0 s=some r)
  (h0:st=stF 0 s)(h1:R=RF 0 s)
  (hnil:∀s,r=.next s->WI ro P n C Q (.c (lpC items) :: .k (λ_ _=>False)::tlI items) (stF xs.length s) (RF xs.length s))
  (hcons:∀i x s k,i<xs.length->xs[i]? = some x->f i x s=some k->(∀s',k=.brk s'->r=.next s')->(∀v,k=.ret v->r=.ret v) ->
   WI ro P n C Q (.c (lpC items) :: .k (Ex n C (λs'=>k=.next s') (stF (i+1)) (RF (i+1)))::tlI items) (stF i s) (RF i s)):WI ro P n C Q items st R:=by
 match items,hi with
 | .c (.loop c) :: l, _ =>
  refine Alv (λm a w=>∃i s,i<=xs.length/\xs.length-i=m/\foldI f (xs.drop i) i s=some r/\Sat n C (mkL (stF i s)) (RF i s) a w) ⟨xs.length,λa w hs=>⟨0,s,bF _,rfl,hm,by rw[h0,h1]at hs;exact hs⟩⟩ λm a w hI=>?_;obtain⟨i,s,hle,hl,hf,hs⟩:=hI;rcases aN i xs.length with hlt|hge
  ·have hd:xs.drop i=xs[i]::xs.drop (i+1):=List.drop_eq_getElem_cons hlt;rw[hd]at hf;simp only[foldI]at hf;cases hk:f i xs[i] s with
   |none=>rw[hk]at hf;cases hf
   | some k=>
    rw[hk]at hf;refine wpIn_mono (hcons i xs[i] s k hlt (ai hlt) hk ?_ ?_ a w hs) λe a' w' hq=>?_
    ·intro s' e;subst e;simp only[ah]at hf;exact hf.symm
    ·intro v e;subst e;simp only[ah]at hf;exact hf.symm
    ·cases e with
     |normal=>
      obtain⟨s',e,hs'⟩:=hq;subst e;exact⟨xs.length-(i+1),by omega,i+1,s',by omega,rfl,hf,hs'⟩
     |_=>exact hq
  ·have hii:i=xs.length:=Nat.le_antisymm hle hge;subst hii;rw[List.drop_length]at hf;simp only[foldI,ah]at hf;refine wpIn_mono (hnil s hf.symm a w hs) λe a' w' hq=>?_;cases e with
   |normal=>exact hq.elim
   |_=>exact hq
theorem Ahv(hi:isL items=true)(f:σ->Option (Ctl σ τ))(stF:σ->St)(RF:σ->List Res)(r:Ctl σ τ)(fuel:Nat)(s:σ)(hm:whileN f fuel s=some r)
  (h0:st=stF s)(h1:R=RF s)
  (h:∀s k,f s=some k->(∀s',k=.brk s'->r=.next s')->(∀v,k=.ret v->r=.ret v) ->
   WI ro P n C Q (.c (lpC items) :: .k (Ex n C (λs'=>k=.next s') stF RF)::tlI items) (stF s) (RF s)):WI ro P n C Q items st R:=by
 match items,hi with
 |.c (.loop c)::l,_=>exact A19 (Q:=Qs ro P l Q) f stF RF r fuel s hm ⟨h0,h1⟩ λs k h1 h2 h3 a w hs=>h s k h1 h2 h3 a w hs
def cnt(c:Int):Nat->Int
 |0=>c
 |i+1=>IntKind.i64.wrap (cnt c i+1)
theorem Vr{c:Int}(h0:-9223372036854775808<=c)(h:c+i<=9223372036854775807):cnt c i=c+i:=by
 induction i with
 |zero=>simp[cnt]
 |succ i ih=>
  simp only[cnt];rw[ih (by omega),IntWalk.i64_in _ (by omega)];omega
theorem V4(t:Nat)(h:(Ee (mkL st) t).map Ent.v=some (.d (.p (.s rows))))(hW:rows.length<=maxLen->WI ro P n C Q items st R):WI ro P n C Q items st R:=by
 intro a w hs;refine hW ?_ a w hs;obtain⟨_,_,S,ρ,h3,h4⟩:=hs;cases he:Ee (mkL st) t with
 |none=>rw[he]at h;cases h
 |some e=>
  rw[he]at h;simp at h;obtain⟨hm,_⟩:=C9 he;obtain⟨v,_,hr⟩:=(h4 e hm).1 (by rw[Ds hm];exact Cc);rw[h]at hr;obtain⟨a,cap,_,g1,g2⟩:=hr.d_inv.p_inv.slice_form;omega
theorem A2b{e sz:Nat}(t j:Nat)(h:(Ee (mkL st) t).map Ent.v=some (.d (.os j)))(hR:R[j]? = some (.sl e sz rows))(hW:rows.length<=maxLen->WI ro P n C Q items st R):WI ro P n C Q items st R:=by
 intro a w hs;refine hW ?_ a w hs;obtain⟨_,_,S,ρ,h3,h4⟩:=hs;cases he:Ee (mkL st) t with
 |none=>rw[he]at h;cases h
 |some e=>
  rw[he]at h;simp at h;obtain⟨hm,_⟩:=C9 he;obtain⟨v,_,hr⟩:=(h4 e hm).1 (by rw[Ds hm];exact Cc);rw[h]at hr;rcases(h3.ok j _ _ hR hr.d_inv.os_inv).live hr.d_inv.one with⟨_,h5⟩|⟨_,_,cap,_,_,_,h5,h6,_⟩
  ·rw[h5];simp[maxLen]
  ·omega
theorem Ev{c:Code}{args:List AV}(n:Nat)(hf:P.funcs[f]? = some fn)(hb:fn.body=some c)(hn:fn.ntmps=n)(hl:Nat.ble args.length n=true)
  (h:∀C:Ctx,C.h.length<=R.length->WI none P n C.z (Ls P fn C.z res R2) [.c c] (Xw 0 args) R):CallOk P f args R res R2:=
 Agw hf hb hn (bv hl) λC hd hC=>by
  have:=h C (by rw[hC];exact af _);have e:C.z=C:=by unfold Ctx.z;cases C;simp at hd;subst hd;rfl
  rw[e]at this;exact this
theorem Dj(hf : P.funcs[f]? = some fn)(hb : fn.body.isNone = false)(hn : (fn.name == "runtime.NumGoroutine") = false) : Ew P f := λ args w => by
 have hb':fn.body≠none:=by intro e;rw[e]at hb;cases hb
 have hn' : fn.name ≠ "runtime.NumGoroutine" := by simpa using hn
 simp[callFunc,hf,hn',hb']
end
end Go.SL
namespace Go.SL
variable{res:AV}{c:Bool}{s y:ByteArray}{f:FuncId}{hi hi' lo n:Int}{l:List (Bool×Bool)}{src:List (List Pd)}{args:List AV}{B i k k' off:Nat}{u:Unit}
abbrev I(n:Int):D:=.p (.v (.int .i64 n))
abbrev Bo(b:Bool):D:=.p (.v (.bool b))
abbrev w64(n:Int):Int:=IntKind.i64.wrap n
variable{α:Type}
abbrev DS(f:α->List Pd)(x:List α):D:=.p (.s (x.map f))
def pI(n:Int):List Pd:=[.v (.int .i64 n)]
def pK(k:IntKind)(n:Int):List Pd:=[.v (.int k n)]
def pB(b:Bool):List Pd:=[.v (.bool b)]
def pS(s:ByteArray):List Pd:=[.v (.string s)]
def pL{α:Type}(f:α->List Pd)(l:List α):List Pd:=[.s (l.map f)]
theorem A78{x y r:α}(hc:c=true)(h:(bif c then x else y)=r):x=r:=by subst hc;exact h
theorem Azx{x y r:α}(hc:c=false)(h:(bif c then x else y)=r):y=r:=by subst hc;exact h
theorem A0d(b:Bool):b=true\/b=false:=by cases b <;> simp
def Dv:List (Bool×Bool)->Bool
 | []=>true
 |(a,b)::r=>(a==b)&&Dv r
theorem V2:∀{l:List (Bool×Bool)},Dk l->Dv l=true
 | [],_=>rfl
 |(a,b)::r,h=>by
  obtain⟨h1,h2⟩:=h;subst h1;simp[Dv,V2 h2]
theorem V1:∀{l:List (Bool×Bool)},Dv l=true->Dk l
 | [],_=>trivial
 |(a,b)::r,h=>by
  simp only[Dv,ac,dL]at h;exact⟨h.1,V1 h.2⟩
def Au{α:Type}(l:List (Bool×Bool))(x:Option α)(d:α):Option α:=bif Dv l then x else some d
variable{x:Option α}
theorem Fo{d v:α}(h:Au l x d=some v)(hg:¬Dk l):v=d:=by
 unfold Au at h;cases hb:Dv l with
 |true=>exact absurd (V1 hb) hg
 |false=>rw[hb]at h;simpa using h.symm
theorem Ci{d v:α}(h:Au l x d=some v)(hg:Dk l):x=some v:=by
 unfold Au at h;rw[V2 hg]at h;exact h
def getI{α:Type}(l:List α)(n:Int):Option α:=bif decide (0<=n)then l[n.toNat]? else none
def setI{α:Type}(l:List α)(n:Int)(x:α):Option (List α):=bif decide (0<=n)&&decide (n<l.length)then some (l.set n.toNat x) else none
def mkI{α:Type}(B:Nat)(n:Int)(d:α):Option (List α):=bif decide (0<=n)&&decide (n*B<=140737488355328)then some (List.replicate n.toNat d) else none
def cutI{α:Type}(l:List α)(lo hi:Int):Option (List α):=bif decide (0<=lo)&&(decide (lo<=hi)&&decide (hi<=l.length))then some ((l.take hi.toNat).drop lo.toNat) else none
def nzI(n:Int):Option Unit:=bif n==0 then none else some ()
def Ahm(s:ByteArray):Option (List Int):=bif decide ((s.size:Int)<=140737488355328)then some (Oq s) else none
def Ane(l:List Int):Option ByteArray:=bif Oq ⟨(l.map λn=>UInt8.ofNat n.toNat).toArray⟩==l then some ⟨(l.map λn=>UInt8.ofNat n.toNat).toArray⟩ else none
def appI{α:Type}(B:Nat)(l m:List α):Option (List α):=bif decide ((l.length+m.length)*B<=140737488355328)then some (l++m) else none
section
variable{P:Program}{α:Type}
theorem Auo{y:List Int}(h:Ahm s=some y):Cl.ok P (.room (s.size:Int) (Mm s) (y.map (pK .u8))):=by
 unfold Ahm at h;cases hd:decide ((s.size:Int)<=140737488355328) with
 |false=>rw[hd]at h;cases h
 |true=>
  rw[hd]at h;simp only[cond_true,ah]at h;subst h;exact⟨by omega,dV hd,rfl⟩
theorem Av1{l:List Int}(h:Ane l=some y):Cl.ok P (.strb (l.map (pK .u8)) y):=by
 unfold Ane at h;cases hd:(Oq ⟨(l.map λn=>UInt8.ofNat n.toNat).toArray⟩==l) with
 |false=>rw[hd]at h;cases h
 |true=>
  rw[hd]at h;simp only[cond_true,ah]at h;subst h;have e:=eq_of_beq hd;show l.map (pK .u8)=_
  conv=>lhs;rw[←e]
  unfold Oq;rw[List.map_map];rfl
variable{l m y:List α}
theorem A9(enc:α->List Pd)(size:Nat)(hs:∀x,(enc x).length=size)(h:appI (B+1) l m=some y):Cl.ok P (.app (l.map enc) (m.map enc) size (((l.map enc).length+(m.map enc).length)*(B+1)) (y.map enc)):=by
 unfold appI at h;cases hd:decide ((l.length+m.length)*(B+1)<=140737488355328) with
 |false=>rw[hd]at h;cases h
 |true=>
  rw[hd]at h;simp only[cond_true,ah]at h;subst h;refine⟨by rw[aw,aw];exact dV hd,λr hr=>?_,by rw[bB]⟩;obtain⟨x,_,rfl⟩:=ao.1 hr;exact hs x
theorem J5(enc:α->List Pd)(size:Nat)(hs:∀x,(enc x).length=size)(h:appI (B+1) [] m=some y):Cl.ok P (.app [] (m.map enc) size ((m.map enc).length*(B+1)) (y.map enc)):=by
 have:=A9 (P:=P) enc size hs h;simpa using this
theorem Aym(enc:α->List Pd)(size:Nat)(hs:∀x,(enc x).length=size)(hsrc:src=m.map enc)(h:appI (B+1) l m=some y):Cl.ok P (.app (l.map enc) src size (((l.map enc).length+src.length)*(B+1)) (y.map enc)):=by
 subst hsrc;exact A9 enc size hs h
theorem Ayl(enc:α->List Pd)(size:Nat)(hs:∀x,(enc x).length=size){n:Nat}(hsrc:src=m.map enc)(h:appI (B+1) (l.take n) m=some y):Cl.ok P (.app ((l.map enc).take n) src size ((((l.map enc).take n).length+src.length)*(B+1)) (y.map enc)):=by
 subst hsrc;rw[←cr];exact A9 enc size hs h
variable{x:α}{enc:α->List Pd}
theorem A2(h:getI l n=some x):Cl.ok P (.row (l.map enc) n (enc x)):=by
 unfold getI at h;cases hd:decide (0<=n) with
 |false=>rw[hd]at h;cases h
 |true=>
  rw[hd]at h;simp only[cond_true]at h;exact⟨dV hd,by rw[au,h];rfl⟩
theorem A3k(h:nzI n=some u):Cl.ok P (.nz n):=by
 unfold nzI at h;show n≠0;intro e;subst e;cases h
theorem Io(h:(n==0)=false):Cl.ok P (.nz n):=by
 show n≠0;intro e;subst e;cases h
theorem Bn(h:getI l n=some x):Cl.ok P (.row (l.map enc) ((n.toNat:Nat):Int) (enc x)):=by
 obtain⟨h0,h1⟩:=(A2 (P:=P) (enc:=enc) h:0<=n/\(l.map enc)[n.toNat]? = some (enc x));exact⟨Int.natCast_nonneg _,by rw[aB];exact h1⟩
theorem B7{x':α}(hx:getI l n=some x)(h:setI l n x'=some y):Cl.ok P (.upd (l.map enc) n.toNat (enc x) (enc x') (y.map enc)):=by
 obtain⟨h0,h1⟩:=(A2 (P:=P) (enc:=enc) hx:0<=n/\(l.map enc)[n.toNat]? = some (enc x));refine⟨h1,?_⟩;unfold setI at h;cases hd:(decide (0<=n)&&decide (n<l.length)) with
 |false=>rw[hd]at h;cases h
 |true=>
  rw[hd]at h;simp at h;subst h;rw[List.map_set]
variable{d:α}
theorem Hq(h:mkI (B+1) n d=some y):Cl.ok P (.room (n*(B+1)) (List.replicate n.toNat (enc d)) (y.map enc)):=by
 unfold mkI at h;cases hd:(decide (0<=n)&&decide (n*((B+1:Nat):Int)<=140737488355328)) with
 |false=>rw[hd]at h;cases h
 |true=>
  rw[hd]at h;simp at h;subst h;simp only[ac,dJ]at hd;refine⟨cj hd.1 (by omega),by have:=hd.2;simpa using this,by simp⟩
theorem Hf(l:List α)(enc:α->List Pd):Cl.ok P (.len ((l.map enc).length:Int) (l.length:Int)):=by
 show ((l.map enc).length:Int)=l.length;rw[aw]
theorem zK(enc:α->List Pd)(size:Nat)(hs:∀x,(enc x).length=size)(h:cutI l lo hi=some y):Cl.ok P (.cut (l.map enc) size lo hi (y.map enc)):=by
 unfold cutI at h;cases hd:(decide (0<=lo)&&(decide (lo<=hi)&&decide (hi<=l.length))) with
 |false=>rw[hd]at h;cases h
 |true=>
  rw[hd]at h;simp only[cond_true,ah]at h;simp only[ac,dJ]at hd;subst h;refine⟨hd.1,hd.2.1,by rw[aw];exact hd.2.2,λr hr=>?_,by rw[←cr,←List.map_drop]⟩;obtain⟨x,_,rfl⟩:=ao.1 hr;exact hs x
theorem Ae1(l:List α)(enc:α->List Pd)(lo n:Nat):((l.map enc).drop lo).take n=((l.drop lo).take n).map enc:=by simp
def bndI(k:Nat)(lo hi:Int):Option Unit:=bif decide (0<=lo)&&(decide (lo<=hi)&&decide (hi<=k))then some () else none
theorem Gz(hk:k'=k)(hh:hi'=hi)(h:bndI k lo hi=some u):Cl.ok P (.bnd k' lo hi' hi):=by
 subst hk;subst hh;unfold bndI at h;cases hd:decide (0<=lo)&&(decide (lo<=hi')&&decide (hi'<=k')) with
 |false=>rw[hd]at h;cases h
 |true=>simp at hd;exact⟨hd.1,hd.2.1,hd.2.2,rfl⟩
def bnd3I(k:Nat)(lo hi mx:Int):Option Unit:=bif decide (0<=lo)&&(decide (lo<=hi)&&(decide (hi<=mx)&&decide (mx<=k)))then some () else none
theorem Ahp{mx:Int}(hk:k'=k)(h:bnd3I k lo hi mx=some u):Cl.ok P (.bnd3 k' lo hi mx):=by
 subst hk;unfold bnd3I at h;cases hd:decide (0<=lo)&&(decide (lo<=hi)&&(decide (hi<=mx)&&decide (mx<=k'))) with
 |false=>rw[hd]at h;cases h
 |true=>simp at hd;exact⟨hd.1,hd.2.1,hd.2.2.1,hd.2.2.2⟩
def appPI{α:Type}(l:List α)(n:Nat)(m:List α):Option (List α):=bif decide (n+m.length<=l.length)then some (l.take n++(m++l.drop (n+m.length))) else none
theorem Ayn(enc:α->List Pd)(size:Nat)(hs:∀x,(enc x).length=size){n:Nat}(hsrc:src=m.map enc)(h:appPI l n m=some y) :
  Cl.ok P (.appP (l.map enc) src size n (n+m.length) ((l.map enc).take n++(src++(l.map enc).drop (n+src.length))) (y.map enc)):=by
 subst hsrc;unfold appPI at h;cases hd:decide (n+m.length<=l.length) with
 |false=>rw[hd]at h;cases h
 |true=>
  rw[hd]at h;simp only[cond_true,ah]at h;subst h;simp only[dJ]at hd;refine⟨⟨by simp,by simpa using hd⟩,λx hx=>?_,by simp⟩;obtain⟨z,_,rfl⟩:=ao.1 hx;exact hs z
def insI{α:Type}(B:Nat)(l:List α)(i:Int)(m:List α):Option (List α):=bif decide ((l.length+m.length)*B<=140737488355328)then some (l.take i.toNat++(m++l.drop i.toNat)) else none
def Ht{α:Type}(l:List α)(lo n:Nat)(d:α):List α:=l.take lo++(List.replicate n d++l.drop (lo+n))
theorem zQ(enc:α->List Pd){lo n n':Nat}(hn:n'=n):Cl.ok P (.eqr ((l.map enc).take lo++(List.replicate n' (enc d)++(l.map enc).drop (lo+n'))) ((Ht l lo n d).map enc)):=by
 subst hn;show _=_;simp[Ht]
theorem U2(h:mkI (B+1) n d=some y):Cl.ok P (.roomZ (n*(B+1)) (List.replicate n.toNat (enc d)) (y.map enc)):=Hq (P:=P) (enc:=enc) h
theorem J6{β:Type}{enc2:β->List Pd}(size:Nat)(hs:∀x,(enc2 x).length=size){i:Int}{a m y:List β}(hx:getI l i=some x)(ho:(enc x)[off]? = some (.s (a.map enc2)))(h:appI (B+1) a m=some y) :
  Cl.ok P (.appD (l.map enc) i.toNat (enc x) off (a.map enc2) (m.map enc2) size (((a.map enc2).length+(m.map enc2).length)*(B+1)) (y.map enc2)):=by
 obtain⟨_,h1⟩:=Bn (P:=P) (enc:=enc) hx;simp only[aB]at h1;exact⟨⟨h1,ho⟩,A9 (P:=P) enc2 size hs h⟩
theorem Js{x':α}(hx:getI l n=some x)(h:setI l n x'=some y):Cl.ok P (.updD (l.map enc) n.toNat n.toNat (enc x) (enc x') (y.map enc)):=
 ⟨rfl,B7 (P:=P) (enc:=enc) hx h⟩
theorem Aw2(h:Ew P f/\CallOk P f args [] res [])(hx:getI l n=some x):Cl.ok P (.callB f args res (l.map enc) n.toNat (enc x)):=by
 obtain⟨_,h1⟩:=Bn (P:=P) (enc:=enc) hx;simp only[aB]at h1;exact⟨h,h1⟩
theorem E7(h:Ew P f/\CallOk P f args [] res []):Cl.ok P (.callB f args res [[]] 0 []):=⟨h,rfl⟩
theorem Bs(hx:l[i]? = some x)(hl:(l.map enc).length<=maxLen):Cl.ok P (.row (l.map enc) (cnt 0 i) (enc x)):=by
 have hi:i<l.length:=(ab.1 hx).1;rw[aw]at hl;have hm:maxLen=9223372036854775807:=rfl;rw[Vr (by omega) (by omega)];refine⟨by omega,?_⟩;have:((0:Int)+(i:Int)).toNat=i:=by omega
 rw[this,au,hx];rfl
theorem Bj(hx:l[i]? = some x)(hl:(l.map enc).length<=maxLen):getI l (cnt 0 i)=some x:=by
 have hi:i<l.length:=(ab.1 hx).1;rw[aw]at hl;have hm:maxLen=9223372036854775807:=rfl;rw[Vr (by omega) (by omega)];unfold getI;have h1:decide ((0:Int)<=0+(i:Int))=true:=dN (by omega);have h2:((0:Int)+(i:Int)).toNat=i:=by omega
 rw[h1,h2];exact hx
theorem Q2(hi:i<l.length)(hl:(l.map enc).length<=maxLen):decide (cnt 0 i<(l.length:Int))=true:=by
 rw[aw]at hl;have hm:maxLen=9223372036854775807:=rfl;rw[Vr (by omega) (by omega)];exact dN (by omega)
theorem Q3(hl:(l.map enc).length<=maxLen):decide (cnt 0 l.length<(l.length:Int))=false:=by
 rw[aw]at hl;have hm:maxLen=9223372036854775807:=rfl;rw[Vr (by omega) (by omega)];exact dQ (by omega)
end
def andThen{σ τ ρ:Type}(c:Option (Ctl σ τ))(g:τ->Option ρ)(f:σ->Option ρ):Option ρ:=
 match c with
 |some (.ret v)=>g v
 |some (.next s)=>f s
 |some (.brk s)=>f s
 |none=>none
theorem Yp{σ τ ρ:Type}{c:Option (Ctl σ τ)}{g:τ->Option ρ}{f:σ->Option ρ}{r:ρ}(h:andThen c g f=some r):∃k,c=some k/\(∀v,k=.ret v->g v=some r)/\(∀s,k=.next s->f s=some r):=by
 unfold andThen at h;split at h
 ·exact⟨_,rfl,λv e=>by cases e;exact h,λs e=>by cases e⟩
 ·exact⟨_,rfl,λv e=>(by cases e),λs e=>by cases e;exact h⟩
 ·exact⟨_,rfl,λv e=>(by cases e),λs e=>by cases e⟩
 ·cases h
end Go.SL
