import Derived.Test.YtiaaaghdkhnonaaGreatSlTD
namespace Go.SL
variable{σ τ:Type}{res:AV}{ops:Array Oper}{b draw:Bool}{C0:Ctx}{fn:Func}{f:FuncId}{bs:List (Bool×Bool)}{rows:List (List Pd)}{cls cs:List Cl}{R2 fl:List Res}{i id:Nat}
inductive It where
 |c (x:Code)
 |b (id:Nat)
 |k (K:Act->World->Prop)
 |l (x:Code) (m:Nat)
def Qs(ro:Option Nat)(P:Program):List It->(Exit->Act->World->Prop)->Exit->Act->World->Prop
 | [],Q=>Q
 |.c x::l,Q=>Exit.then (x.wpIn (FR ro) 0 P (Qs ro P l Q)) (Qs ro P l Q)
 |.b id::l,Q=>Exit.inBlock id (Qs ro P l Q)
 |.k K::l,Q=>Exit.then K (Qs ro P l Q)
 |.l x m::l,Q=>Exit.then (Code.roundsIn (FR ro) 0 P x (Qs ro P l Q) m) (Qs ro P l Q)
def WI(ro:Option Nat)(P:Program)(n:Nat)(C:Ctx)(Q:Exit->Act->World->Prop)(l:List It)(st:St)(R:List Res):Prop:=
 ∀a w,Sat n C (mkL st) R a w->Qs ro P l Q .normal a w
def unw(id:Nat):List It->Option (List It)
 | []=>none
 |.c _::l=>unw id l
 |.k _::l=>unw id l
 |.l _ _::l=>unw id l
 |.b id'::l=>bif Nat.beq id' id then some l else unw id l
inductive An6 where
 |ret
 |stop
def S5(lv:eR):List Ent->List Ent
 | []=>[]
 |e::r=>bif e.p.isEmpty&&Nl lv e.t then e::S5 lv r else S5 lv r
def A1c(o:Oper):Bool:=
 match o.op with
 |.alloc _=>true
 |.makeSlice ..=>true
 |_=>false
def A38(ops:Array Oper):List Cl->Option (List Res)
 |.flts l::_=>bif ops.toList.any A1c then some l else none
 |_=>none
def Ama(P:Program)(n:Nat)(ops:Array Oper)(draw:Bool)(L:List Ent)(R:List Res)(cls:List Cl)(lv:eR):Option (List Ent×List Res×List Cl):=
 match draw with
 |false=>match Ti P n ops (List.range ops.size) L R cls with
  |some (L',R',cs)=>some (S5 lv L',R',cs)
  |none=>none
 | true=>match A38 ops cls with
  |some fl=>match Sv P n ops (List.range ops.size) L (R++fl) cls.tail with
   |some (rs,L',R',cs)=>bif Oh ops L rs&&Pb R.length (R.length+fl.length) rs then some (S5 lv L',R',.flts fl::cs) else none
   |none=>none
  |none=>match Sv P n ops (List.range ops.size) L R cls with
   |some (rs,L',R',cs)=>bif Oh ops L rs&&Pb 0 0 rs then some (S5 lv L',R',cs) else none
   |none=>none
def Ada(L:List Ent)(c:Operand):Option Bool:=
 match c with
 |.const (.bool b)=>some b
 |.tmp t=>match Eu L t with
  |some e=>bif e.p.isEmpty then Mu e.v else none
  |none=>none
 |_=>none
def Aww:Code->Bool
 |.loop _=>true
 |_=>false
def Gi(P : Program)(n : Nat)(lv : eR) : Nat -> List It -> List Ent -> List Res -> eT -> List Cl -> Option (An6 × List Ent × List Res × List Cl × List (Bool × Bool))
 |0,_,L,R,_,_=>some (.stop,L,R,[],[])
 | fuel+1,items,L,R,ds,cls=>match items with
  | []=>some (.stop,L,R,[],[])
  |.k _::_=>some (.stop,L,R,[],[])
  |.b _::l=>Gi P n lv fuel l L R ds cls
  |.l x m::l=>match m with
   |0=>none
   |m+1=>Gi P n lv fuel (.c x :: .l x m::l) L R ds cls
  | .c x::l=>match x with
   |.skip=>Gi P n lv fuel l L R ds cls
   |.seq a b=>Gi P n lv fuel (.c a :: .c b::l) L R ds cls
   | .region _ ops draw=>match Ama P n ops draw L R cls lv with
    |some (L',R',cs)=>match Gi P n lv fuel l L' R' ds (cls.drop cs.length) with
     |some (lf,L2,R2,cs2,bs)=>some (lf,L2,R2,cs++cs2,bs)
     |none=>none
    |none=>none
   | .cond c x y=>match ds with
    | []=>some (.stop,L,R,[],[])
    | d::ds=>match Ada L c with
     |some b=>match Gi P n lv fuel ((match d with|true=>.c x|false=>.c y)::l) L R ds cls with
      |some (lf,L2,R2,cs2,bs)=>some (lf,L2,R2,cs2,(b,d)::bs)
      |none=>none
     |none=>none
   |.block id c=>match Aww c,ds with
    |true,[]=>some (.stop,L,R,[],[])
    |true,_::ds=>Gi P n lv fuel (.c c :: .b id::l) L R ds cls
    |false,ds=>Gi P n lv fuel (.c c :: .b id::l) L R ds cls
   |.exit id=>match unw id l with
    |some l'=>Gi P n lv fuel l' L R ds cls
    |none=>none
   |.ret=>some (.ret,L,R,[],[])
   |.loop x=>match ds with
    | []=>some (.stop,L,R,[],[])
    |_::ds=>Gi P n lv fuel (.c x :: .l x 1000::l) L R ds cls
   |_=>some (.stop,L,R,[],[])
def B2 : Nat -> List It -> eT -> List It
 |0,items,_=>items
 | fuel+1,items,ds=>match items with
  | []=>[]
  |.k K::l=>.k K::l
  |.b _::l=>B2 fuel l ds
  |.l x m::l=>match m with
   |0=>.l x 0::l
   |m+1=>B2 fuel (.c x :: .l x m::l) ds
  | .c x::l=>match x with
   |.skip=>B2 fuel l ds
   |.seq a b=>B2 fuel (.c a :: .c b::l) ds
   |.region _ _ _=>B2 fuel l ds
   |.cond c x y=>match ds with
    | []=>.c (.cond c x y)::l
    |d::ds=>B2 fuel ((match d with|true=>.c x|false=>.c y)::l) ds
   |.block id c=>match Aww c,ds with
    |true,[]=>.c (.block id c)::l
    |true,_::ds=>B2 fuel (.c c :: .b id::l) ds
    |false,ds=>B2 fuel (.c c :: .b id::l) ds
   |.exit id=>match unw id l with
    |some l'=>B2 fuel l' ds
    |none=>.c (.exit id)::l
   |.loop x=>match ds with
    | []=>.c (.loop x)::l
    |_::ds=>B2 fuel (.c x :: .l x 1000::l) ds
   |y=>.c y::l
section
variable{ro:Option Nat}{P:Program}{n:Nat}{C:Ctx}{Q:Exit->Act->World->Prop}{st st':St}{R R':List Res}{L L':List Ent}{S S':Nat->Prop}{w w':World}{ρ ρ':eU}{a:Act}{lv:eR}
theorem Po:∀{l:List It},Q .ret a w->Qs ro P l Q .ret a w
 | [],h=>h
 |.c _::l,h=>Po (l:=l) h
 |.b _::l,h=>Po (l:=l) h
 |.k _::l,h=>Po (l:=l) h
 |.l _ _::l,h=>Po (l:=l) h
theorem Uo{id:Nat}:∀{l l':List It},unw id l=some l'->Qs ro P l' Q .normal a w->Qs ro P l Q (.exit id) a w
 | [],l',h,_=>by simp[unw]at h
 |.c _::l,l',h,hq=>Uo (l:=l) h hq
 |.k _::l,l',h,hq=>Uo (l:=l) h hq
 |.l _ _::l,l',h,hq=>Uo (l:=l) h hq
 | .b id'::l,l',h,hq=>by
  simp only[unw]at h;show (if id=id' then Qs ro P l Q .normal a w else Qs ro P l Q (.exit id) a w);cases hb:Nat.beq id' id with
  |true=>rw[hb]at h;simp at h;subst h;rw[eC (ak hb).symm];exact hq
  |false=>
   rw[hb]at h;simp only[eB]at h;have:¬(id=id'):=by rintro rfl;simp at hb
   rw[eF this];exact Uo h hq
theorem Jk:∀{L:List Ent}{e:Ent},e∈S5 lv L->e∈L/\e.p=[]
 | [],e,h=>by cases h
 | x::r,e,h=>by
  simp only[S5]at h;cases hb:(x.p.isEmpty&&Nl lv x.t) with
  | true=>
   rw[hb]at h;simp only[ez]at h;rcases ag.1 h with rfl|h
   .simp only[ac,cH]at hb;exact⟨ai,hb.1⟩
   .exact⟨al _ (Jk h).1,(Jk h).2⟩
  |false=>rw[hb]at h;simp only[eB]at h;exact⟨al _ (Jk h).1,(Jk h).2⟩
theorem Sat.drew{L:List Ent}(hs:Sat n C L R a w):Sat n C L R a w.drew:=by obtain⟨h1,h2,S,ρ,h3,h4⟩:=hs;refine⟨h1,h2,S,ρ,h3.drew,λe he=>?_⟩;obtain⟨k1,k2⟩:=h4 e he;refine⟨λhp=>?_,k2⟩;obtain⟨v,hv,hr⟩:=k1 hp;exact⟨v,hv,hr.mono (λ_ h=>h) (λ_ _=>rfl) (Pre.refl _)⟩
theorem Ajp{rs:List Rec}{lo hi:Nat}(hs:Sat n C L R a w)(e1:Sv P n ops (List.range ops.size) L (R++fl) cls=some (rs,L',R',cs))(hok:Dc P cs)
  (hb:Oh ops L rs=true)(hr:∀i,i∈Kg rs->R.length<=i/\i<R.length+fl.length)(hfl:Pb lo hi rs=true)(hK:∀a w,Sat n C L' R' a w->Q .normal a w) :
  wpAnyIn (FR ro) 0 P .any ops Q ops.size (Array.replicate ops.size false) a w.drew:=by
 obtain⟨c1,c2⟩:=N4 e1 hok;obtain⟨h1,h2,S,ρ,h3,h4⟩:=hs.drew;have hnd:Gq (Kg rs)=true:=by unfold Pb at hfl;simp only[ac]at hfl;exact hfl.1
 have hCl:C.h.length<=ρ.length:=by
  rcases aM ρ.length C.h.length with hlt|hge
  .have:=h3.pre _ _ (aj hlt);have:=(aa.1 this).1;omega
  .exact hge
 have hF:Agj C rs:=⟨Vs hnd,λr i hrs hfi=>by have:=(hr i (Ky hrs hfi)).1;rw[h3.len]at hCl;omega⟩;obtain⟨ρ',h5,h6,h7⟩:=h3.dummies fl;refine A6l (C:=C) c1 c2 (uD hb) hF hK ops.size _ a _ (by simp) ?_ ?_ ⟨h1,h2,S,ρ',?_,λe he=>?_,λr i hrs hfi _=>?_⟩
 .unfold unl;refine aA (bc _ _) (by simp)
 .intro j o hj;simp only[aR,cg]at hj;split at hj <;> simp at hj
 .have:E3 (λi=>(Array.replicate ops.size false).getD i false) (R++fl) rs=R++fl:=Gn λr _ _=>by
   simp only[aR,cg];split <;> simp
  rw[this];exact h5
 .rcases he with⟨g1,_⟩|⟨r,_,g2,_⟩
  .obtain⟨k1,k2⟩:=h4 e g1;refine⟨λhp=>?_,k2⟩;obtain⟨v,hv,hr⟩:=k1 hp;exact⟨v,hv,hr.mono (λ_ h=>h) (λ_ _=>rfl) h6⟩
  .simp only[aR,cg]at g2;split at g2 <;> simp at g2
 .obtain⟨m1,m2⟩:=hr i (Ky hrs hfi);exact h7 i m1 m2
theorem A0x(hm:P.follows .mixedOrders=true)(h:Ama P n ops draw L R cls lv=some (L',R',cs))(hok:Dc P cs)
  (hs:Sat n C L R a w)(hK:∀a w,Sat n C L' R' a w->Q .normal a w):(Code.region id ops draw).wpIn (FR ro) 0 P Q a w:=by
 cases draw with
 | false=>
  refine wpIn_region ?_;simp only[Ama]at h;split at h
  .rename_i L1 R1 cs1 e1;simp at h;obtain⟨rfl,rfl,rfl⟩:=h;exact Uk (Tg e1 hok hs λa' w' h'=>hK a' w' (h'.sub λe he=>(Jk he).1))
  .cases h
 | true=>
  refine wpIn_region_any hm ?_;simp only[Ama]at h;split at h
  .rename_i fl _;split at h
   .rename_i rs L1 R1 cs1 e1;cases hb:(Oh ops L rs&&Pb R.length (R.length+fl.length) rs) with
    |false=>rw[hb]at h;simp at h
    |true=>rw[hb]at h;simp at h;obtain⟨rfl,rfl,rfl⟩:=h;simp only[ac]at hb;refine Ajp (fl:=fl) hs e1 hok.2 hb.1 (λi hi=>?_) hb.2 λa' w' h'=>hK a' w' (h'.sub λe he=>(Jk he).1);have:=(aG.1 (by unfold Pb at hb;simp only[ac]at hb;exact hb.2.2)) i hi;simp only[ac]at this;exact⟨bv this.1,by have:=this.2;simpa[eN]using this⟩
   .cases h
  .split at h
   .rename_i rs L1 R1 cs1 e1;cases hb:(Oh ops L rs&&Pb 0 0 rs) with
    |false=>rw[hb]at h;simp at h
    |true=>rw[hb]at h;simp at h;obtain⟨rfl,rfl,rfl⟩:=h;simp only[ac]at hb;refine Ajp (fl:=[]) (lo:=0) (hi:=0) hs (by simpa using e1) hok hb.1 (λi hi=>?_) hb.2 λa' w' h'=>hK a' w' (h'.sub λe he=>(Jk he).1);have:=(aG.1 (by unfold Pb at hb;simp only[ac]at hb;exact hb.2.2)) i hi;simp[eN]at this
   .cases h
theorem Aev{c:Operand}(hs:Sat n C L R a w)(hc:Ada L c=some b):a.eval c=.bool b:=by
 obtain⟨_,_,S,ρ,_,h4⟩:=hs;unfold Ada at hc;split at hc
 .simp at hc;subst hc;rfl
 .rename_i t;split at hc
  .rename_i e he;cases hp:e.p.isEmpty with
   |false=>rw[hp]at hc;simp at hc
   |true=>rw[hp]at hc;simp only[ez]at hc;have:=(Tk h4 he hc).1 (by rw[cH.1 hp];exact Cd);simp[Act.eval,eu,this]
  .cases hc
 .cases hc
theorem dw:∀{l m:List Cl},Dc P (l++m)->Dc P l
 | [],_,_=>trivial
 |_::_,_,h=>⟨h.1,dw h.2⟩
theorem dv:∀{l m:List Cl},Dc P (l++m)->Dc P m
 | [],_,h=>h
 |_::l,_,h=>dv (l:=l) h.2
def Agi(ro:Option Nat)(P:Program)(n:Nat)(C:Ctx)(Q:Exit->Act->World->Prop)(lf:An6)(L:List Ent)(R:List Res)(its:List It):Prop:=
 match lf with
 |.ret=>∀a w,Sat n C L R a w->Q .ret a w
 |.stop=>∀a w,Sat n C L R a w->Qs ro P its Q .normal a w
theorem Oo(hm : P.follows .mixedOrders = true) : ∀{fuel : Nat}{items : List It}{L : List Ent}{R : List Res}{ds : eT}{cls : List Cl}{lf : An6}{L' : List Ent}{R' : List Res}{cs : List Cl}{bs : List (Bool × Bool)}{a : Act}{w : World},
  Gi P n lv fuel items L R ds cls=some (lf,L',R',cs,bs)->Dc P cs->Dq bs->Sat n C L R a w ->
  Agi ro P n C Q lf L' R' (B2 fuel items ds)->Qs ro P items Q .normal a w:=by
 intro fuel;induction fuel with
 |zero=>intro items L R ds cls lf L' R' cs bs a w h hok hbs hs hK;simp only[Gi,ah,au]at h;obtain⟨rfl,rfl,rfl,rfl,rfl⟩:=h;simp only[B2]at hK;exact hK a w hs
 | succ fuel ih =>
  intro items L R ds cls lf L' R' cs bs a w h hok hbs hs hK;have stop:∀{items},B2 (fuel+1) items ds=items->some (An6.stop,L,R,([]:List Cl),([]:List (Bool×Bool)))=some (lf,L',R',cs,bs) ->
    Agi ro P n C Q lf L' R' (B2 (fuel+1) items ds)->Qs ro P items Q .normal a w:=by
   intro items hsk h hK;simp only[ah,au]at h;obtain⟨rfl,rfl,rfl,rfl,rfl⟩:=h;rw[hsk]at hK;exact hK a w hs
  cases items with
  |nil=>exact stop rfl h hK
  | cons it l=>
   cases it with
   |k K=>exact stop rfl h hK
   |b id=>exact ih (items:=l) h hok hbs hs hK
   |l x m=>
    cases m with
    |zero=>simp[Gi]at h
    |succ m=>exact ih (items:=.c x :: .l x m::l) h hok hbs hs hK
   | c x =>
    cases x with
    |skip=>exact wpIn_skip (ih (items:=l) h hok hbs hs hK)
    |seq x y=>exact wpIn_seq (ih (items:=.c x :: .c y::l) h hok hbs hs hK)
    | region id ops draw=>
     simp only[Gi]at h;split at h
     .rename_i L1 R1 cs1 e1;split at h
      .rename_i lf2 L2 R2 cs2 bs2 e2;simp only[ah,au]at h;obtain⟨rfl,rfl,rfl,rfl,rfl⟩:=h;exact A0x hm e1 (dw hok) hs λa' w' hs'=>ih (items:=l) e2 (dv hok) hbs hs' hK
      .cases h
     .cases h
    | cond c x y=>
     cases ds with
     |nil=>exact stop rfl h hK
     | cons d ds=>
      simp only[Gi]at h;split at h
      .rename_i b hb;split at h
       .rename_i lf2 L2 R2 cs2 bs2 e2;simp only[ah,au]at h;obtain⟨rfl,rfl,rfl,rfl,rfl⟩:=h;have he:=Aev hs hb;have hd:b=d:=hbs.1;subst hd;cases b with
        |true=>exact wpIn_cond_true he (ih (items:=.c x::l) e2 hok hbs.2 hs hK)
        |false=>exact wpIn_cond_false he (ih (items:=.c y::l) e2 hok hbs.2 hs hK)
       .cases h
      .cases h
    | block id c=>
     cases hl:Aww c with
     | true=>
      cases ds with
      |nil=>simp only[Gi,hl]at h;exact stop (by simp only[B2,hl]) h hK
      |cons d ds=>simp only[Gi,hl]at h;simp only[B2,hl]at hK;exact wpIn_block (ih (items:=.c c :: .b id::l) h hok hbs hs hK)
     |false=>simp only[Gi,hl]at h;simp only[B2,hl]at hK;exact wpIn_block (ih (items:=.c c :: .b id::l) h hok hbs hs hK)
    | exit id=>
     simp only[Gi]at h;split at h
     .rename_i l' hl';have hK':Agi ro P n C Q lf L' R' (B2 fuel l' ds):=by
       cases lf with
       |ret=>exact hK
       |stop=>intro a w h2;have:=hK a w h2;simp only[B2,hl']at this;exact this
      exact wpIn_exit (Uo hl' (ih (items:=l') h hok hbs hs hK'))
     .cases h
    |ret=>simp only[Gi,ah,au]at h;obtain⟨rfl,rfl,rfl,rfl,rfl⟩:=h;exact wpIn_ret (Po (l:=l) (hK a w hs))
    |loop c=>
     cases ds with
     |nil=>exact stop rfl h hK
     |cons d ds=>exact wpIn_loop_rounds 1001 (ih (items:=.c c :: .l c 1000::l) h hok hbs hs hK)
    |rangeFunc f ps x y=>exact stop rfl h hK
    |scope c=>exact stop rfl h hK
    |label c=>exact stop rfl h hK
    |goto c=>exact stop rfl h hK
    |refuse c=>exact stop rfl h hK
inductive Adj where
 |frz (i:Nat)
 |own (t e size:Nat)
 |mv (i:Nat)
 |ownb (i j e size:Nat)
 |ownt (t j e size:Nat)
 |deep (i:Nat) (tys:List (TypeId×Nat))
 |flat (i:Nat)
 |trunc (t:Nat)
def Et:List Adj->St->List Res->Option (St×List Res)
 | [],st,R=>some (st,R)
 |.frz i::l,st,R=>match Am5 i st R with
  |some (st',R')=>Et l st' R'
  |none=>none
 |.own t e s::l,st,R=>match Amg t e s st R with
  |some (st',R')=>Et l st' R'
  |none=>none
 |.mv i::l,st,R=>match Awm i st R with
  |some (st',R')=>Et l st' R'
  |none=>none
 |.ownb i j e s::l,st,R=>match Ad2 i j e s st R with
  |some (st',R')=>Et l st' R'
  |none=>none
 |.ownt t j e s::l,st,R=>match Ad1 t j e s st R with
  |some (st',R')=>Et l st' R'
  |none=>none
 |.deep i tys::l,st,R=>match Afe i tys st R with
  |some (st',R')=>Et l st' R'
  |none=>none
 |.flat i::l,st,R=>match Aer i st R with
  |some (st',R')=>Et l st' R'
  |none=>none
 |.trunc t::l,st,R=>match vT t st R with
  |some (st',R')=>Et l st' R'
  |none=>none
theorem Sat.adj:∀{l:List Adj}{st:St}{R:List Res}{st':St}{R':List Res},Et l st R=some (st',R')->Sat n C (mkL st) R a w->Sat n C (mkL st') R' a w
 | [],st,R,st',R',h,hs=>by simp only[Et,ah,au]at h;obtain⟨rfl,rfl⟩:=h;exact hs
 | .frz i::l,st,R,st',R',h,hs=>by
  simp only[Et]at h;split at h
  .rename_i s1 R1 e1;exact Sat.adj h (hs.frz e1)
  .cases h
 | .own t e s::l,st,R,st',R',h,hs=>by
  simp only[Et]at h;split at h
  .rename_i s1 R1 e1;exact Sat.adj h (hs.own e1)
  .cases h
 | .mv i::l,st,R,st',R',h,hs=>by
  simp only[Et]at h;split at h
  .rename_i s1 R1 e1;exact Sat.adj h (hs.mv e1)
  .cases h
 | .ownb i j e s::l,st,R,st',R',h,hs=>by
  simp only[Et]at h;split at h
  .rename_i s1 R1 e1;exact Sat.adj h (hs.ownb e1)
  .cases h
 | .ownt t j e s::l,st,R,st',R',h,hs=>by
  simp only[Et]at h;split at h
  .rename_i s1 R1 e1;exact Sat.adj h (hs.ownt e1)
  .cases h
 | .deep i tys::l,st,R,st',R',h,hs=>by
  simp only[Et]at h;split at h
  .rename_i s1 R1 e1;exact Sat.adj h (hs.deep e1)
  .cases h
 | .flat i::l,st,R,st',R',h,hs=>by
  simp only[Et]at h;split at h
  .rename_i s1 R1 e1;exact Sat.adj h (hs.flat e1)
  .cases h
 | .trunc t::l,st,R,st',R',h,hs=>by
  simp only[Et]at h;split at h
  .rename_i s1 R1 e1;exact Sat.adj h (hs.trunc e1)
  .cases h
def Ur:List Ent->St
 | []=>[]
 |e::r=>bif e.p.isEmpty then (e.t,e.v)::Ur r else Ur r
theorem Lx:∀{L:List Ent}{e:Ent},e∈mkL (Ur L)->e∈L
 | [],e,h=>by cases h
 | x :: r, e, h => by
  simp only[Ur]at h;cases hb:x.p.isEmpty with
  | true=>
   rw[hb]at h;simp only[ez]at h;rcases ag.1 h with rfl|h
   .have:(⟨x.t,[],x.v⟩:Ent)=x:=by
     obtain⟨xt,xp,xv⟩:=x;simp at hb ⊢;exact hb
    rw[this];exact ai
   .exact al _ (Lx h)
  |false=>rw[hb]at h;exact al _ (Lx h)
def Ou(P:Program)(n:Nat)(lv:eR)(fuel:Nat)(items:List It)(st:St)(R:List Res)(ds:eT)(cls:List Cl)(adj:List Adj)(results:List ResultVar)(k:Nat)(pi:eR):Option (AV×List Res×List Cl×List (Bool×Bool)):=
 match Gi P n lv fuel items (mkL st) R ds cls with
 | some (.ret,L,R1,cs,bs)=>match Et adj (Ur L) R1 with
  |some (st2,R2)=>match U0 P results k pi st2 R2 with
   |some (v,R3)=>some (v,R3,cs,bs)
   |none=>none
  |none=>none
 |_=>none
def C7(P:Program)(n:Nat)(lv:eR)(fuel:Nat)(items:List It)(st:St)(R:List Res)(ds:eT)(cls:List Cl)(adj:List Adj)(k:Nat)(pi ts:eR):Option (St×List Res×List Cl×List (Bool×Bool)):=
 match Gi P n lv fuel items (mkL st) R ds cls with
 | some (.stop,L,R1,cs,bs)=>match Et adj (Ur L) R1 with
  |some (st2,R2)=>match yA k pi ts st2 R2 with
   |some (st3,R3)=>some (st3,R3,cs,bs)
   |none=>none
  |none=>none
 |_=>none
variable{items:List It}
theorem Mi(hm:P.follows .mixedOrders=true)(lv:eR)(fuel:Nat)(ds:eT)(cls:List Cl)(adj:List Adj)(results:List ResultVar)(k:Nat)(pi:eR) 
  (hf:fn.results.toList=results)(hk:C.h.length<=k)(hok:Dc P cls)(hbs:Dq bs)(h:Ou P n lv fuel items st R ds cls adj results k pi=some (res,R2,cls,bs))(hup:Up C0 C):WI ro P n C (Mj P fn C0 res R2) items st R:=by
 intro a w hs;unfold Ou at h;split at h
 .rename_i L R1 cs bs1 e1;split at h
  .rename_i st2 R3 e2;split at h
   .rename_i v R4 e3;simp only[ah,au]at h;obtain⟨rfl,rfl,rfl,rfl⟩:=h;exact Oo hm e1 hok hbs hs λa' w' hs'=>((hs'.sub λe he=>Lx he).adj e2).post hup hf hk e3
   .cases h
  .cases h
 .cases h
def Ctx.z(C:Ctx):Ctx:={C with df:=[]}
theorem Kd(hm:P.follows .mixedOrders=true)(lv:eR)(fuel:Nat)(ds:eT)(cls:List Cl)(adj:List Adj)(results:List ResultVar)(k:Nat)(pi:eR) 
  (hf:fn.results.toList=results)(hk:C.h.length<=k)(hok:Dc P cls)(hbs:Dq bs)(h:Ou P n lv fuel items st R ds cls adj results k pi=some (res,R2,cls,bs)):WI ro P n C.z (Mj P fn C.z res R2) items st R:=
 Mi (C:=C.z) hm lv fuel ds cls adj results k pi hf hk hok hbs h (dx rfl)
def Um(P:Program)(n:Nat)(lv:eR)(fuel:Nat)(items:List It)(st:St)(R:List Res)(ds:eT)(cls:List Cl)(adj:List Adj)(results:List ResultVar)(k:Nat)(pi:eR):Option (AV×List Res×List Cl×List (Bool×Bool)):=
 match Gi P n lv fuel items (mkL st) R ds cls with
 | some (.stop,L,R1,cs,bs)=>match Et adj (Ur L) R1 with
  |some (st2,R2)=>match U0 P results k pi st2 R2 with
   |some (v,R3)=>some (v,R3,cs,bs)
   |none=>none
  |none=>none
 |_=>none
def Amn:List It->Bool
 | []=>true
 |_=>false
theorem A2c(hm:P.follows .mixedOrders=true)(lv:eR)(fuel:Nat)(ds:eT)(cls:List Cl)(adj:List Adj)(results:List ResultVar)(k:Nat)(pi:eR) 
  (hf:fn.results.toList=results)(hk:C.h.length<=k)(hok:Dc P cls)(hbs:Dq bs)(hn:Amn (B2 fuel items ds)=true)(h:Um P n lv fuel items st R ds cls adj results k pi=some (res,R2,cls,bs))(hup:Up C0 C):WI ro P n C (Mj P fn C0 res R2) items st R:=by
 intro a w hs;unfold Um at h;split at h
 .rename_i L R1 cs bs1 e1;split at h
  .rename_i st2 R3 e2;split at h
   .rename_i v R4 e3;simp only[ah,au]at h;obtain⟨rfl,rfl,rfl,rfl⟩:=h;refine Oo hm e1 hok hbs hs λa' w' hs'=>?_;have hnil:B2 fuel items ds=[]:=by
     cases hh:B2 fuel items ds with
     |nil=>rfl
     |cons x l=>rw[hh]at hn;cases hn
    rw[hnil];exact((hs'.sub λe he=>Lx he).adj e2).post hup hf hk e3
   .cases h
  .cases h
 .cases h
theorem X7(hm:P.follows .mixedOrders=true)(lv:eR)(fuel:Nat)(ds:eT)(cls:List Cl)(adj:List Adj)(results:List ResultVar)(k:Nat)(pi:eR) 
  (hf:fn.results.toList=results)(hk:C.h.length<=k)(hok:Dc P cls)(hbs:Dq bs)(hn:Amn (B2 fuel items ds)=true)(h:Um P n lv fuel items st R ds cls adj results k pi=some (res,R2,cls,bs)):WI ro P n C.z (Mj P fn C.z res R2) items st R:=
 A2c (C:=C.z) hm lv fuel ds cls adj results k pi hf hk hok hbs hn h (dx rfl)
theorem Tz(hm:P.follows .mixedOrders=true)(lv:eR)(fuel:Nat)(ds:eT)(cls:List Cl)(adj:List Adj)(k:Nat)(pi ts:eR)(st':St)(R':List Res) 
  (hk:C.h.length<=k)(hok:Dc P cls)(hbs:Dq bs)(h:C7 P n lv fuel items st R ds cls adj k pi ts=some (st',R',cls,bs))(hW:WI ro P n C Q (B2 fuel items ds) st' R'):WI ro P n C Q items st R:=by
 intro a w hs;unfold C7 at h;split at h
 .rename_i L R1 cs bs1 e1;split at h
  .rename_i st2 R3 e2;split at h
   .rename_i st3 R4 e3;simp only[ah,au]at h;obtain⟨rfl,rfl,rfl,rfl⟩:=h;exact Oo hm e1 hok hbs hs λa' w' hs'=>hW a' w' (((hs'.sub λe he=>Lx he).adj e2).re hk e3)
   .cases h
  .cases h
 .cases h
theorem Dl(hm:P.follows .mixedOrders=true)(lv:eR)(fuel:Nat)(ds:eT)(cls:List Cl)(adj:List Adj)(k:Nat)(pi:eR)(st':St)(R':List Res) 
  (hk:C.h.length<=k)(hok:Dc P cls)(hbs:Dq bs)(h:C7 P n lv fuel items st R ds cls adj k pi (Jj st')=some (st',R',cls,bs))(hW:WI ro P n C Q (B2 fuel items ds) st' R'):WI ro P n C Q items st R:=Tz hm lv fuel ds cls adj k pi _ st' R' hk hok hbs h hW
def isC:List It->Bool
 |.c _::_=>true
 |_=>false
def hdC:List It->Code
 |.c x::_=>x
 |_=>.skip
def isL:List It->Bool
 |.c (.loop _)::_=>true
 |_=>false
def lpC:List It->Code
 |.c (.loop x)::_=>x
 |_=>.skip
def tlI:List It->List It
 |_::l=>l
 | []=>[]
theorem Rx(hi:isC items=true)(φ:σ->Prop)(st':σ->St)(R':σ->List Res)(h:WI ro P n C Q (.c (hdC items) :: .k (Ex n C φ st' R')::tlI items) st R)(hK:∀s,φ s->WI ro P n C Q (tlI items) (st' s) (R' s)):WI ro P n C Q items st R:=by
 match items,hi with
 | .c x::l,_=>
  intro a w hs;refine wpIn_mono (h a w hs) λe a w hq=>?_;cases e with
  |normal=>obtain⟨s,h1,h2⟩:=hq;exact hK s h1 a w h2
  |_=>exact hq
def hdK:List It->Act->World->Prop
 |.k K::_=>K
 |_=>λ_ _=>False
def isB:List It->Bool
 |.c (.block _ _)::_=>true
 |_=>false
def Ax3:List It->Code
 |.c (.block _ x)::_=>x
 |_=>.skip
def Ax2:List It->Nat
 |.c (.block i _)::_=>i
 |_=>0
def nqT:List It->List It
 |_::l=>l
 | []=>[]
def A83:List It->Bool
 |.c (.cond _ _ _)::_=>true
 |_=>false
def cnO:List It->Operand
 |.c (.cond c _ _)::_=>c
 |_=>.const undef
def cnX:List It->Code
 |.c (.cond _ x _)::_=>x
 |_=>.skip
def cnY:List It->Code
 |.c (.cond _ _ y)::_=>y
 |_=>.skip
theorem T0(t:Nat)(hi:A83 items=true)(ho:cnO items=.tmp t)(hc:(Eu (mkL st) t).map Ent.v=some (.d (.nq rows)))
  (ht:rows=[]->WI ro P n C Q (.c (cnX items)::nqT items) st R)(hf:WI ro P n C Q (.c (cnY items)::nqT items) st R):WI ro P n C Q items st R:=by
 match items,hi with
 | .c (.cond c x y)::l,_=>
  simp only[cnO]at ho;subst ho;intro a w hs;cases he:Eu (mkL st) t with
  |none=>rw[he]at hc;cases hc
  | some e=>
   rw[he]at hc;simp only[be,ah]at hc;obtain⟨hm,hte⟩:=Dh he;have hs2:=hs;obtain⟨_,_,S,ρ,_,h4⟩:=hs2;obtain⟨v,hv,hr⟩:=(h4 e hm).1 (by rw[D9 hm];exact Cd);rw[hc]at hr;rw[hte]at hv;have hr':=hr.d_inv;cases hr' with
   | @nq b _ h=>
    have hev:a.eval (.tmp t)=.bool b:=by simp[Act.eval,eu,hv]
    cases b with
    |true=>exact wpIn_cond_true hev (ht (h rfl) a w hs)
    |false=>exact wpIn_cond_false hev (hf a w hs)
theorem Ry(hi:isB items=true)(h:WI ro P n C Q (.c (Ax3 items) :: .b (Ax2 items)::tlI items) st R):WI ro P n C Q items st R:=by
 match items,hi with
 |.c (.block i x)::l,_=>exact λa w hs=>wpIn_block (h a w hs)
theorem A6p{K:Act->World->Prop}(hi:hdK items=K)(h:∀a w,Sat n C (mkL st) R a w->K a w):WI ro P n C Q items st R:=by
 subst hi
 match items,h with
 |.k K::l,h=>exact h
 | [],h=>exact λa w hs=>(h a w hs).elim
 |.c _::_,h=>exact λa w hs=>(h a w hs).elim
 |.b _::_,h=>exact λa w hs=>(h a w hs).elim
 |.l _ _::_,h=>exact λa w hs=>(h a w hs).elim
theorem Hf{φ:σ->Prop}{st':σ->St}{R':σ->List Res}(hm:P.follows .mixedOrders=true)(lv:eR)(fuel:Nat)(ds:eT)(cls:List Cl)(adj:List Adj)(k:Nat)(pi:eR)(s:σ)
  (hk:C.h.length<=k)(hok:Dc P cls)(hbs:Dq bs)(hi:hdK (B2 fuel items ds)=Ex n C φ st' R')(h:C7 P n lv fuel items st R ds cls adj k pi (Jj (st' s))=some (st' s,R' s,cls,bs))(h1:φ s):WI ro P n C Q items st R:=
 Dl hm lv fuel ds cls adj k pi (st' s) (R' s) hk hok hbs h (A6p hi λ_ _ hs=>⟨s,h1,hs⟩)
def foldI{α σ ρ:Type}(f:Nat->α->σ->Option (Ctl σ ρ)):List α->Nat->σ->Option (Ctl σ ρ)
 | [],_,s=>some (.next s)
 |x::xs,i,s=>match f i x s with
  |some (.next s')=>foldI f xs (i+1) s'
  |some (.brk s')=>some (.next s')
  |some (.ret r)=>some (.ret r)
  |none=>none
theorem Pn{α:Type}(hi:isL items=true)(f:Nat->α->σ->Option (Ctl σ τ))(stF:Nat->σ->St)(RF:Nat->σ->List Res)(r:Ctl σ τ)(xs:List α)(s:σ)(hm:foldI f xs 0 s=some r)
  (h0:st=stF 0 s)(h1:R=RF 0 s)
  (hnil:∀s,r=.next s->WI ro P n C Q (.c (lpC items) :: .k (λ_ _=>False)::tlI items) (stF xs.length s) (RF xs.length s))
  (hcons:∀i x s k,i<xs.length->xs[i]?=some x->f i x s=some k->(∀s',k=.brk s'->r=.next s')->(∀v,k=.ret v->r=.ret v) ->
   WI ro P n C Q (.c (lpC items) :: .k (Ex n C (λs'=>k=.next s') (stF (i+1)) (RF (i+1)))::tlI items) (stF i s) (RF i s)):WI ro P n C Q items st R:=by
 match items,hi with
 | .c (.loop c) :: l, _ =>
  refine Akj (λm a w=>∃i s,i<=xs.length/\xs.length-i=m/\foldI f (xs.drop i) i s=some r/\Sat n C (mkL (stF i s)) (RF i s) a w) ⟨xs.length,λa w hs=>⟨0,s,bH _,rfl,hm,by rw[h0,h1]at hs;exact hs⟩⟩ λm a w hI=>?_;obtain⟨i,s,hle,hl,hf,hs⟩:=hI;rcases aM i xs.length with hlt|hge
  .have hd:xs.drop i=xs[i]::xs.drop (i+1):=List.drop_eq_getElem_cons hlt;rw[hd]at hf;simp only[foldI]at hf;cases hk:f i xs[i] s with
   |none=>rw[hk]at hf;cases hf
   | some k=>
    rw[hk]at hf;refine wpIn_mono (hcons i xs[i] s k hlt (aj hlt) hk ?_ ?_ a w hs) λe a' w' hq=>?_
    .intro s' e;subst e;simp only[ah]at hf;exact hf.symm
    .intro v e;subst e;simp only[ah]at hf;exact hf.symm
    .cases e with
     |normal=>obtain⟨s',e,hs'⟩:=hq;subst e;exact⟨xs.length-(i+1),by omega,i+1,s',by omega,rfl,hf,hs'⟩
     |_=>exact hq
  .have hii:i=xs.length:=Nat.le_antisymm hle hge;subst hii;rw[List.drop_length]at hf;simp only[foldI,ah]at hf;refine wpIn_mono (hnil s hf.symm a w hs) λe a' w' hq=>?_;cases e with
   |normal=>exact hq.elim
   |_=>exact hq
theorem Agd(hi:isL items=true)(f:σ->Option (Ctl σ τ))(stF:σ->St)(RF:σ->List Res)(r:Ctl σ τ)(fuel:Nat)(s:σ)(hm:whileN f fuel s=some r)
  (h0:st=stF s)(h1:R=RF s)
  (h:∀s k,f s=some k->(∀s',k=.brk s'->r=.next s')->(∀v,k=.ret v->r=.ret v) ->
   WI ro P n C Q (.c (lpC items) :: .k (Ex n C (λs'=>k=.next s') stF RF)::tlI items) (stF s) (RF s)):WI ro P n C Q items st R:=by
 match items,hi with
 |.c (.loop c)::l,_=>exact A19 (Q:=Qs ro P l Q) f stF RF r fuel s hm ⟨h0,h1⟩ λs k h1 h2 h3 a w hs=>h s k h1 h2 h3 a w hs
def cnt(c:Int):Nat->Int
 |0=>c
 |i+1=>IntKind.i64.wrap (cnt c i+1)
theorem V5{c:Int}(h0:-9223372036854775808<=c)(h:c+i<=9223372036854775807:=by omega):cnt c i=c+i:=by
 induction i with
 |zero=>simp[cnt]
 |succ i ih=>simp only[cnt];rw[ih (by omega),IntWalk.i64_in _ (by omega)];omega
theorem Rw(t:Nat)(h:(Eu (mkL st) t).map Ent.v=some (.d (.p (.s rows))))(hW:rows.length<=maxLen->WI ro P n C Q items st R):WI ro P n C Q items st R:=by
 intro a w hs;refine hW ?_ a w hs;obtain⟨_,_,S,ρ,h3,h4⟩:=hs;cases he:Eu (mkL st) t with
 |none=>rw[he]at h;cases h
 |some e=>rw[he]at h;simp at h;obtain⟨hm,_⟩:=Dh he;obtain⟨v,_,hr⟩:=(h4 e hm).1 (by rw[D9 hm];exact Cd);rw[h]at hr;obtain⟨a,cap,_,g1,g2⟩:=hr.d_inv.p_inv.slice_form;omega
theorem A2b{e sz:Nat}(t j:Nat)(h:(Eu (mkL st) t).map Ent.v=some (.d (.os j)))(hR:R[j]?=some (.sl e sz rows))(hW:rows.length<=maxLen->WI ro P n C Q items st R):WI ro P n C Q items st R:=by
 intro a w hs;refine hW ?_ a w hs;obtain⟨_,_,S,ρ,h3,h4⟩:=hs;cases he:Eu (mkL st) t with
 |none=>rw[he]at h;cases h
 |some e=>
  rw[he]at h;simp at h;obtain⟨hm,_⟩:=Dh he;obtain⟨v,_,hr⟩:=(h4 e hm).1 (by rw[D9 hm];exact Cd);rw[h]at hr;rcases(h3.ok j _ _ hR hr.d_inv.os_inv).live hr.d_inv.one with⟨_,h5⟩|⟨_,_,cap,_,_,_,h5,h6,_⟩
  .rw[h5];simp[maxLen]
  .omega
theorem Fb{c:Code}{args:List AV}(n:Nat)(hf:P.funcs[f]?=some fn)(hb:fn.body=some c)(hn:fn.ntmps=n)(hl:Nat.ble args.length n=true)
  (h:∀C:Ctx,C.h.length<=R.length->WI none P n C.z (Mj P fn C.z res R2) [.c c] (X6 0 args) R):CallOk P f args R res R2:=
 Afn hf hb hn (bv hl) λC hd hC=>by
  have:=h C (by rw[hC];exact af _);have e:C.z=C:=by unfold Ctx.z;cases C;simp at hd;subst hd;rfl
  rw[e]at this;exact this
theorem Dt(hf : P.funcs[f]? = some fn)(hb : fn.body.isNone = false)(hn : (fn.name == "runtime.NumGoroutine") = false) : Fe P f := λ args w => by
 have hb':fn.body≠none:=by intro e;rw[e]at hb;cases hb
 have hn' : fn.name ≠ "runtime.NumGoroutine" := by simpa using hn
 simp[callFunc,hf,hn',hb']
end
end Go.SL
namespace Go.SL
variable{res:AV}{c:Bool}{s y:ByteArray}{f:FuncId}{hi hi' lo n:Int}{l:List (Bool×Bool)}{src:List (List Pd)}{args:List AV}{B i k k' off:Nat}{u:Unit}
abbrev I(n:Int):D:=.p (.v (.int .i64 n))
abbrev Bo(b:Bool):D:=.p (.v (.bool b))
abbrev w64(n:Int):Int:=IntKind.i64.wrap n
variable{α:Type}
abbrev DS(f:α->List Pd)(x:List α):D:=.p (.s (x.map f))
def pI(n:Int):List Pd:=[.v (.int .i64 n)]
def pK(k:IntKind)(n:Int):List Pd:=[.v (.int k n)]
def pB(b:Bool):List Pd:=[.v (.bool b)]
def pS(s:ByteArray):List Pd:=[.v (.string s)]
def pL{α:Type}(f:α->List Pd)(l:List α):List Pd:=[.s (l.map f)]
theorem A8d{x y r:α}(hc:c=true)(h:(bif c then x else y)=r):x=r:=by subst hc;exact h
theorem Azp{x y r:α}(hc:c=false)(h:(bif c then x else y)=r):y=r:=by subst hc;exact h
theorem A0c(b:Bool):b=true\/b=false:=by cases b <;> simp
def E4:List (Bool×Bool)->Bool
 | []=>true
 |(a,b)::r=>(a==b)&&E4 r
theorem Wg:∀{l:List (Bool×Bool)},Dq l->E4 l=true
 | [],_=>rfl
 |(a,b)::r,h=>by obtain⟨h1,h2⟩:=h;subst h1;simp[E4,Wg h2]
theorem Wf:∀{l:List (Bool×Bool)},E4 l=true->Dq l
 | [],_=>trivial
 |(a,b)::r,h=>by simp only[E4,ac,dQ]at h;exact⟨h.1,Wf h.2⟩
def Au{α:Type}(l:List (Bool×Bool))(x:Option α)(d:α):Option α:=bif E4 l then x else some d
variable{x:Option α}
theorem Gd{d v:α}(h:Au l x d=some v)(hg:¬Dq l):v=d:=by
 unfold Au at h;cases hb:E4 l with
 |true=>exact absurd (Wf hb) hg
 |false=>rw[hb]at h;simpa using h.symm
theorem B5{d v:α}(h:Au l x d=some v)(hg:Dq l):x=some v:=by unfold Au at h;rw[Wg hg]at h;exact h
def getI{α:Type}(l:List α)(n:Int):Option α:=bif decide (0<=n)then l[n.toNat]? else none
def setI{α:Type}(l:List α)(n:Int)(x:α):Option (List α):=bif decide (0<=n)&&decide (n<l.length)then some (l.set n.toNat x) else none
def mkI{α:Type}(B:Nat)(n:Int)(d:α):Option (List α):=bif decide (0<=n)&&decide (n*B<=140737488355328)then some (List.replicate n.toNat d) else none
def cutI{α:Type}(l:List α)(lo hi:Int):Option (List α):=bif decide (0<=lo)&&(decide (lo<=hi)&&decide (hi<=l.length))then some ((l.take hi.toNat).drop lo.toNat) else none
def nzI(n:Int):Option Unit:=bif n==0 then none else some ()
def Af4(s:ByteArray):Option eQ:=bif decide ((s.size:Int)<=140737488355328)then some (Pl s) else none
def Alz(l:eQ):Option ByteArray:=bif Pl ⟨(l.map λn=>UInt8.ofNat n.toNat).toArray⟩==l then some ⟨(l.map λn=>UInt8.ofNat n.toNat).toArray⟩ else none
def Od(s:ByteArray)(n:Int):Option UInt8:=bif decide (0<=n)then s.data[n.toNat]? else none
def appI{α:Type}(B:Nat)(l m:List α):Option (List α):=bif decide ((l.length+m.length)*B<=140737488355328)then some (l++m) else none
section
variable{P:Program}{α:Type}
theorem As9{y:eQ}(h:Af4 s=some y):Cl.ok P (.room (s.size:Int) (Nb s) (y.map (pK .u8))):=by
 unfold Af4 at h;cases hd:decide ((s.size:Int)<=140737488355328) with
 |false=>rw[hd]at h;cases h
 |true=>rw[hd]at h;simp only[ez,ah]at h;subst h;exact⟨by omega,dX hd,rfl⟩
theorem Avu{l:eQ}(h:Alz l=some y):Cl.ok P (.strb (l.map (pK .u8)) y):=by
 unfold Alz at h;cases hd:(Pl ⟨(l.map λn=>UInt8.ofNat n.toNat).toArray⟩==l) with
 |false=>rw[hd]at h;cases h
 |true=>
  rw[hd]at h;simp only[ez,ah]at h;subst h;have e:=eq_of_beq hd;show l.map (pK .u8)=_
  conv=>lhs;rw[←e]
  unfold Pl;rw[List.map_map];rfl
theorem Ko{y:UInt8}(h:Od s n=some y):Cl.ok P (.byte s n y):=by
 unfold Od at h;cases hd:decide (0<=n) with
 |false=>rw[hd]at h;cases h
 |true=>rw[hd]at h;exact⟨dX hd,h⟩
variable{l m y:List α}
theorem A7(enc:α->List Pd)(size:Nat)(hs:∀x,(enc x).length=size)(h:appI (B+1) l m=some y):Cl.ok P (.app (l.map enc) (m.map enc) size (((l.map enc).length+(m.map enc).length)*(B+1)) (y.map enc)):=by
 unfold appI at h;cases hd:decide ((l.length+m.length)*(B+1)<=140737488355328) with
 |false=>rw[hd]at h;cases h
 |true=>rw[hd]at h;simp only[ez,ah]at h;subst h;refine⟨by rw[ao,ao];exact dX hd,λr hr=>?_,by rw[bE]⟩;obtain⟨x,_,rfl⟩:=an.1 hr;exact hs x
theorem H2(enc:α->List Pd)(size:Nat)(hs:∀x,(enc x).length=size)(h:appI (B+1) [] m=some y):Cl.ok P (.app [] (m.map enc) size ((m.map enc).length*(B+1)) (y.map enc)):=by have:=A7 (P:=P) enc size hs h;simpa using this
theorem Aya(enc:α->List Pd)(size:Nat)(hs:∀x,(enc x).length=size)(hsrc:src=m.map enc)(h:appI (B+1) l m=some y):Cl.ok P (.app (l.map enc) src size (((l.map enc).length+src.length)*(B+1)) (y.map enc)):=by subst hsrc;exact A7 enc size hs h
theorem Ax9(enc:α->List Pd)(size:Nat)(hs:∀x,(enc x).length=size){n:Nat}(hsrc:src=m.map enc)(h:appI (B+1) (l.take n) m=some y):Cl.ok P (.app ((l.map enc).take n) src size ((((l.map enc).take n).length+src.length)*(B+1)) (y.map enc)):=by subst hsrc;rw[←cy];exact A7 enc size hs h
variable{x:α}{enc:α->List Pd}
theorem Ay(h:getI l n=some x):Cl.ok P (.row (l.map enc) n (enc x)):=by
 unfold getI at h;cases hd:decide (0<=n) with
 |false=>rw[hd]at h;cases h
 |true=>rw[hd]at h;simp only[ez]at h;exact⟨dX hd,by rw[aB,h];rfl⟩
theorem A3h(h:nzI n=some u):Cl.ok P (.nz n):=by unfold nzI at h;show n≠0;intro e;subst e;cases h
theorem Ji(h:(n==0)=false):Cl.ok P (.nz n):=by show n≠0;intro e;subst e;cases h
theorem Bh(h:getI l n=some x):Cl.ok P (.row (l.map enc) ((n.toNat:Nat):Int) (enc x)):=by obtain⟨h0,h1⟩:=(Ay (P:=P) (enc:=enc) h:0<=n/\(l.map enc)[n.toNat]?=some (enc x));exact⟨Int.natCast_nonneg _,by rw[ax];exact h1⟩
theorem Bm{x':α}(hx:getI l n=some x)(h:setI l n x'=some y):Cl.ok P (.upd (l.map enc) n.toNat (enc x) (enc x') (y.map enc)):=by
 obtain⟨h0,h1⟩:=(Ay (P:=P) (enc:=enc) hx:0<=n/\(l.map enc)[n.toNat]?=some (enc x));refine⟨h1,?_⟩;unfold setI at h;cases hd:(decide (0<=n)&&decide (n<l.length)) with
 |false=>rw[hd]at h;cases h
 |true=>rw[hd]at h;simp at h;subst h;rw[List.map_set]
variable{d:α}
theorem Hz(h:mkI (B+1) n d=some y):Cl.ok P (.room (n*(B+1)) (List.replicate n.toNat (enc d)) (y.map enc)):=by
 unfold mkI at h;cases hd:(decide (0<=n)&&decide (n*((B+1:Nat):Int)<=140737488355328)) with
 |false=>rw[hd]at h;cases h
 |true=>rw[hd]at h;simp at h;subst h;simp only[ac,dM]at hd;refine⟨Int.mul_nonneg hd.1 (by omega),by have:=hd.2;simpa using this,by simp⟩
theorem H9(l:List α)(enc:α->List Pd):Cl.ok P (.len ((l.map enc).length:Int) (l.length:Int)):=by show ((l.map enc).length:Int)=l.length;rw[ao]
theorem Rj(enc:α->List Pd)(size:Nat)(hs:∀x,(enc x).length=size)(h:cutI l lo hi=some y):Cl.ok P (.cut (l.map enc) size lo hi (y.map enc)):=by
 unfold cutI at h;cases hd:(decide (0<=lo)&&(decide (lo<=hi)&&decide (hi<=l.length))) with
 |false=>rw[hd]at h;cases h
 |true=>rw[hd]at h;simp only[ez,ah]at h;simp only[ac,dM]at hd;subst h;refine⟨hd.1,hd.2.1,by rw[ao];exact hd.2.2,λr hr=>?_,by rw[←cy,←List.map_drop]⟩;obtain⟨x,_,rfl⟩:=an.1 hr;exact hs x
theorem Ai6(enc:α->List Pd)(size:Nat)(hs:∀x,(enc x).length=size)(h:cutI l lo (l.length:Int)=some y):Cl.ok P (.cut (l.map enc) size lo ((l.map enc).length:Int) (y.map enc)):=by
 have:((l.map enc).length:Int)=l.length:=by rw[ao]
 rw[this];exact Rj enc size hs h
theorem Ad0(l:List α)(enc:α->List Pd)(lo n:Nat):((l.map enc).drop lo).take n=((l.drop lo).take n).map enc:=by simp
def bndI(k:Nat)(lo hi:Int):Option Unit:=bif decide (0<=lo)&&(decide (lo<=hi)&&decide (hi<=k))then some () else none
theorem Ho(hk:k'=k)(hh:hi'=hi)(h:bndI k lo hi=some u):Cl.ok P (.bnd k' lo hi' hi):=by
 subst hk;subst hh;unfold bndI at h;cases hd:decide (0<=lo)&&(decide (lo<=hi')&&decide (hi'<=k')) with
 |false=>rw[hd]at h;cases h
 |true=>simp at hd;exact⟨hd.1,hd.2.1,hd.2.2,rfl⟩
def bnd3I(k:Nat)(lo hi mx:Int):Option Unit:=bif decide (0<=lo)&&(decide (lo<=hi)&&(decide (hi<=mx)&&decide (mx<=k)))then some () else none
theorem Af6{mx:Int}(hk:k'=k)(h:bnd3I k lo hi mx=some u):Cl.ok P (.bnd3 k' lo hi mx):=by
 subst hk;unfold bnd3I at h;cases hd:decide (0<=lo)&&(decide (lo<=hi)&&(decide (hi<=mx)&&decide (mx<=k'))) with
 |false=>rw[hd]at h;cases h
 |true=>simp at hd;exact⟨hd.1,hd.2.1,hd.2.2.1,hd.2.2.2⟩
def appPI{α:Type}(l:List α)(n:Nat)(m:List α):Option (List α):=bif decide (n+m.length<=l.length)then some (l.take n++(m++l.drop (n+m.length))) else none
theorem Ayb(enc:α->List Pd)(size:Nat)(hs:∀x,(enc x).length=size){n:Nat}(hsrc:src=m.map enc)(h:appPI l n m=some y) :
  Cl.ok P (.appP (l.map enc) src size n (n+m.length) ((l.map enc).take n++(src++(l.map enc).drop (n+src.length))) (y.map enc)):=by
 subst hsrc;unfold appPI at h;cases hd:decide (n+m.length<=l.length) with
 |false=>rw[hd]at h;cases h
 |true=>rw[hd]at h;simp only[ez,ah]at h;subst h;simp only[dM]at hd;refine⟨⟨by simp,by simpa using hd⟩,λx hx=>?_,by simp⟩;obtain⟨z,_,rfl⟩:=an.1 hx;exact hs z
def insI{α:Type}(B:Nat)(l:List α)(i:Int)(m:List α):Option (List α):=bif decide ((l.length+m.length)*B<=140737488355328)then some (l.take i.toNat++(m++l.drop i.toNat)) else none
def Io{α:Type}(l:List α)(lo n:Nat)(d:α):List α:=l.take lo++(List.replicate n d++l.drop (lo+n))
theorem zC(enc:α->List Pd){lo n n':Nat}(hn:n'=n):Cl.ok P (.eqr ((l.map enc).take lo++(List.replicate n' (enc d)++(l.map enc).drop (lo+n'))) ((Io l lo n d).map enc)):=by subst hn;show _=_;simp[Io]
theorem Va(h:mkI (B+1) n d=some y):Cl.ok P (.roomZ (n*(B+1)) (List.replicate n.toNat (enc d)) (y.map enc)):=Hz (P:=P) (enc:=enc) h
theorem Kq{β:Type}{enc2:β->List Pd}(size:Nat)(hs:∀x,(enc2 x).length=size){i:Int}{a m y:List β}(hx:getI l i=some x)(ho:(enc x)[off]?=some (.s (a.map enc2)))(h:appI (B+1) a m=some y) :
  Cl.ok P (.appD (l.map enc) i.toNat (enc x) off (a.map enc2) (m.map enc2) size (((a.map enc2).length+(m.map enc2).length)*(B+1)) (y.map enc2)):=by
 obtain⟨_,h1⟩:=Bh (P:=P) (enc:=enc) hx;simp only[ax]at h1;exact⟨⟨h1,ho⟩,A7 (P:=P) enc2 size hs h⟩
theorem Ki{x':α}(hx:getI l n=some x)(h:setI l n x'=some y):Cl.ok P (.updD (l.map enc) n.toNat n.toNat (enc x) (enc x') (y.map enc)):=
 ⟨rfl,Bm (P:=P) (enc:=enc) hx h⟩
theorem Aws(h:Fe P f/\CallOk P f args [] res [])(hx:getI l n=some x):Cl.ok P (.callB f args res (l.map enc) n.toNat (enc x)):=by obtain⟨_,h1⟩:=Bh (P:=P) (enc:=enc) hx;simp only[ax]at h1;exact⟨h,h1⟩
theorem F4(h:Fe P f/\CallOk P f args [] res []):Cl.ok P (.callB f args res [[]] 0 []):=⟨h,rfl⟩
theorem Bp(hx:l[i]?=some x)(hl:(l.map enc).length<=maxLen):Cl.ok P (.row (l.map enc) (cnt 0 i) (enc x)):=by
 have hi:i<l.length:=(aa.1 hx).1;rw[ao]at hl;have hm:maxLen=9223372036854775807:=rfl;rw[V5 (by omega)];refine⟨by omega,?_⟩;have:((0:Int)+(i:Int)).toNat=i:=by omega
 rw[this,aB,hx];rfl
theorem Bd(hx:l[i]?=some x)(hl:(l.map enc).length<=maxLen):getI l (cnt 0 i)=some x:=by
 have hi:i<l.length:=(aa.1 hx).1;rw[ao]at hl;have hm:maxLen=9223372036854775807:=rfl;rw[V5 (by omega)];unfold getI;have h1:decide ((0:Int)<=0+(i:Int))=true:=dU (by omega);have h2:((0:Int)+(i:Int)).toNat=i:=by omega
 rw[h1,h2];exact hx
theorem Ph(hi:i<l.length)(hl:(l.map enc).length<=maxLen):decide (cnt 0 i<(l.length:Int))=true:=by rw[ao]at hl;have hm:maxLen=9223372036854775807:=rfl;rw[V5 (by omega)];exact dU (by omega)
theorem Ot(hl:(l.map enc).length<=maxLen):decide (cnt 0 l.length<(l.length:Int))=false:=by rw[ao]at hl;have hm:maxLen=9223372036854775807:=rfl;rw[V5 (by omega)];exact dV (by omega)
end
def andThen{σ τ ρ:Type}(c:Option (Ctl σ τ))(g:τ->Option ρ)(f:σ->Option ρ):Option ρ:=
 match c with
 |some (.ret v)=>g v
 |some (.next s)=>f s
 |some (.brk s)=>f s
 |none=>none
theorem Qq{σ τ ρ:Type}{c:Option (Ctl σ τ)}{g:τ->Option ρ}{f:σ->Option ρ}{r:ρ}(h:andThen c g f=some r):∃k,c=some k/\(∀v,k=.ret v->g v=some r)/\(∀s,k=.next s->f s=some r):=by
 unfold andThen at h;split at h
 .exact⟨_,rfl,λv e=>by cases e;exact h,λs e=>by cases e⟩
 .exact⟨_,rfl,λv e=>(by cases e),λs e=>by cases e;exact h⟩
 .exact⟨_,rfl,λv e=>(by cases e),λs e=>by cases e⟩
 .cases h
end Go.SL
