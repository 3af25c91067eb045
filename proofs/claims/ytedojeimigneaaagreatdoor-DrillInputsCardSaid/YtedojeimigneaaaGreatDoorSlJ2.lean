import Derived.Test.YtedojeimigneaaaGreatDoorSlX
set_option linter.unusedVariables false
namespace Go.SL
variable{α σ' ψ:Type}{c x:Bool}{f:FuncId}{args:List AV}{B m:Nat}
structure Ac where
 d:eB
 c:List Cl
 b:List (Bool×Bool)
def Ac.o:Ac:=⟨[],[],[]⟩
def Ac.dec(a:Ac)(v x:Bool):Ac:=⟨a.d++[v],a.c,a.b++[(x,v)]⟩
def Ac.dd(a:Ac)(v:Bool):Ac:=⟨a.d++[v],a.c,a.b⟩
def Ac.cl(a:Ac)(l:List Cl):Ac:=⟨a.d,a.c++l,a.b⟩
theorem Da.app{P:Program}:∀{l m:List Cl},Da P l->Da P m->Da P (l++m)
 | [],m,_,h=>h
 |c::l,m,h,k=>⟨h.1,Da.app h.2 k⟩
theorem Dd.app:∀{l m:List (Bool×Bool)},Dd l->Dd m->Dd (l++m)
 | [],m,_,h=>h
 |(a,b)::l,m,h,k=>⟨h.1,Dd.app h.2 k⟩
abbrev ClP(P:Program):={c:Cl // c.ok P}
theorem A0w{P:Program}:∀l:List (ClP P),Da P (l.map (·.1))
 | []=>trivial
 |c::l=>⟨c.2,A0w l⟩
variable{P:Program}
theorem okC{R:List Res}{res:AV}{R2:List Res}(pi:ey)(e:Dl P f)(k:CallOk P f args R res R2):Cl.ok P (.call f args R res R2 pi):=⟨e,k⟩
theorem okL(enc:α->List Pd)(l:List α):Cl.ok P (.len ((l.map enc).length:Int) (l.length:Int)):=Jy _ _
def wS:Option (St×List Res×List Cl×List (Bool×Bool))->St×List Res
 |some (s,R,_)=>(s,R)
 |none=>([],[])
def A0j(l:ey)(S:St):St:=S.filter λx=>!(Hc l x.1)
def kpK(l:ey)(S:St):St:=S.filter λx=>Hc l x.1
def upR:List Res->List (Nat×Res)->List Res
 |R,[]=>R
 |R,(i,r)::l=>upR (R.set i r) l
def kF{σ:Type}(new:Nat->σ->St)(S:St)(n:Nat)(z:σ):St:=A0j (Hd (new n z)) S++new n z
def kW{σ:Type}(new:σ->St)(S:St)(z:σ):St:=A0j (Hd (new z)) S++new z
def kA{σ:Type}(l:ey)(new:σ->St)(S:St)(z:σ):St:=kpK l S++new z
def uF{σ:Type}(new:Nat->σ->List (Nat×Res))(R:List Res)(n:Nat)(z:σ):List Res:=upR R (new n z)
def uA{σ:Type}(new:σ->List (Nat×Res))(R:List Res)(z:σ):List Res:=upR R (new z)
def iF{σ:Type}(R:List Res)(_:Nat)(_:σ):List Res:=R
def iA{σ:Type}(R:List Res)(_:σ):List Res:=R
def cA{α σ:Type}(R:σ->List α)(_:List α)(z:σ):List α:=R z
def Jw(P:Program)(fn:Func)(n k:Nat)(lv:ey)(C:Ctx){φ:Type}(res:φ->AV)(R2:φ->List Res)(r:φ){ρ:Type}(H:ρ->Prop)(q:ρ)(items:List It)(st:St)(R:List Res)(a:Ac)(o:Option ρ):Prop:=
 P.follows .mixedOrders=true->C.h.length<=k->o=some q->H q->Da P a.c->Dd a.b->WI none P n C.z (Ks P fn C.z (res r) (R2 r)) items st R
def HL{σ τ ρ:Type}(_:σ->St)(_:σ->List Res)(_:σ->St)(_:σ->List Res)(B:σ->Prop)(g:τ->Option ρ)(H:ρ->Prop):Ctl σ τ->Prop:=λq=>(∀s,q=.brk s->B s)/\∀v,q=.ret v->∃z,g v=some z/\H z
class FnOk (P:Program) (f:outParam FuncId) (args:outParam (List AV)) (R:outParam (List Res)) {φ:Type} (res:outParam (φ->AV)) (R2:outParam (φ->List Res)) (o:Option φ):Prop where
 en:Dl P f
 k:∀r,o=some r->CallOk P f args R (res r) (R2 r)
instance{P:Program}{f:FuncId}{args:List AV}{R:List Res}{φ:Type}{res:φ->AV}{R2:φ->List Res}{o:Option φ}:CoeFun (FnOk P f args R res R2 o) λ_=>∀r,o=some r->CallOk P f args R (res r) (R2 r):=⟨λh=>h.k⟩
class Cz (P:Program) {α:Type} (o:Option α) (c:outParam (α->ey->Cl)):Prop where
 ok:∀y pi,o=some y->(c y pi).ok P
instance{P:Program}{f:FuncId}{args:List AV}{R:List Res}{φ:Type}{res:φ->AV}{R2:φ->List Res}{o:Option φ}[i:FnOk P f args R res R2 o]:Cz P o λy pi=>.call f args R (res y) (R2 y) pi:=⟨λy pi h=>⟨i.en,i.k y h⟩⟩
instance{P:Program}{α:Type}{l:List (Bool×Bool)}{x:Option α}{d:α}{c:α->ey->Cl}[i:Cz P x c]:Cz P (Aw l x d) λy pi=>.when l (c y pi):=⟨λy pi h hg=>i.ok y pi (B6 h hg)⟩
class Ec (α:Type) where
 en:α->List Pd
instance:Ec Int:=⟨pI⟩
instance:Ec Bool:=⟨pB⟩
instance{P:Program}{α:Type}[Ec α]{xs:List α}{n:Int}:Cz P (getI xs n) λy _=>.row (xs.map Ec.en) n (Ec.en y):=⟨λy _ h=>A9 (enc:=Ec.en) h⟩
instance{P:Program}{n:Int}:Cz P (nzI n) λ_ _=>.nz n:=⟨λ_ _ h=>A4j h⟩
class Cr (P:Program) {α:Type} (o:Option α) (c:outParam (α->List Cl)):Prop where
 ok:∀y,o=some y->Da P (c y)
instance{P:Program}{α:Type}[Ec α]{xs:List α}{n:Int}:Cr P (getI xs n) λy=>[.row (xs.map Ec.en) n (Ec.en y),.row (xs.map Ec.en) ((n.toNat:Nat):Int) (Ec.en y)]:=⟨λ_ h=>⟨A9 (enc:=Ec.en) h,Bj (enc:=Ec.en) h,trivial⟩⟩
instance{P:Program}{α:Type}[Ec α]{xs:List α}{n:Int}{l:List (Bool×Bool)}{d:α}:Cr P (Aw l (getI xs n) d) λy=>[.when l (.row (xs.map Ec.en) n (Ec.en y)),.when l (.row (xs.map Ec.en) ((n.toNat:Nat):Int) (Ec.en y))]:=⟨λ_ h=>⟨λhg=>A9 (enc:=Ec.en) (B6 h hg),λhg=>Bj (enc:=Ec.en) (B6 h hg),trivial⟩⟩
class Cb (P:Program) {α:Type} (o:Option α) (c:outParam (α->Cl)):Prop where
 ok:∀y,o=some y->(c y).ok P
instance{P:Program}{f:FuncId}{args:List AV}{φ:Type}{res:φ->AV}{o:Option φ}[i:FnOk P f args [] res (λ_=>[]) o]:Cb P o λy=>.callB f args (res y) [[]] 0 []:=⟨λy h=>G2 ⟨i.en,i.k y h⟩⟩
instance{P:Program}{α:Type}{l:List (Bool×Bool)}{x:Option α}{d:α}{c:α->Cl}[i:Cb P x c]:Cb P (Aw l x d) λy=>.when l (c y):=⟨λy h hg=>i.ok y (B6 h hg)⟩
section
variable{P:Program}{fn:Func}{n k:Nat}{lv:ey}{C:Ctx}{φ:Type}{res:φ->AV}{R2:φ->List Res}{r:φ}{ρ:Type}{H:ρ->Prop}{q:ρ}{items:List It}{st:St}{R:List Res}{a:Ac}{o:Option ρ}
theorem jI{x y:Option ρ}(ht:c=true->Jw P fn n k lv C res R2 r H q items st R (a.dec true c) x)(hf:c=false->Jw P fn n k lv C res R2 r H q items st R (a.dec false c) y):Jw P fn n k lv C res R2 r H q items st R a (bif c then x else y):=by
 intro hm hC e hH hc hb;cases hh:c with
 |true=>rw[hh]at e;exact ht hh hm hC e hH hc (hb.app ⟨hh,trivial⟩)
 |false=>rw[hh]at e;exact hf hh hm hC e hH hc (hb.app ⟨hh,trivial⟩)
theorem jIp{x y:ρ}(ht:c=true->Jw P fn n k lv C res R2 r H q items st R (a.dec true c) (some x))(hf:c=false->Jw P fn n k lv C res R2 r H q items st R (a.dec false c) (some y)):Jw P fn n k lv C res R2 r H q items st R a (some (bif c then x else y)):=by
 intro hm hC e hH hc hb;cases hh:c with
 |true=>rw[hh]at e;exact ht hh hm hC e hH hc (hb.app ⟨hh,trivial⟩)
 |false=>rw[hh]at e;exact hf hh hm hC e hH hc (hb.app ⟨hh,trivial⟩)
variable{x:Option α}{f:α->Option ρ}
theorem jB(h:∀y,x=some y->Jw P fn n k lv C res R2 r H q items st R a (f y)):Jw P fn n k lv C res R2 r H q items st R a (x.bind f):=by
 intro hm hC e hH hc hb;cases hx:x with
 |none=>rw[hx]at e;cases e
 |some y=>rw[hx]at e;exact h y hx hm hC e hH hc hb
theorem jb{c:α->ey->Cl}[i:Cz P x c](pi:ey)(h:∀y,Jw P fn n k lv C res R2 r H q items st R (a.cl [c y pi]) (f y)):Jw P fn n k lv C res R2 r H q items st R a (x.bind f):=
 jB λy hy hm hC e hH hc hb=>h y hm hC e hH (hc.app ⟨i.ok y pi hy,trivial⟩) hb
theorem jr{c:α->List Cl}[i:Cr P x c](h:∀y,x=some y->Jw P fn n k lv C res R2 r H q items st R (a.cl (c y)) (f y)):Jw P fn n k lv C res R2 r H q items st R a (x.bind f):=
 jB λy hy hm hC e hH hc hb=>h y hy hm hC e hH (hc.app (i.ok y hy)) hb
theorem jb0{c:α->Cl}[i:Cb P x c](h:∀y,Jw P fn n k lv C res R2 r H q items st R (a.cl [c y]) (f y)):Jw P fn n k lv C res R2 r H q items st R a (x.bind f):=
 jB λy hy hm hC e hH hc hb=>h y hm hC e hH (hc.app ⟨i.ok y hy,trivial⟩) hb
theorem jC(l:List (ClP P))(h:Jw P fn n k lv C res R2 r H q items st R (a.cl (l.map (·.1))) o):Jw P fn n k lv C res R2 r H q items st R a o:=
 λhm hC e hH hc hb=>h hm hC e hH (hc.app (A0w l)) hb
theorem jT(pi:ey)(v:ψ){c:ψ->ey->Cl}[i:Cz P (some v) c](h:Jw P fn n k lv C res R2 r H q items st R (a.cl [c v pi]) o):Jw P fn n k lv C res R2 r H q items st R a o:=
 λhm hC e hH hc hb=>h hm hC e hH (hc.app ⟨i.ok v pi rfl,trivial⟩) hb
theorem jTw(l:List (Bool×Bool))(pi:ey)(v:ψ){c:ψ->ey->Cl}[i:Cz P (some v) c](h:Jw P fn n k lv C res R2 r H q items st R (a.cl [.when l (c v pi)]) o):Jw P fn n k lv C res R2 r H q items st R a o:=
 λhm hC e hH hc hb=>h hm hC e hH (hc.app ⟨λ_=>i.ok v pi rfl,trivial⟩) hb
theorem jl(enc:α->List Pd)(l:List α)(h:Jw P fn n k lv C res R2 r H q items st R (a.cl [.len ((l.map enc).length:Int) (l.length:Int)]) o):Jw P fn n k lv C res R2 r H q items st R a o:=
 λhm hC e hH hc hb=>h hm hC e hH (hc.app ⟨okL enc l,trivial⟩) hb
theorem jK(v:Bool){x:Bool}(hx:x=v)(h:Jw P fn n k lv C res R2 r H q items st R (a.dec v x) o):Jw P fn n k lv C res R2 r H q items st R a o:=
 λhm hC e hH hc hb=>h hm hC e hH hc (hb.app ⟨hx,trivial⟩)
theorem jD(v:Bool)(h:Jw P fn n k lv C res R2 r H q items st R (a.dd v) o):Jw P fn n k lv C res R2 r H q items st R a o:=h
theorem jN:Jw P fn n k lv C res R2 r H q items st R a none:=λ_ _ e=>by cases e
variable{e:ρ}{er:φ}
theorem jR(hr:H e->er=r)(fuel:Nat)(adj:List Adj)(pi:ey)(h:K2 P n lv fuel items st R a.d a.c adj fn.results.toList k pi=some (res er,R2 er,a.c,a.b):=by kernel_rfl):Jw P fn n k lv C res R2 r H q items st R a (some e):=by intro hm hC he hH hc hb;cases he;rw[←hr hH];exact Ri hm lv fuel a.d a.c adj _ k pi rfl hC hc hb h
theorem jZ{q e:φ}(fuel:Nat)(adj:List Adj)(pi:ey)(h:K2 P n lv fuel items st R a.d a.c adj fn.results.toList k pi=some (res e,R2 e,a.c,a.b):=by kernel_rfl):Jw P fn n k lv C res R2 r (λq=>q=r) q items st R a (some e):=jR id fuel adj pi h
theorem jE(hr:H e->er=r)(fuel:Nat)(adj:List Adj)(pi:ey)(hn:Ajl (Ba fuel items a.d)=true:=by kernel_rfl)(h:Ua P n lv fuel items st R a.d a.c adj fn.results.toList k pi=some (res er,R2 er,a.c,a.b):=by kernel_rfl):Jw P fn n k lv C res R2 r H q items st R a (some e):=by intro hm hC he hH hc hb;cases he;rw[←hr hH];exact vK hm lv fuel a.d a.c adj _ k pi rfl hC hc hb hn h
theorem jS(fuel:Nat)(adj:List Adj)(pi ts:ey)(hj:Jw P fn n k lv C res R2 r H q (Ba fuel items a.d) (wS (B7 P n lv fuel items st R a.d a.c adj k pi ts)).1 (wS (B7 P n lv fuel items st R a.d a.c adj k pi ts)).2 Ac.o o)
  (h:B7 P n lv fuel items st R a.d a.c adj k pi ts=some ((wS (B7 P n lv fuel items st R a.d a.c adj k pi ts)).1,(wS (B7 P n lv fuel items st R a.d a.c adj k pi ts)).2,a.c,a.b):=by kernel_rfl):Jw P fn n k lv C res R2 r H q items st R a o:=
 λhm hC e hH hc hb=>Kr hm lv fuel a.d a.c adj k pi ts _ _ hC hc hb h (hj hm hC e hH trivial trivial)
end
section
variable{P:Program}{fn:Func}{n k:Nat}{lv:ey}{C:Ctx}{φ:Type}{res:φ->AV}{R2:φ->List Res}{r:φ}{ρ σ τ:Type}{items:List It}{st:St}{R:List Res}{a:Ac}
variable{q:Ctl σ τ}{H:ρ->Prop}{e:σ}{bR nR:σ->List Res}{B:σ->Prop}{bst nst:σ->St}{g:τ->Option ρ}
theorem jX(fuel:Nat)(adj:List Adj)(pi:ey)
  (hk:hdK (Ba fuel items a.d)=Ex n C.z (λs'=>q=.next s') nst nR:=by kernel_rfl)
  (h:B7 P n lv fuel items st R a.d a.c adj k pi (Hd (nst e))=some (nst e,nR e,a.c,a.b):=by kernel_rfl) :
  Jw P fn n k lv C res R2 r (HL nst nR bst bR B g H) q items st R a (some (.next e)):=by
 intro hm hC he hH hc hb;exact Rj hm lv fuel a.d a.c adj k pi e hC hc hb hk h (aQ he).symm
theorem jY(fuel:Nat)(adj:List Adj)(pi:ey)
  (hk:hdK (Ba fuel items a.d)=Ex n C.z B bst bR:=by kernel_rfl)
  (h:B7 P n lv fuel items st R a.d a.c adj k pi (Hd (bst e))=some (bst e,bR e,a.c,a.b):=by kernel_rfl) :
  Jw P fn n k lv C res R2 r (HL nst nR bst bR B g H) q items st R a (some (.brk e)):=by
 intro hm hC he hH hc hb;exact Rj hm lv fuel a.d a.c adj k pi e hC hc hb hk h (hH.1 _ (aQ he).symm)
variable{e:φ}
theorem q1{r:φ}:HL nst nR bst bR B (some:φ->Option φ) (λq=>q=r) (.ret e)->e=r:=λh=>by obtain⟨z,h1,h2⟩:=h.2 e rfl;cases h1;exact h2
theorem q2{H:Ctl σ' φ->Prop}{r:φ}(hk:H (.ret e)->e=r):HL nst nR bst bR B (λv=>some (.ret v):φ->Option (Ctl σ' φ)) H (.ret e)->e=r:=λh=>by obtain⟨z,h1,h2⟩:=h.2 e rfl;cases h1;exact hk h2
theorem jZ1{σ:Type}{nst bst:σ->St}{nR bR:σ->List Res}{B:σ->Prop}{q:Ctl σ φ}(fuel:Nat)(adj:List Adj)(pi:ey)(h:K2 P n lv fuel items st R a.d a.c adj fn.results.toList k pi=some (res e,R2 e,a.c,a.b):=by kernel_rfl):Jw P fn n k lv C res R2 r (HL nst nR bst bR B (some:φ->Option φ) (λq=>q=r)) q items st R a (some (.ret e)):=jR q1 fuel adj pi h
def Z5(P:Program)(n:Nat)(C:Ctx)(st:St)(R:List Res)(m:Nat):Prop:=∀Q its,(m<=maxLen->WI none P n C Q its st R)->WI none P n C Q its st R
variable{xs:List α}
theorem lnS(enc:α->List Pd)(t:Nat)(h:(Ds (mkL st) t).map Ent.v=some (.d (.p (.s (xs.map enc)))):=by kernel_rfl):Z5 P n C.z st R (xs.map enc).length:=λQ its hW=>Aeq t h hW
theorem lnO(enc:α->List Pd)(t j e sz:Nat)(h:(Ds (mkL st) t).map Ent.v=some (.d (.os j)):=by kernel_rfl)(hR:R[j]?=some (.sl e sz (xs.map enc)):=by kernel_rfl):Z5 P n C.z st R (xs.map enc).length:=λQ its hW=>A2u t j h hR hW
def Ac0:List It->Bool
 |.c (.block _ (.loop _))::_=>true
 |_=>false
def lpX:List It->Code
 |.c (.block _ (.loop x))::_=>x
 |_=>.skip
def lpN:List It->Nat
 |.c (.block i _)::_=>i
 |_=>0
variable{f:Nat->α->σ->Option (Ctl σ τ)}{enc:α->List Pd}{q:ρ}{z0:σ}{kt:σ->Option ρ}
theorem jF0(fuel:Nat)(adj:List Adj)(pi ts:ey)(stF:Nat->σ->St)(RF:Nat->σ->List Res)(sa:σ->St)(Ra:σ->List Res)
  (hlen:Z5 P n C.z (stF 0 z0) (RF 0 z0) (xs.map enc).length)
  (nil:∀q B z,(xs.map enc).length<=maxLen->Jw P fn n k lv C res R2 r (HL sa Ra sa Ra B g H) q (.c (lpX (Ba fuel items a.d)) :: .k (λ_ _=>False) :: .b (lpN (Ba fuel items a.d)) :: .k (Ex n C.z B sa Ra)::tlI (Ba fuel items a.d)) (stF xs.length z) (RF xs.length z) Ac.o (some (.brk z)))
  (cons:∀q B i x z,(xs.map enc).length<=maxLen->i<xs.length->xs[i]?=some x->Jw P fn n k lv C res R2 r (HL (stF (i+1)) (RF (i+1)) sa Ra B g H) q (.c (lpX (Ba fuel items a.d)) :: .k (Ex n C.z (λs'=>q=.next s') (stF (i+1)) (RF (i+1))) :: .b (lpN (Ba fuel items a.d)) :: .k (Ex n C.z B sa Ra)::tlI (Ba fuel items a.d)) (stF i z) (RF i z) Ac.o (f i x z))
  (kn:∀z,Jw P fn n k lv C res R2 r H q (tlI (Ba fuel items a.d)) (sa z) (Ra z) Ac.o (kt z))
  (h:B7 P n lv fuel items st R a.d a.c adj k pi ts=some (stF 0 z0,RF 0 z0,a.c,a.b))
  (h1:Ac0 (Ba fuel items a.d)=true):Jw P fn n k lv C res R2 r H q items st R a (andThen (foldI f xs 0 z0) g kt):=by
 intro hm hC e hH hc hb;refine Kr hm lv fuel a.d a.c adj k pi ts _ _ hC hc hb h (hlen _ _ λhl=>?_);have kn':∀z,kt z=some q->WI none P n C.z (Ks P fn C.z (res r) (R2 r)) (tlI (Ba fuel items a.d)) (sa z) (Ra z):=λz e=>kn z hm hC e hH trivial trivial;clear kn h;generalize Ba fuel items a.d=its at nil cons kn' h1
 match its,h1,nil,cons,kn' with
 |.c (.block i (.loop c))::l,_,nil,cons,kn'=>
 cases hf:foldI f xs 0 z0 with
 |none=>rw[hf]at e;cases e
 |some w0=>
 rw[hf]at e;refine Z2 rfl (λs=>w0=.next s) sa Ra (Z3 rfl (Yi rfl f stF RF w0 xs z0 hf rfl rfl (λs hs=>nil (.brk s) (λs=>w0=.next s) s hl hm hC rfl ⟨λs' h=>by cases h;exact hs,λv h=>by cases h⟩ trivial trivial) λj x s kk hi hx hfk hb' hr=>cons kk (λs=>w0=.next s) j x s hl hi hx hm hC hfk ⟨hb',λv hv=>?_⟩ trivial trivial)) λs hs=>?_
 .have:=hr v hv;subst this;exact⟨q,e,hH⟩
 .subst hs;exact kn' s e
theorem jW0{f:σ->Option (Ctl σ τ)}(fuel:Nat)(adj:List Adj)(pi ts:ey)(stF:σ->St)(RF:σ->List Res)(sa:σ->St)(Ra:σ->List Res)
  (cons:∀q B z,Jw P fn n k lv C res R2 r (HL stF RF sa Ra B g H) q (.c (lpX (Ba fuel items a.d)) :: .k (Ex n C.z (λs'=>q=.next s') stF RF) :: .b (lpN (Ba fuel items a.d)) :: .k (Ex n C.z B sa Ra)::tlI (Ba fuel items a.d)) (stF z) (RF z) Ac.o (f z))
  (kn:∀z,Jw P fn n k lv C res R2 r H q (tlI (Ba fuel items a.d)) (sa z) (Ra z) Ac.o (kt z))
  (h:B7 P n lv fuel items st R a.d a.c adj k pi ts=some (stF z0,RF z0,a.c,a.b))
  (h1:Ac0 (Ba fuel items a.d)=true):Jw P fn n k lv C res R2 r H q items st R a (andThen (whileN f m z0) g kt):=by
 intro hm hC e hH hc hb;refine Kr hm lv fuel a.d a.c adj k pi ts _ _ hC hc hb h ?_;have kn':∀z,kt z=some q->WI none P n C.z (Ks P fn C.z (res r) (R2 r)) (tlI (Ba fuel items a.d)) (sa z) (Ra z):=λz e=>kn z hm hC e hH trivial trivial;clear kn h;generalize Ba fuel items a.d=its at cons kn' h1
 match its,h1,cons,kn' with
 |.c (.block i (.loop c))::l,_,cons,kn'=>
 cases hf:whileN f m z0 with
 |none=>rw[hf]at e;cases e
 |some w0=>
 rw[hf]at e;refine Z2 rfl (λs=>w0=.next s) sa Ra (Z3 rfl (Aep rfl f stF RF w0 m z0 hf rfl rfl λs kk hfk hb' hr=>cons kk (λs=>w0=.next s) s hm hC hfk ⟨hb',λv hv=>?_⟩ trivial trivial)) λs hs=>?_
 .have:=hr v hv;subst this;exact⟨q,e,hH⟩
 .subst hs;exact kn' s e
theorem jM{m:Option (Ctl σ τ)}(sA:St->σ->St)(rA:List Res->σ->List Res)
  (body:∀q,Jw P fn n k lv C res R2 r (HL (sA st) (rA R) (sA st) (rA R) (λ_=>True) g H) q (.c (hdC items) :: .k (Ex n C.z (λs=>q=.next s) (sA st) (rA R))::tlI items) st R a m)
  (kn:∀z,Jw P fn n k lv C res R2 r H q (tlI items) (sA st z) (rA R z) Ac.o (kt z))
  (h1:isC items=true:=by kernel_rfl):Jw P fn n k lv C res R2 r H q items st R a (andThen m g kt):=by
 intro hm hC e hH hc hb;cases hf:m with
 |none=>rw[hf]at e;cases e
 |some w0=>
 rw[hf]at e;refine Z2 h1 (λs=>w0=.next s) (sA st) (rA R) (body w0 hm hC hf ⟨λ_ _=>trivial,λv hv=>?_⟩ hc hb) λs hs=>?_
 .subst hv;exact⟨q,e,hH⟩
 .subst hs;exact kn s hm hC e hH trivial trivial
abbrev wy(P:Program)(n:Nat)(lv:ey)(items:List It)(st:St)(R:List Res)(a:Ac)(k:Nat)(fuel:Nat)(adj:List Adj)(pi ts:ey):St×List Res:=wS (B7 P n lv fuel items st R a.d a.c adj k pi ts)
theorem jF(fuel:Nat)(adj:List Adj)(pi ts:ey)(sF:St->Nat->σ->St)(rF:List Res->Nat->σ->List Res)(sA:St->σ->St)(rA:List Res->σ->List Res):let S:=wy P n lv items st R a k fuel adj pi ts;let I:=Ba fuel items a.d;∀(hlen:Z5 P n C.z (sF S.1 0 z0) (rF S.2 0 z0) (xs.map enc).length)
  (fuY:Nat)(piY:ey)
  (cons:∀q B i x z,(xs.map enc).length<=maxLen->i<xs.length->xs[i]?=some x->Jw P fn n k lv C res R2 r (HL (sF S.1 (i+1)) (rF S.2 (i+1)) (sA S.1) (rA S.2) B g H) q (.c (lpX I) :: .k (Ex n C.z (λs'=>q=.next s') (sF S.1 (i+1)) (rF S.2 (i+1))) :: .b (lpN I) :: .k (Ex n C.z B (sA S.1) (rA S.2))::tlI I) (sF S.1 i z) (rF S.2 i z) (Ac.o.dec true (decide (cnt 0 i<(xs.length:Int)))) (f i x z))
  (kn:∀z,Jw P fn n k lv C res R2 r H q (tlI I) (sA S.1 z) (rA S.2 z) Ac.o (kt z))
  (h:B7 P n lv fuel items st R a.d a.c adj k pi ts=some (sF S.1 0 z0,rF S.2 0 z0,a.c,a.b):=by kernel_rfl)
  (h1:Ac0 I=true:=by kernel_rfl)
  (hk:∀B:σ->Prop,hdK (Ba fuY (.c (lpX I) :: .k (λ_ _=>False) :: .b (lpN I) :: .k (Ex n C.z B (sA S.1) (rA S.2))::tlI I) [false])=Ex n C.z B (sA S.1) (rA S.2):=by intro _;kernel_rfl)
  (h2:∀(B:σ->Prop)(z:σ),B7 P n lv fuY (.c (lpX I) :: .k (λ_ _=>False) :: .b (lpN I) :: .k (Ex n C.z B (sA S.1) (rA S.2))::tlI I) (sF S.1 xs.length z) (rF S.2 xs.length z) [false] [] [] k piY (Hd (sA S.1 z))=some (sA S.1 z,rA S.2 z,[],[(decide (cnt 0 xs.length<(xs.length:Int)),false)]):=by intro _ _;kernel_rfl),Jw P fn n k lv C res R2 r H q items st R a (andThen (foldI f xs 0 z0) g kt):=by
 intro S I hlen fuY piY cons kn h h1 hk h2;exact jF0 fuel adj pi ts _ _ _ _ hlen (λq B z hl hm hC he hH _ _=>Rj (bs:=[(decide (cnt 0 xs.length<(xs.length:Int)),false)]) hm lv fuY [false] [] [] k piY z hC trivial ⟨vB (by rwa [aq]at hl),trivial⟩ (hk B) (h2 B z) (hH.1 _ (aQ he).symm))
  (λq B i x z hl hi hx=>jK true (Zt hi (by rwa [aq]at hl)) (cons q B i x z hl hi hx)) kn h h1
theorem jG(fuel:Nat)(adj:List Adj)(pi ts:ey)(sF:St->Nat->σ->St)(rF:List Res->Nat->σ->List Res)(sA:St->σ->St)(rA:List Res->σ->List Res):let S:=wy P n lv items st R a k fuel adj pi ts;let I:=Ba fuel items a.d;∀(hlen:Z5 P n C.z (sF S.1 0 z0) (rF S.2 0 z0) (xs.map enc).length)
  (fuY:Nat)(piY:ey)
  (cons:∀q B i x z,(xs.map enc).length<=maxLen->i<xs.length->xs[i]?=some x->Jw P fn n k lv C res R2 r (HL (sF S.1 (i+1)) (rF S.2 (i+1)) (sA S.1) (rA S.2) B g H) q (.c (lpX I) :: .k (Ex n C.z (λs'=>q=.next s') (sF S.1 (i+1)) (rF S.2 (i+1))) :: .b (lpN I) :: .k (Ex n C.z B (sA S.1) (rA S.2))::tlI I) (sF S.1 i z) (rF S.2 i z) ((Ac.o.dec true (decide (cnt 0 i<(xs.length:Int)))).cl [.row (xs.map enc) (cnt 0 i) (enc x)]) (f i x z))
  (kn:∀z,Jw P fn n k lv C res R2 r H q (tlI I) (sA S.1 z) (rA S.2 z) Ac.o (kt z))
  (h:B7 P n lv fuel items st R a.d a.c adj k pi ts=some (sF S.1 0 z0,rF S.2 0 z0,a.c,a.b):=by kernel_rfl)
  (h1:Ac0 I=true:=by kernel_rfl)
  (hk:∀B:σ->Prop,hdK (Ba fuY (.c (lpX I) :: .k (λ_ _=>False) :: .b (lpN I) :: .k (Ex n C.z B (sA S.1) (rA S.2))::tlI I) [false])=Ex n C.z B (sA S.1) (rA S.2):=by intro _;kernel_rfl)
  (h2:∀(B:σ->Prop)(z:σ),B7 P n lv fuY (.c (lpX I) :: .k (λ_ _=>False) :: .b (lpN I) :: .k (Ex n C.z B (sA S.1) (rA S.2))::tlI I) (sF S.1 xs.length z) (rF S.2 xs.length z) [false] [] [] k piY (Hd (sA S.1 z))=some (sA S.1 z,rA S.2 z,[],[(decide (cnt 0 xs.length<(xs.length:Int)),false)]):=by intro _ _;kernel_rfl),Jw P fn n k lv C res R2 r H q items st R a (andThen (foldI f xs 0 z0) g kt):=by
 intro S I hlen fuY piY cons kn h h1 hk h2;exact jF fuel adj pi ts sF rF sA rA hlen fuY piY (λq B i x z hl hi hx hm hC e hH hc hb=>cons q B i x z hl hi hx hm hC e hH (hc.app ⟨Bu hx hl,trivial⟩) hb) kn h h1 hk h2
theorem jW{f:σ->Option (Ctl σ τ)}(fuel:Nat)(adj:List Adj)(pi ts:ey)(sF:St->σ->St)(rF:List Res->σ->List Res)(sA:St->σ->St)(rA:List Res->σ->List Res):let S:=wy P n lv items st R a k fuel adj pi ts;let I:=Ba fuel items a.d;∀(cons:∀q B z,Jw P fn n k lv C res R2 r (HL (sF S.1) (rF S.2) (sA S.1) (rA S.2) B g H) q (.c (lpX I) :: .k (Ex n C.z (λs'=>q=.next s') (sF S.1) (rF S.2)) :: .b (lpN I) :: .k (Ex n C.z B (sA S.1) (rA S.2))::tlI I) (sF S.1 z) (rF S.2 z) Ac.o (f z))
  (kn:∀z,Jw P fn n k lv C res R2 r H q (tlI I) (sA S.1 z) (rA S.2 z) Ac.o (kt z))
  (h:B7 P n lv fuel items st R a.d a.c adj k pi ts=some (sF S.1 z0,rF S.2 z0,a.c,a.b):=by kernel_rfl)
  (h1:Ac0 I=true:=by kernel_rfl),Jw P fn n k lv C res R2 r H q items st R a (andThen (whileN f m z0) g kt):=by
 intro S I cons kn h h1;exact jW0 fuel adj pi ts _ _ _ _ cons kn h h1
end
theorem fnJ{fn:Func}{R:List Res}{φ:Type}{res:φ->AV}{R2:φ->List Res}{o:Option φ}(hf:P.funcs[f]?=some fn)(lv:ey)
  (hj : ∀ {C r}, Jw P fn fn.ntmps R.length lv C res R2 r (λ q => q = r) r [.c (fn.body.getD .skip)] (Tc 0 args) R Ac.o o)(hb : ((fn.body.isSome && Nat.ble args.length fn.ntmps) && !(fn.name == "runtime.NumGoroutine")) = true := by kernel_rfl)(hm : P.follows .mixedOrders = true := by kernel_rfl) : FnOk P f args R res R2 o := by
 rw[aa,aa]at hb;cases hb':fn.body with
 |none=>rw[hb']at hb;cases hb.1.1
 |some c=>refine⟨Ej hf (by rw[hb'];rfl) (by simpa using hb.2),λr h=>Hu fn.ntmps hf hb' rfl hb.1.2 λC hC=>?_⟩;have:=hj (C:=C) (r:=r) hm hC h rfl trivial trivial;rw[hb']at this;exact this
section
variable{P:Program}{fn:Func}{n k:Nat}{lv:ey}{C:Ctx}{φ:Type}{res:φ->AV}{R2:φ->List Res}{r:φ}{ρ:Type}{H:ρ->Prop}{q:ρ}{items:List It}{st:St}{R:List Res}{a:Ac}{o:Option ρ}
theorem ji{x y:Option ρ}(ht:Jw P fn n k lv C res R2 r H q items st R (a.dec true c) x)(hf:Jw P fn n k lv C res R2 r H q items st R (a.dec false c) y):Jw P fn n k lv C res R2 r H q items st R a (bif c then x else y):=jI (λ_=>ht) λ_=>hf
theorem jq{x y:ρ}(ht:Jw P fn n k lv C res R2 r H q items st R (a.dec true c) (some x))(hf:Jw P fn n k lv C res R2 r H q items st R (a.dec false c) (some y)):Jw P fn n k lv C res R2 r H q items st R a (some (bif c then x else y)):=jIp (λ_=>ht) λ_=>hf
variable{x:Option α}{c:α->ey->Cl}{f:α->Option ρ}
theorem jn[i:Cz P x c](h:∀y,Jw P fn n k lv C res R2 r H q items st R (a.cl [c y []]) (f y)):Jw P fn n k lv C res R2 r H q items st R a (x.bind f):=jb [] h
theorem jh[i:Cz P x c](h:∀y,x=some y->Jw P fn n k lv C res R2 r H q items st R (a.cl [c y []]) (f y)):Jw P fn n k lv C res R2 r H q items st R a (x.bind f):=
 jB λy hy hm hC e hH hc hb=>h y hy hm hC e hH (hc.app ⟨i.ok y [] hy,trivial⟩) hb
variable{xs:List α}{f:List α->Option ρ}
theorem ju[Ec α]{m:Int}{x v:α}(h2:getI xs m=some x)(h:∀y,Jw P fn n k lv C res R2 r H q items st R (a.cl [.upd (xs.map Ec.en) m.toNat (Ec.en x) (Ec.en v) (y.map Ec.en)]) (f y)):Jw P fn n k lv C res R2 r H q items st R a ((setI xs m v).bind f):=
 jB λy hy hm hC e hH hc hb=>h y hm hC e hH (hc.app ⟨qP h2 hy,trivial⟩) hb
class Es (α:Type) [Ec α] where
 z:Nat
 h:∀x:α,(Ec.en x).length=z
instance:Es Int:=⟨1,λ_=>rfl⟩
instance:Es Bool:=⟨1,λ_=>rfl⟩
theorem ja[Ec α][Es α]{ys:List α}(h:∀y,Jw P fn n k lv C res R2 r H q items st R (a.cl [.app (xs.map Ec.en) (ys.map Ec.en) (Es.z α) (((xs.map Ec.en).length+(ys.map Ec.en).length)*(B+1)) (y.map Ec.en)]) (f y)):Jw P fn n k lv C res R2 r H q items st R a ((appI (B+1) xs ys).bind f):=
 jB λy hy hm hC e hH hc hb=>h y hm hC e hH (hc.app ⟨Gs _ _ Es.h hy,trivial⟩) hb
theorem jc{c:Cl}(h0:c.ok P)(h:Jw P fn n k lv C res R2 r H q items st R (a.cl [c]) o):Jw P fn n k lv C res R2 r H q items st R a o:=jC [⟨_,h0⟩] h
theorem jz{q e:φ}(pi:ey:=[])(adj:List Adj:=[])(h:K2 P n lv 99 items st R a.d a.c adj fn.results.toList k pi=some (res e,R2 e,a.c,a.b):=by kernel_rfl):Jw P fn n k lv C res R2 r (λq=>q=r) q items st R a (some e):=jZ 99 adj pi h
theorem js(pi ts:ey)(hj:Jw P fn n k lv C res R2 r H q (Ba 99 items a.d) (wS (B7 P n lv 99 items st R a.d a.c [] k pi ts)).1 (wS (B7 P n lv 99 items st R a.d a.c [] k pi ts)).2 Ac.o o)
  (h:B7 P n lv 99 items st R a.d a.c [] k pi ts=some ((wS (B7 P n lv 99 items st R a.d a.c [] k pi ts)).1,(wS (B7 P n lv 99 items st R a.d a.c [] k pi ts)).2,a.c,a.b):=by kernel_rfl):Jw P fn n k lv C res R2 r H q items st R a o:=jS 99 [] pi ts hj h
end
section
variable{P:Program}{fn:Func}{n k:Nat}{lv:ey}{C:Ctx}{φ:Type}{res:φ->AV}{R2:φ->List Res}{r:φ}{ρ σ τ:Type}{items:List It}{st:St}{R:List Res}{a:Ac}
variable{q:Ctl σ τ}{H:ρ->Prop}{e:σ}{B:σ->Prop}{bst nst:σ->St}{g:τ->Option ρ}
theorem jx{nR bR:σ->List Res}(pi:ey:=[])(adj:List Adj:=[])
  (hk:hdK (Ba 99 items a.d)=Ex n C.z (λs'=>q=.next s') nst nR:=by kernel_rfl)
  (h:B7 P n lv 99 items st R a.d a.c adj k pi (Hd (nst e))=some (nst e,nR e,a.c,a.b):=by kernel_rfl) :
  Jw P fn n k lv C res R2 r (HL nst nR bst bR B g H) q items st R a (some (.next e)):=jX 99 adj pi hk h
theorem jy{nR bR:σ->List Res}(pi:ey:=[])(adj:List Adj:=[])
  (hk:hdK (Ba 99 items a.d)=Ex n C.z B bst bR:=by kernel_rfl)
  (h:B7 P n lv 99 items st R a.d a.c adj k pi (Hd (bst e))=some (bst e,bR e,a.c,a.b):=by kernel_rfl) :
  Jw P fn n k lv C res R2 r (HL nst nR bst bR B g H) q items st R a (some (.brk e)):=jY 99 adj pi hk h
theorem jw{σ:Type}{nst bst:σ->St}{nR bR:σ->List Res}{B:σ->Prop}{q:Ctl σ φ}{e:φ}(pi:ey:=[])(adj:List Adj:=[])(h:K2 P n lv 99 items st R a.d a.c adj fn.results.toList k pi=some (res e,R2 e,a.c,a.b):=by kernel_rfl):Jw P fn n k lv C res R2 r (HL nst nR bst bR B (some:φ->Option φ) (λq=>q=r)) q items st R a (some (.ret e)):=jZ1 99 adj pi h
end
def kI{σ:Type}(t:Nat):St->Nat->σ->St:=kF λi _=>[(t,.d (.p (.v (.int .i64 (cnt 0 i)))))]
class Ek (α:Type) where
 av:α->AV
class Et (α:Type) where
 tl:α->List AV
class Er (α:Type) where
 rv:α->AV
instance:Ek Int:=⟨λx=>.d (.p (.v (.int .i64 x)))⟩
instance:Ek Bool:=⟨λx=>.d (.p (.v (.bool x)))⟩
instance{α:Type}[Ec α]:Ek (List α):=⟨λx=>.d (.p (.s (x.map Ec.en)))⟩
instance(priority:=10){α:Type}[Ek α]:Et α:=⟨λx=>[Ek.av x]⟩
instance{α β:Type}[Ek α][Et β]:Et (α×β):=⟨λx=>Ek.av x.1::Et.tl x.2⟩
instance(priority:=10){α:Type}[Ek α]:Er α:=⟨Ek.av⟩
instance{α β:Type}[Ek α][Et β]:Er (α×β):=⟨λx=>.tup (Ek.av x.1::Et.tl x.2)⟩
end Go.SL
