import Derived.Test.YtaplakgdkkmpfaaGreatDoorRows
import Derived.Test.YtaplakgdkkmpfaaGreatDoorMo
import Derived.Test.YtaplakgdkkmpfaaGreatDoorFo
set_option linter.unusedVariables false
set_option maxHeartbeats 4000000
namespace Go.Proofs.YtaplakgdkkmpfaaGreatDoor
open Go.SL
abbrev v0_ (l:List Int):Res:=.sl 3 1 (l.map pI)
abbrev v1_ (l:List Ai):Res:=.sl 60 12 (l.map q60)
abbrev v2_ (l:List Ax):Res:=.sl 95 5 (l.map q95)
abbrev v3_ (l:List C5):Res:=.sl 87 3 (l.map q87)
abbrev v4_ (l:List B9):Res:=.sl 91 4 (l.map q91)
abbrev CO:=CallOk Tryz.prog
abbrev EN:=C9 Tryz.prog
abbrev Uk {α0 α1 α2 α3:Type} (z:α0×α1×α2×α3):α3:=z.2.2.2
abbrev g3_ {α0 α1 α2 α3 α4:Type} (z:α0×α1×α2×α3×α4):α3:=z.2.2.2.1
abbrev g4_ {α0 α1 α2 α3 α4 α5:Type} (z:α0×α1×α2×α3×α4×α5):α4:=z.2.2.2.2.1
abbrev g5_ {α0 α1 α2 α3 α4 α5 α6:Type} (z:α0×α1×α2×α3×α4×α5×α6):α5:=z.2.2.2.2.2.1
abbrev g6_ {α0 α1 α2 α3 α4 α5 α6 α7:Type} (z:α0×α1×α2×α3×α4×α5×α6×α7):α6:=z.2.2.2.2.2.2.1
abbrev g7_ {α0 α1 α2 α3 α4 α5 α6 α7 α8:Type} (z:α0×α1×α2×α3×α4×α5×α6×α7×α8):α7:=z.2.2.2.2.2.2.2.1
abbrev g8_ {α0 α1 α2 α3 α4 α5 α6 α7 α8 α9:Type} (z:α0×α1×α2×α3×α4×α5×α6×α7×α8×α9):α8:=z.2.2.2.2.2.2.2.2.1
abbrev g9_ {α0 α1 α2 α3 α4 α5 α6 α7 α8 α9 α10:Type} (z:α0×α1×α2×α3×α4×α5×α6×α7×α8×α9×α10):α9:=z.2.2.2.2.2.2.2.2.2.1
abbrev Ed {α0 α1 α2 α3 α4 α5 α6 α7 α8 α9 α10 α11:Type} (z:α0×α1×α2×α3×α4×α5×α6×α7×α8×α9×α10×α11):α10:=z.2.2.2.2.2.2.2.2.2.2.1
abbrev Ec {α0 α1 α2 α3 α4 α5 α6 α7 α8 α9 α10 α11 α12:Type} (z:α0×α1×α2×α3×α4×α5×α6×α7×α8×α9×α10×α11×α12):α11:=z.2.2.2.2.2.2.2.2.2.2.2.1
abbrev Eb {α0 α1 α2 α3 α4 α5 α6 α7 α8 α9 α10 α11 α12 α13:Type} (z:α0×α1×α2×α3×α4×α5×α6×α7×α8×α9×α10×α11×α12×α13):α12:=z.2.2.2.2.2.2.2.2.2.2.2.2.1
abbrev Kz {α0 α1 α2 α3 α4 α5 α6 α7 α8 α9 α10 α11 α12 α13:Type} (z:α0×α1×α2×α3×α4×α5×α6×α7×α8×α9×α10×α11×α12×α13):α13:=z.2.2.2.2.2.2.2.2.2.2.2.2.2
abbrev Hm {α0 α1 α2 α3 α4 α5 α6 α7 α8 α9 α10 α11 α12 α13 α14:Type} (z:α0×α1×α2×α3×α4×α5×α6×α7×α8×α9×α10×α11×α12×α13×α14):α13:=z.2.2.2.2.2.2.2.2.2.2.2.2.2.1
abbrev Hl {α0 α1 α2 α3 α4 α5 α6 α7 α8 α9 α10 α11 α12 α13 α14 α15:Type} (z:α0×α1×α2×α3×α4×α5×α6×α7×α8×α9×α10×α11×α12×α13×α14×α15):α14:=z.2.2.2.2.2.2.2.2.2.2.2.2.2.2.1
abbrev Hk {α0 α1 α2 α3 α4 α5 α6 α7 α8 α9 α10 α11 α12 α13 α14 α15 α16:Type} (z:α0×α1×α2×α3×α4×α5×α6×α7×α8×α9×α10×α11×α12×α13×α14×α15×α16):α15:=z.2.2.2.2.2.2.2.2.2.2.2.2.2.2.2.1
abbrev Hj {α0 α1 α2 α3 α4 α5 α6 α7 α8 α9 α10 α11 α12 α13 α14 α15 α16 α17:Type} (z:α0×α1×α2×α3×α4×α5×α6×α7×α8×α9×α10×α11×α12×α13×α14×α15×α16×α17):α16:=z.2.2.2.2.2.2.2.2.2.2.2.2.2.2.2.2.1
abbrev Hi {α0 α1 α2 α3 α4 α5 α6 α7 α8 α9 α10 α11 α12 α13 α14 α15 α16 α17 α18:Type} (z:α0×α1×α2×α3×α4×α5×α6×α7×α8×α9×α10×α11×α12×α13×α14×α15×α16×α17×α18):α17:=z.2.2.2.2.2.2.2.2.2.2.2.2.2.2.2.2.2.1
abbrev Hh {α0 α1 α2 α3 α4 α5 α6 α7 α8 α9 α10 α11 α12 α13 α14 α15 α16 α17 α18 α19:Type} (z:α0×α1×α2×α3×α4×α5×α6×α7×α8×α9×α10×α11×α12×α13×α14×α15×α16×α17×α18×α19):α18:=z.2.2.2.2.2.2.2.2.2.2.2.2.2.2.2.2.2.2.1
abbrev Hg {α0 α1 α2 α3 α4 α5 α6 α7 α8 α9 α10 α11 α12 α13 α14 α15 α16 α17 α18 α19 α20:Type} (z:α0×α1×α2×α3×α4×α5×α6×α7×α8×α9×α10×α11×α12×α13×α14×α15×α16×α17×α18×α19×α20):α19:=z.2.2.2.2.2.2.2.2.2.2.2.2.2.2.2.2.2.2.2.1
abbrev Fb {α0 α1 α2 α3 α4 α5 α6 α7 α8 α9 α10 α11 α12 α13 α14 α15 α16 α17 α18 α19 α20:Type} (z:α0×α1×α2×α3×α4×α5×α6×α7×α8×α9×α10×α11×α12×α13×α14×α15×α16×α17×α18×α19×α20):α20:=z.2.2.2.2.2.2.2.2.2.2.2.2.2.2.2.2.2.2.2.2
theorem sI {α:Type} {a b:α} (h:some a=some b):a=b:=aP h
abbrev n3_:List Nat:=[0,1,2]
abbrev n4_:List Nat:=[0,1,2,3]
abbrev n5_:List Nat:=[0,1,2,3,4]
abbrev n6_:List Nat:=[0,1,2,3,4,5]
abbrev n7_:List Nat:=[0,1,2,3,4,5,6]
abbrev Yo:List Nat:=[0,1,2,3,4,5,6,7,8,9,10]
abbrev Yn:List Nat:=[0,1,2,3,4,5,6,7,8,9,10,11]
theorem mixed:Tryz.prog.follows .mixedOrders=true:=by kernel_rfl
abbrev PC:={c:Cl // Cl.ok Tryz.prog c}
abbrev PB:={p:Bool×Bool // p.1=p.2}
theorem okP:∀ l:List PC,B1 Tryz.prog (l.map (·.1))
 | []=>trivial
 | c::l=>⟨c.2,okP l⟩
theorem okB:∀ l:List PB,Cs (l.map (·.1))
 | []=>trivial
 | ⟨(_,_),h⟩::l=>⟨h,okB l⟩
def pq {a b:Bool} (h:a=b):PB:=⟨(a,b),h⟩
def pc {f:FuncId} {args:List AV} {R R2:List Res} {res:AV} (e:C9 Tryz.prog f) (k:CallOk Tryz.prog f args R res R2) (pi:List Nat):PC:=⟨.call f args R res R2 pi,e,k⟩
def pb {f:FuncId} {args:List AV} {res:AV} (e:C9 Tryz.prog f) (k:CallOk Tryz.prog f args [] res []):PC:=⟨.callB f args res [[]] 0 [],O4 ⟨e,k⟩⟩
def pw {g:List (Bool×Bool)} {f:FuncId} {args:List AV} {R R2:List Res} {res:AV} (e:C9 Tryz.prog f) (k:Cs g->CallOk Tryz.prog f args R res R2) (pi:List Nat):PC:=⟨.when g (.call f args R res R2 pi),λ h=>⟨e,k h⟩⟩
def pv {g:List (Bool×Bool)} {f:FuncId} {args:List AV} {res:AV} (e:C9 Tryz.prog f) (k:Cs g->CallOk Tryz.prog f args [] res []):PC:=⟨.when g (.callB f args res [[]] 0 []),λ h=>O4 ⟨e,k h⟩⟩
section
variable {α:Type}
def pl (q:α->List Pd) (l:List α):PC:=⟨.len ((l.map q).length:Int) (l.length:Int),Tp l q⟩
def pL_ (g:List (Bool×Bool)) (q:α->List Pd) (l:List α):PC:=⟨.when g (.len ((l.map q).length:Int) (l.length:Int)),λ _=>Tp l q⟩
def pr (q:α->List Pd) {l:List α} {n:Int} {x:α} (h:getI l n=some x):PC:=⟨.row (l.map q) n (q x),Kv h⟩
def pn (q:α->List Pd) {l:List α} {n:Int} {x:α} (h:getI l n=some x):PC:=⟨.row (l.map q) ((n.toNat:Nat):Int) (q x),Qp h⟩
def pt {q:α->List Pd} {l:List α} {i:Nat} {x:α} (hx:l[i]? = some x) (hl:(l.map q).length<=maxLen):PC:=⟨.row (l.map q) (cnt 0 i) (q x),Tk hx hl⟩
def pR (q:α->List Pd) {g:List (Bool×Bool)} {l:List α} {n:Int} {x d:α} (h:An g (getI l n) d=some x):PC:=⟨.when g (.row (l.map q) n (q x)),λ hg=>Kv (Aw h hg)⟩
def pN (q:α->List Pd) {g:List (Bool×Bool)} {l:List α} {n:Int} {x d:α} (h:An g (getI l n) d=some x):PC:=⟨.when g (.row (l.map q) ((n.toNat:Nat):Int) (q x)),λ hg=>Qp (Aw h hg)⟩
def pa (q:α->List Pd) (size:Nat) {B:Nat} {l m y:List α} (h:appI (B+1) l m=some y) (hs:∀ x,(q x).length=size:=by exact λ _=>rfl):PC:=⟨.app (l.map q) (m.map q) size (((l.map q).length+(m.map q).length)*(B+1)) (y.map q),jV q size hs h⟩
def pu (q:α->List Pd) {l y:List α} {n:Int} {x x':α} (hx:getI l n=some x) (h:setI l n x'=some y):PC:=⟨.upd (l.map q) n.toNat (q x) (q x') (y.map q),Z4 hx h⟩
end
theorem ws {ro:Option Nat} {n:Nat} {C:Ctx} {Q:Exit->Act->World->Prop} {st:St} {R:List Res} {items:List It} (lv:List Nat) (fuel:Nat) (ds:List Bool) (cls:List PC) (adj:List Adj) (k:Nat) (pi:List Nat) (st':St) (R':List Res) (hk:C.h.length<=k) (bs:List PB) (hW:WI ro Tryz.prog n C Q (Av fuel items ds) st' R') (h:C_ Tryz.prog n lv fuel items st R ds (cls.map (·.1)) adj k pi (Ma st')=some (st',R',cls.map (·.1),bs.map (·.1)):=by kernel_rfl):WI ro Tryz.prog n C Q items st R:=Of mixed lv fuel ds (cls.map (·.1)) adj k pi st' R' hk (okP cls) (okB bs) h hW
def wo (o:Option (St×List Res×List Cl×List (Bool×Bool))):St×List Res:=match o with
 | some (s,r,_,_)=>(s,r)
 | none=>([],[])
theorem wn {ro:Option Nat} {n:Nat} {C:Ctx} {Q:Exit->Act->World->Prop} {st:St} {R:List Res} {items:List It} (lv:List Nat) (fuel:Nat) (ds:List Bool) (cls:List PC) (adj:List Adj) (k:Nat) (pi:List Nat) (ks:List Nat) (hk:C.h.length<=k) (bs:List PB) (hW:WI ro Tryz.prog n C Q (Av fuel items ds) (wo (C_ Tryz.prog n lv fuel items st R ds (cls.map (·.1)) adj k pi ks)).1 (wo (C_ Tryz.prog n lv fuel items st R ds (cls.map (·.1)) adj k pi ks)).2) (h:(C_ Tryz.prog n lv fuel items st R ds (cls.map (·.1)) adj k pi ks).map (λ x=>(Ma x.1,x.2.2.1,x.2.2.2))=some (ks,cls.map (·.1),bs.map (·.1)):=by kernel_rfl):WI ro Tryz.prog n C Q items st R:=by
 cases e:C_ Tryz.prog n lv fuel items st R ds (cls.map (·.1)) adj k pi ks with
 | none=>rw [e] at h;cases h
 | some x=>
  obtain⟨s,r,c,b⟩:=x
  rw [e] at h hW
  simp only [bP,ah,aw] at h
  obtain⟨h1,h2,h3⟩:=h
  subst h1;subst h2;subst h3
  exact Of mixed lv fuel ds _ adj k pi s r hk (okP cls) (okB bs) e hW
theorem we {ro:Option Nat} {n:Nat} {C:Ctx} {Q:Exit->Act->World->Prop} {st:St} {R:List Res} {items:List It} {σ:Type} {φ:σ->Prop} {st':σ->St} {R':σ->List Res} (lv:List Nat) (fuel:Nat) (ds:List Bool) (cls:List PC) (adj:List Adj) (k:Nat) (pi:List Nat) (s:σ) (hk:C.h.length<=k) (bs:List PB) (h1:φ s) (hi:hdK (Av fuel items ds)=Ex n C φ st' R':=by kernel_rfl) (h:C_ Tryz.prog n lv fuel items st R ds (cls.map (·.1)) adj k pi (Ma (st' s))=some (st' s,R' s,cls.map (·.1),bs.map (·.1)):=by kernel_rfl):WI ro Tryz.prog n C Q items st R:=Xm mixed lv fuel ds (cls.map (·.1)) adj k pi s hk (okP cls) (okB bs) hi h h1
theorem wx {σ:Type} {τ:Type} (w:Ctl σ τ) (st':σ->St) (R':σ->List Res) {ro:Option Nat} {n:Nat} {C:Ctx} {Q:Exit->Act->World->Prop} {st:St} {R:List Res} {items:List It} (lv:List Nat) (fuel:Nat) (ds:List Bool) (cls:List PC) (adj:List Adj) (k:Nat) (pi:List Nat) (s:σ) (hk:C.h.length<=k) (bs:List PB) (h1:w = .next s) (hi:hdK (Av fuel items ds)=Ex n C (λ s'=>w = .next s') st' R':=by kernel_rfl) (h:C_ Tryz.prog n lv fuel items st R ds (cls.map (·.1)) adj k pi (Ma (st' s))=some (st' s,R' s,cls.map (·.1),bs.map (·.1)):=by kernel_rfl):WI ro Tryz.prog n C Q items st R:=Xm mixed lv fuel ds (cls.map (·.1)) adj k pi s hk (okP cls) (okB bs) hi h h1
theorem wc {ro:Option Nat} {n:Nat} {C:Ctx} {Q:Exit->Act->World->Prop} {st:St} {R:List Res} {items:List It} {σ τ:Type} (w:Ctl σ τ) (st':σ->St) (R':σ->List Res) (h:WI ro Tryz.prog n C Q (.c (hdC items) :: .k (Ex n C (λ s=>w = .next s) st' R')::tlI items) st R) (hK:∀ s,w = .next s->WI ro Tryz.prog n C Q (tlI items) (st' s) (R' s)) (hi:isC items=true:=by kernel_rfl):WI ro Tryz.prog n C Q items st R:=uU hi _ st' R' h hK
theorem A1 {α β γ:Type} {o:Option α} {f:α->Option β} {g:α->β->Option γ} {r:γ} (h:(o.bind λ a=>(f a).bind λ b=>g a b)=some r):∃ a,o=some a/\∃ b,f a=some b/\g a b=some r:=by
 obtain⟨a,h1,h⟩:=Ah h
 obtain⟨b,h2,h⟩:=Ah h
 exact⟨a,h1,b,h2,h⟩
theorem Fq {α β γ δ:Type} {o:Option α} {f:α->Option β} {g:α->β->Option γ} {k:α->β->γ->Option δ} {r:δ} (h:(o.bind λ a=>(f a).bind λ b=>(g a b).bind λ c=>k a b c)=some r):∃ a,o=some a/\∃ b,f a=some b/\∃ c,g a b=some c/\k a b c=some r:=by
 obtain⟨a,h1,h⟩:=Ah h
 obtain⟨b,h2,c,h3,h⟩:=A1 h
 exact⟨a,h1,b,h2,c,h3,h⟩
theorem G0 {α β γ δ ε:Type} {o:Option α} {f:α->Option β} {g:α->β->Option γ} {k:α->β->γ->Option δ} {l:α->β->γ->δ->Option ε} {r:ε} (h:(o.bind λ a=>(f a).bind λ b=>(g a b).bind λ c=>(k a b c).bind λ d=>l a b c d)=some r):∃ a,o=some a/\∃ b,f a=some b/\∃ c,g a b=some c/\∃ d,k a b c=some d/\l a b c d=some r:=by
 obtain⟨a,h1,h⟩:=Ah h
 obtain⟨b,h2,c,h3,d,h4,h⟩:=Fq h
 exact⟨a,h1,b,h2,c,h3,d,h4,h⟩
theorem wl {ro:Option Nat} {n:Nat} {C:Ctx} {Q:Exit->Act->World->Prop} {st:St} {R:List Res} {α σ τ:Type} {items:List It} {f:Nat->α->σ->Option (Ctl σ τ)} (stF:Nat->σ->St) (RF:Nat->σ->List Res) {r:Ctl σ τ} {xs:List α} {s:σ} (hm:foldI f xs 0 s=some r) (hnil:∀ s,r = .next s->WI ro Tryz.prog n C Q (.c (lpC items) :: .k (λ _ _=>False)::tlI items) (stF xs.length s) (RF xs.length s)) (hcons:∀ i x s k,i<xs.length->xs[i]? = some x->f i x s=some k->(∀ s',k = .brk s'->r = .next s')->(∀ v,k = .ret v->r = .ret v)->WI ro Tryz.prog n C Q (.c (lpC items) :: .k (Ex n C (λ s'=>k = .next s') (stF (i+1)) (RF (i+1)))::tlI items) (stF i s) (RF i s)) (hi:isL items=true:=by kernel_rfl) (h0:st=stF 0 s:=by rfl) (h1:R=RF 0 s:=by rfl):WI ro Tryz.prog n C Q items st R:=Zb hi f stF RF r xs s hm h0 h1 hnil hcons
theorem ww {ro:Option Nat} {n:Nat} {C:Ctx} {Q:Exit->Act->World->Prop} {st:St} {R:List Res} {σ τ:Type} {items:List It} {f:σ->Option (Ctl σ τ)} (stF:σ->St) (RF:σ->List Res) {r:Ctl σ τ} {fuel:Nat} {s:σ} (hm:whileN f fuel s=some r) (h:∀ s k,f s=some k->(∀ s',k = .brk s'->r = .next s')->(∀ v,k = .ret v->r = .ret v)->WI ro Tryz.prog n C Q (.c (lpC items) :: .k (Ex n C (λ s'=>k = .next s') stF RF)::tlI items) (stF s) (RF s)) (hi:isL items=true:=by kernel_rfl) (h0:st=stF s:=by rfl) (h1:R=RF s:=by rfl):WI ro Tryz.prog n C Q items st R:=Za hi f stF RF r fuel s hm h0 h1 h
theorem cB {α:Type} {c:Bool} {x y z:α} (h:(bif c then x else y)=z):(c=true/\x=z)\/(c=false/\y=z):=by cases c;exact .inr ⟨rfl,h⟩;exact .inl ⟨rfl,h⟩
theorem wb {ro:Option Nat} {n:Nat} {C:Ctx} {Q:Exit->Act->World->Prop} {st:St} {R:List Res} {items:List It} (h:WI ro Tryz.prog n C Q (.c (uM items) :: .b (uL items)::tlI items) st R) (hi:isB items=true:=by kernel_rfl):WI ro Tryz.prog n C Q items st R:=uV hi h
theorem co {f:FuncId} {fn:Func} {c:Code} {args:List AV} {res:AV} {R R2:List Res} (n:Nat) (hf:Tryz.prog.funcs[f]? = some fn) (h:∀ C:Ctx,C.h.length<=R.length->WI none Tryz.prog n C.z (Hp Tryz.prog fn C.z res R2) [.c c] (Nu 0 args) R) (hb:fn.body=some c:=by rfl) (hn:fn.ntmps=n:=by rfl) (hl:Nat.ble args.length n=true:=by rfl):CallOk Tryz.prog f args R res R2:=Xf n hf hb hn hl h
theorem wr {ro:Option Nat} {n:Nat} {C:Ctx} {st:St} {R:List Res} {fn:Func} {res:AV} {R2:List Res} {items:List It} (lv:List Nat) (fuel:Nat) (ds:List Bool) (cls:List PC) (adj:List Adj) (k:Nat) (pi:List Nat) (hk:C.h.length<=k) (bs:List PB) (h:Mn Tryz.prog n lv fuel items st R ds (cls.map (·.1)) adj fn.results.toList k pi=some (res,R2,cls.map (·.1),bs.map (·.1)):=by kernel_rfl):WI ro Tryz.prog n C.z (Hp Tryz.prog fn C.z res R2) items st R:=uS mixed lv fuel ds (cls.map (·.1)) adj _ k pi rfl hk (okP cls) (okB bs) h
theorem wf {ro:Option Nat} {n:Nat} {C:Ctx} {st:St} {R:List Res} {fn:Func} {res:AV} {R2:List Res} {items:List It} (lv:List Nat) (fuel:Nat) (ds:List Bool) (cls:List PC) (adj:List Adj) (k:Nat) (pi:List Nat) (hk:C.h.length<=k) (bs:List PB) (hn:Yl (Av fuel items ds)=true:=by kernel_rfl) (h:Mo Tryz.prog n lv fuel items st R ds (cls.map (·.1)) adj fn.results.toList k pi=some (res,R2,cls.map (·.1),bs.map (·.1)):=by kernel_rfl):WI ro Tryz.prog n C.z (Hp Tryz.prog fn C.z res R2) items st R:=qA mixed lv fuel ds (cls.map (·.1)) adj _ k pi rfl hk (okP cls) (okB bs) hn h
theorem en {f : FuncId} {fn : Func} (hf : Tryz.prog.funcs[f]? = some fn) (hb : fn.body.isNone = false := by kernel_rfl) (hn : (fn.name == "runtime.NumGoroutine") = false := by kernel_rfl) : C9 Tryz.prog f := Go.SL.Y1 hf hb hn
abbrev ln {α:Type} (l:List α):Int:=(l.length:Int)
abbrev dI (x:Int):AV:=.d (I x)
abbrev dB (x:Bool):AV:=.d (Bo x)
abbrev dO (a b:Nat):AV:=.d (.o a b)
abbrev dS (a:Nat):AV:=.d (.os a)
theorem k44  (r:(List As)) (h:F44  = r):CO 44 [] [] (.d (DS q76 r)) []:=by
 unfold F44 at h
 refine co 10 Tryz.func44 λ C hC=>?_
 subst h
 exact wr [0] 25 [] [] [] 0 [] hC []
theorem e44:EN 44:=en Tryz.func44
def Q3:List Nat:=[0,1,4,6,7,8,9,10,21]
def P_ (x0:Int) (x1:List Int) (n0:Nat) (z0:Unit):St:=[(0,dI x0),(4,dB false),(7,.d (DS pI x1)),(8,dI (ln x1)),(9,dI (cnt 0 n0))]
def U9  (n0:Nat) (z0:Unit):List Res:=[]
def V8  (z0:Unit):St:=[(4,dB false)]
def Xt  (z0:Unit):List Res:=[]
theorem k30 (x0:Int) (x1:List Int) (r:Bool) (h:F30 x0 x1=some r):CO 30 [.d (I x0),.d (DS pI x1)] [] (.d (Bo r)) []:=by
 unfold F30 at h
 refine co 23 Tryz.func30 λ C hC=>?_
 refine ws Q3 26 [] [pl pI x1] [] 0 [] (P_ x0 x1 0 ()) (U9 0 ()) hC [] ?_
 obtain⟨w0,hm0,hret0,hnext0⟩:=Al h
 clear h
 refine wc w0 (V8) (Xt) ?_ λ z0 hs0=>?_
 ·refine wb ?_
  refine D2 7 rfl λ hl0=>?_
  refine wl (P_ x0 x1) (U9) hm0 (λ z0 hn0=>?_) λ n0 a0 z0 w0b hi0 hx0 h hb0 hr0=>?_
  ·clear hm0
   exact wx w0 (V8) (Xt) Q3 26 [false] [] [] 0 [] _ hC [pq (C4 hl0)] hn0
  ·unfold Kk at h
   rcases cB h with⟨h1,h⟩ | ⟨h1,h⟩
   ·have hq:=hret0 _ (hr0 _ (sI h).symm)
    replace hq:=sI hq
    subst hq
    exact wr Q3 35 [true,true] [pt hx0 hl0] [] 0 [] hC [pq (Bb hi0 hl0),pq h1]
   ·exact wx w0b (P_ x0 x1 (n0+1)) (U9 (n0+1)) Q3 36 [true,false] [pt hx0 hl0] [] 0 [] _ hC [pq (Bb hi0 hl0),pq h1] (sI h).symm
 ·have h:=hnext0 _ hs0
  replace h:=sI h
  subst h
  exact wr Q3 23 [] [] [] 0 [] hC []
theorem e30:EN 30:=en Tryz.func30
theorem k41 (x0:Int) (r:ByteArray) (h:F41 x0=some r):CO 41 [.d (I x0)] [] (.d (.p (.v (.string r)))) []:=vV x0 r h
theorem e41:EN 41:=en Tryz.func41
theorem k42 (x0:List ByteArray) (x1:ByteArray) (r:ByteArray) (h:F42 x0 x1=some r):CO 42 [.d (DS pS x0),.d (.p (.v (.string x1)))] [] (.d (.p (.v (.string r)))) []:=vU x0 x1 r h
theorem e42:EN 42:=en Tryz.func42
def Di:List Nat:=[0,1,4,5,8,9,10,27,28,29]
def Lz (y1:Int) (z0:Sg1):St:=[(0,dO 0 0),(8,dI y1),(9,dI z0.1)]
def Oh (x0:Ab) (z0:Sg1):List Res:=[.box 85 [I x0.time,I x0.weather.Wind.From,I x0.weather.Wind.Speed,I x0.weather.Current.From,I x0.weather.Current.Speed,I x0.weather.Wave.From,I x0.weather.Wave.Speed,I x0.heading,I z0.2.1,I z0.2.2.1,I (g3_ z0),I (g4_ z0),I (g5_ z0),I (g6_ z0),I (g7_ z0),.os 6,.os 7,.os 8,I (g8_ z0),.os 9,.os 10],.non,.non,.non,.non,.non,v2_ (g9_ z0),v3_ (Ed z0),v4_ (Ec z0),v0_ (Eb z0),v1_ (Kz z0)]
def Qk  (z0:Sg1):St:=[]
def Sa (x0:Ab) (z0:Sg1):List Res:=[.box 85 [I x0.time,I x0.weather.Wind.From,I x0.weather.Wind.Speed,I x0.weather.Current.From,I x0.weather.Current.Speed,I x0.weather.Wave.From,I x0.weather.Wave.Speed,I x0.heading,I z0.2.1,I z0.2.2.1,I (g3_ z0),I (g4_ z0),I (g5_ z0),I (g6_ z0),I (g7_ z0),.os 6,.os 7,.os 8,I (g8_ z0),.os 9,.os 10],.non,.non,.non,.non,.non,v2_ (g9_ z0),v3_ (Ed z0),v4_ (Ec z0),v0_ (Eb z0),v1_ (Kz z0)]
def Ly (y1:Int) (z0:Sg1) (z1:Int×(List Ax)):St:=[(0,dO 0 0),(4,dO 11 0),(8,dI y1),(9,dI z0.1),(27,dI (ln (g9_ z0))),(28,dI z1.1)]
def Og (x0:Ab) (z0:Sg1) (z1:Int×(List Ax)):List Res:=[.box 85 [I x0.time,I x0.weather.Wind.From,I x0.weather.Wind.Speed,I x0.weather.Current.From,I x0.weather.Current.Speed,I x0.weather.Wave.From,I x0.weather.Wave.Speed,I x0.heading,I z0.2.1,I z0.2.2.1,I (g3_ z0),I (g4_ z0),I (g5_ z0),I (g6_ z0),I (g7_ z0),.os 6,.os 7,.os 8,I (g8_ z0),.os 9,.os 10],.non,.non,.non,.non,.non,v2_ z1.2,v3_ (Ed z0),v4_ (Ec z0),v0_ (Eb z0),v1_ (Kz z0),.box 60 [I x0.weather.Wind.From,I x0.weather.Wind.Speed,I x0.weather.Current.From,I x0.weather.Current.Speed,I x0.weather.Wave.From,I x0.weather.Wave.Speed,I x0.heading,.os 6,.os 7,.os 8,I (g8_ z0),.os 9]]
def Qj (y1:Int) (z0:Sg1) (z1:Int×(List Ax)):St:=[(0,dO 0 0),(4,dO 11 0),(8,dI y1),(9,dI z0.1)]
def R_ (x0:Ab) (z0:Sg1) (z1:Int×(List Ax)):List Res:=[.box 85 [I x0.time,I x0.weather.Wind.From,I x0.weather.Wind.Speed,I x0.weather.Current.From,I x0.weather.Current.Speed,I x0.weather.Wave.From,I x0.weather.Wave.Speed,I x0.heading,I z0.2.1,I z0.2.2.1,I (g3_ z0),I (g4_ z0),I (g5_ z0),I (g6_ z0),I (g7_ z0),.os 6,.os 7,.os 8,I (g8_ z0),.os 9,.os 10],.non,.non,.non,.non,.non,v2_ z1.2,v3_ (Ed z0),v4_ (Ec z0),v0_ (Eb z0),v1_ (Kz z0),.box 60 [I x0.weather.Wind.From,I x0.weather.Wind.Speed,I x0.weather.Current.From,I x0.weather.Current.Speed,I x0.weather.Wave.From,I x0.weather.Wave.Speed,I x0.heading,.os 6,.os 7,.os 8,I (g8_ z0),.os 9]]
theorem vK (x0:Ab) (x1:List Int) (r:Ab) (h:Vl x0 x1=some r):CO 64 [.d (.o 0 0),.d (DS pI x1)] [.box 85 [I x0.time,I x0.weather.Wind.From,I x0.weather.Wind.Speed,I x0.weather.Current.From,I x0.weather.Current.Speed,I x0.weather.Wave.From,I x0.weather.Wave.Speed,I x0.heading,I x0.next.Weather.Wind.From,I x0.next.Weather.Wind.Speed,I x0.next.Weather.Current.From,I x0.next.Weather.Current.Speed,I x0.next.Weather.Wave.From,I x0.next.Weather.Wave.Speed,I x0.next.Heading,.os 1,.os 2,.os 3,I x0.next.Request,.os 4,.os 5],v2_ x0.next.Sights,v3_ x0.next.Acts,v4_ x0.next.Faults,v0_ x0.next.Seen,v1_ x0.out] (.tup []) [.box 85 [I r.time,I r.weather.Wind.From,I r.weather.Wind.Speed,I r.weather.Current.From,I r.weather.Current.Speed,I r.weather.Wave.From,I r.weather.Wave.Speed,I r.heading,I r.next.Weather.Wind.From,I r.next.Weather.Wind.Speed,I r.next.Weather.Current.From,I r.next.Weather.Current.Speed,I r.next.Weather.Wave.From,I r.next.Weather.Wave.Speed,I r.next.Heading,.os 6,.os 7,.os 8,I r.next.Request,.os 9,.os 10],.non,.non,.non,.non,.non,v2_ r.next.Sights,v3_ r.next.Acts,v4_ r.next.Faults,v0_ r.next.Seen,v1_ r.out]:=by
 unfold Vl at h
 refine co 64 Tryz.func64 λ C hC=>?_
 obtain⟨y1,h2,h⟩:=Ah h
 refine ws Di 23 [] [pr pI h2] [.mv 1,.mv 2,.mv 3,.mv 4,.mv 5] 6 Yo (Lz y1 (0,x0.next.Weather.Wind.From,x0.next.Weather.Wind.Speed,x0.next.Weather.Current.From,x0.next.Weather.Current.Speed,x0.next.Weather.Wave.From,x0.next.Weather.Wave.Speed,x0.next.Heading,x0.next.Request,x0.next.Sights,x0.next.Acts,x0.next.Faults,x0.next.Seen,x0.out)) (Oh x0 (0,x0.next.Weather.Wind.From,x0.next.Weather.Wind.Speed,x0.next.Weather.Current.From,x0.next.Weather.Current.Speed,x0.next.Weather.Wave.From,x0.next.Weather.Wave.Speed,x0.next.Heading,x0.next.Request,x0.next.Sights,x0.next.Acts,x0.next.Faults,x0.next.Seen,x0.out)) hC [] ?_
 obtain⟨w0,hm0,hret0,hnext0⟩:=Al h
 clear h
 refine wc w0 (Qk) (Sa x0) ?_ λ z0 hs0=>?_
 ·refine wb ?_
  refine ww (Lz y1) (Oh x0) hm0 λ z0 w0b h hb0 hr0=>?_
  unfold Sk at h
  rcases cB h with⟨h3,h⟩ | ⟨h3,h⟩
  ·refine ws Di 35 [true] [pl q95 (g9_ z0)] [] 6 Yn (Ly y1 z0 (0,(g9_ z0))) (Og x0 z0 (0,(g9_ z0))) hC [pq h3] ?_
   obtain⟨w1,hm1,hret1,hnext1⟩:=Al h
   clear h
   refine wc w1 (Qj y1 z0) (R_ x0 z0) ?_ λ z1 hs1=>?_
   ·refine wb ?_
    refine ww (Ly y1 z0) (Og x0 z0) hm1 λ z1 w1b h hb1 hr1=>?_
    unfold Sj at h
    rcases cB h with⟨h4,h⟩ | ⟨h4,h⟩
    ·obtain⟨y5,h6,y7,h8,h⟩:=A1 h
     exact wx w1b (Ly y1 z0) (Og x0 z0) Di 33 [true] [pl q60 (Kz z0),pr q95 h6,pu q95 h6 h8] [] 6 Yn _ hC [pq h4] (sI h).symm
    ·exact wx w1 (Qj y1 z0) (R_ x0 z0) Di 26 [false] [] [] 6 Yn (z1.1,z1.2) hC [pq h4] (hb1 _ (sI h).symm)
   ·have h:=hnext1 _ hs1
    refine wn Di 0 [] [] [.frz 6] 6 [0,1,2,3,4,5,7,8,9,10,11] [0,4,8,9] hC [] ?_
    refine wn Di 0 [] [] [.frz 6] 6 [0,1,2,3,4,5,7,8,9,10] [0,4,8,9] hC [] ?_
    refine wn Di 0 [] [] [.frz 6] 6 [0,1,2,3,4,5,7,8,9] [0,4,8,9] hC [] ?_
    refine wn Di 0 [] [] [.frz 6] 6 [0,1,2,3,4,5,7,8] [0,4,8,9] hC [] ?_
    obtain⟨y9,h10,h⟩:=Ah h
    exact wx w0b (Lz y1) (Oh x0) Di 24 [] [pa q60 12 h10] [.ownb 0 15 95 5,.ownb 0 16 87 3,.ownb 0 17 91 4,.ownb 0 19 3 1] 6 [0,1,2,3,4,5,9,10,11,12,8] _ hC [] (sI h).symm
  ·exact wx w0 (Qk) (Sa x0) Di 26 [false] [] [] 6 Yo (z0.1,z0.2.1,z0.2.2.1,(g3_ z0),(g4_ z0),(g5_ z0),(g6_ z0),(g7_ z0),(g8_ z0),(g9_ z0),(Ed z0),(Ec z0),(Eb z0),(Kz z0)) hC [pq h3] (hb0 _ (sI h).symm)
 ·have h:=hnext0 _ hs0
  replace h:=sI h
  subst h
  exact wf Di 20 [] [] [] 6 Yo hC []
theorem vY:EN 64:=en Tryz.func64
theorem vL (x0:Ab) (x1:List Int) (r:Ab) (h:Vm x0 x1=some r):CO 63 [.d (.o 0 0),.d (DS pI x1)] [.box 85 [I x0.time,I x0.weather.Wind.From,I x0.weather.Wind.Speed,I x0.weather.Current.From,I x0.weather.Current.Speed,I x0.weather.Wave.From,I x0.weather.Wave.Speed,I x0.heading,I x0.next.Weather.Wind.From,I x0.next.Weather.Wind.Speed,I x0.next.Weather.Current.From,I x0.next.Weather.Current.Speed,I x0.next.Weather.Wave.From,I x0.next.Weather.Wave.Speed,I x0.next.Heading,.os 1,.os 2,.os 3,I x0.next.Request,.os 4,.os 5],v2_ x0.next.Sights,v3_ x0.next.Acts,v4_ x0.next.Faults,v0_ x0.next.Seen,v1_ x0.out] (.tup []) [.box 85 [I r.time,I r.weather.Wind.From,I r.weather.Wind.Speed,I r.weather.Current.From,I r.weather.Current.Speed,I r.weather.Wave.From,I r.weather.Wave.Speed,I r.heading,I r.next.Weather.Wind.From,I r.next.Weather.Wind.Speed,I r.next.Weather.Current.From,I r.next.Weather.Current.Speed,I r.next.Weather.Wave.From,I r.next.Weather.Wave.Speed,I r.next.Heading,.os 1,.os 2,.os 3,I r.next.Request,.os 6,.os 5],v2_ r.next.Sights,v3_ r.next.Acts,v4_ r.next.Faults,.non,v1_ r.out,v0_ r.next.Seen]:=by
 unfold Vm at h
 refine co 18 Tryz.func63 λ C hC=>?_
 obtain⟨y1,h2,y3,h4,h⟩:=A1 h
 replace h:=sI h
 subst h
 exact wf [0,1] 21 [] [pr pI h2,pa pI 1 h4] [] 6 n7_ hC []
theorem vZ:EN 63:=en Tryz.func63
theorem vM (x0:Ab) (x1:List Int) (r:Ab) (h:Vn x0 x1=some r):CO 62 [.d (.o 0 0),.d (DS pI x1)] [.box 85 [I x0.time,I x0.weather.Wind.From,I x0.weather.Wind.Speed,I x0.weather.Current.From,I x0.weather.Current.Speed,I x0.weather.Wave.From,I x0.weather.Wave.Speed,I x0.heading,I x0.next.Weather.Wind.From,I x0.next.Weather.Wind.Speed,I x0.next.Weather.Current.From,I x0.next.Weather.Current.Speed,I x0.next.Weather.Wave.From,I x0.next.Weather.Wave.Speed,I x0.next.Heading,.os 1,.os 2,.os 3,I x0.next.Request,.os 4,.os 5],v2_ x0.next.Sights,v3_ x0.next.Acts,v4_ x0.next.Faults,v0_ x0.next.Seen,v1_ x0.out] (.tup []) [.box 85 [I r.time,I r.weather.Wind.From,I r.weather.Wind.Speed,I r.weather.Current.From,I r.weather.Current.Speed,I r.weather.Wave.From,I r.weather.Wave.Speed,I r.heading,I r.next.Weather.Wind.From,I r.next.Weather.Wind.Speed,I r.next.Weather.Current.From,I r.next.Weather.Current.Speed,I r.next.Weather.Wave.From,I r.next.Weather.Wave.Speed,I r.next.Heading,.os 1,.os 2,.os 3,I r.next.Request,.os 4,.os 5],v2_ r.next.Sights,v3_ r.next.Acts,v4_ r.next.Faults,v0_ r.next.Seen,v1_ r.out]:=by
 unfold Vn at h
 refine co 11 Tryz.func62 λ C hC=>?_
 obtain⟨y1,h2,h⟩:=Ah h
 replace h:=sI h
 subst h
 exact wf [0,1] 21 [] [pr pI h2] [] 6 n6_ hC []
theorem yA:EN 62:=en Tryz.func62
theorem vN (x0:Ab) (x1:List Int) (r:Ab) (h:Vo x0 x1=some r):CO 61 [.d (.o 0 0),.d (DS pI x1)] [.box 85 [I x0.time,I x0.weather.Wind.From,I x0.weather.Wind.Speed,I x0.weather.Current.From,I x0.weather.Current.Speed,I x0.weather.Wave.From,I x0.weather.Wave.Speed,I x0.heading,I x0.next.Weather.Wind.From,I x0.next.Weather.Wind.Speed,I x0.next.Weather.Current.From,I x0.next.Weather.Current.Speed,I x0.next.Weather.Wave.From,I x0.next.Weather.Wave.Speed,I x0.next.Heading,.os 1,.os 2,.os 3,I x0.next.Request,.os 4,.os 5],v2_ x0.next.Sights,v3_ x0.next.Acts,v4_ x0.next.Faults,v0_ x0.next.Seen,v1_ x0.out] (.tup []) [.box 85 [I r.time,I r.weather.Wind.From,I r.weather.Wind.Speed,I r.weather.Current.From,I r.weather.Current.Speed,I r.weather.Wave.From,I r.weather.Wave.Speed,I r.heading,I r.next.Weather.Wind.From,I r.next.Weather.Wind.Speed,I r.next.Weather.Current.From,I r.next.Weather.Current.Speed,I r.next.Weather.Wave.From,I r.next.Weather.Wave.Speed,I r.next.Heading,.os 6,.os 2,.os 3,I r.next.Request,.os 4,.os 5],.non,v3_ r.next.Acts,v4_ r.next.Faults,v0_ r.next.Seen,v1_ r.out,v2_ r.next.Sights]:=by
 unfold Vo at h
 refine co 29 Tryz.func61 λ C hC=>?_
 obtain⟨y1,h2,y3,h4,y5,h6,h⟩:=Fq h
 obtain⟨y7,h8,y9,h10,h⟩:=A1 h
 replace h:=sI h
 subst h
 exact wf [0,1] 21 [] [pr pI h2,pr pI h4,pr pI h6,pr pI h8,pa q95 5 h10] [] 6 n7_ hC []
theorem yB:EN 61:=en Tryz.func61
theorem vO (x0:Ab) (x1:List Int) (r:Ab) (h:Vp x0 x1=some r):CO 60 [.d (.o 0 0),.d (DS pI x1)] [.box 85 [I x0.time,I x0.weather.Wind.From,I x0.weather.Wind.Speed,I x0.weather.Current.From,I x0.weather.Current.Speed,I x0.weather.Wave.From,I x0.weather.Wave.Speed,I x0.heading,I x0.next.Weather.Wind.From,I x0.next.Weather.Wind.Speed,I x0.next.Weather.Current.From,I x0.next.Weather.Current.Speed,I x0.next.Weather.Wave.From,I x0.next.Weather.Wave.Speed,I x0.next.Heading,.os 1,.os 2,.os 3,I x0.next.Request,.os 4,.os 5],v2_ x0.next.Sights,v3_ x0.next.Acts,v4_ x0.next.Faults,v0_ x0.next.Seen,v1_ x0.out] (.tup []) [.box 85 [I r.time,I r.weather.Wind.From,I r.weather.Wind.Speed,I r.weather.Current.From,I r.weather.Current.Speed,I r.weather.Wave.From,I r.weather.Wave.Speed,I r.heading,I r.next.Weather.Wind.From,I r.next.Weather.Wind.Speed,I r.next.Weather.Current.From,I r.next.Weather.Current.Speed,I r.next.Weather.Wave.From,I r.next.Weather.Wave.Speed,I r.next.Heading,.os 1,.os 2,.os 3,I r.next.Request,.os 4,.os 5],v2_ r.next.Sights,v3_ r.next.Acts,v4_ r.next.Faults,v0_ r.next.Seen,v1_ r.out]:=by
 unfold Vp at h
 refine co 35 Tryz.func60 λ C hC=>?_
 obtain⟨y1,h2,y3,h4,y5,h6,y7,h8,h⟩:=G0 h
 obtain⟨y9,h10,y11,h12,y13,h14,h⟩:=Fq h
 replace h:=sI h
 subst h
 exact wf [0,1] 23 [] [pr pI h2,pr pI h4,pr pI h6,pr pI h8,pr pI h10,pr pI h12,pr pI h14] [] 6 n6_ hC []
theorem yC:EN 60:=en Tryz.func60
theorem Zr (x0:Ab) (x1:Int) (x2:List Int) (r:Ab) (h:Pz x0 x1 x2=some r):CO 58 [.d (.o 0 0),.d (I x1),.d (DS pI x2)] [.box 85 [I x0.time,I x0.weather.Wind.From,I x0.weather.Wind.Speed,I x0.weather.Current.From,I x0.weather.Current.Speed,I x0.weather.Wave.From,I x0.weather.Wave.Speed,I x0.heading,I x0.next.Weather.Wind.From,I x0.next.Weather.Wind.Speed,I x0.next.Weather.Current.From,I x0.next.Weather.Current.Speed,I x0.next.Weather.Wave.From,I x0.next.Weather.Wave.Speed,I x0.next.Heading,.os 1,.os 2,.os 3,I x0.next.Request,.os 4,.os 5],v2_ x0.next.Sights,v3_ x0.next.Acts,v4_ x0.next.Faults,v0_ x0.next.Seen,v1_ x0.out] (.tup []) [.box 85 [I r.time,I r.weather.Wind.From,I r.weather.Wind.Speed,I r.weather.Current.From,I r.weather.Current.Speed,I r.weather.Wave.From,I r.weather.Wave.Speed,I r.heading,I r.next.Weather.Wind.From,I r.next.Weather.Wind.Speed,I r.next.Weather.Current.From,I r.next.Weather.Current.Speed,I r.next.Weather.Wave.From,I r.next.Weather.Wave.Speed,I r.next.Heading,.os 1,.os 2,.os 6,I r.next.Request,.os 4,.os 5],v2_ r.next.Sights,v3_ r.next.Acts,.non,v0_ r.next.Seen,v1_ r.out,v4_ r.next.Faults]:=by
 unfold Pz at h
 refine co 26 Tryz.func58 λ C hC=>?_
 obtain⟨y1,h2,y3,h4,y5,h6,h⟩:=Fq h
 replace h:=sI h
 subst h
 exact wf n3_ 21 [] [pr pI h2,pr pI h4,pa q91 4 h6] [] 6 n7_ hC []
theorem Zu:EN 58:=en Tryz.func58
theorem vR (x0:Ab) (x1:List Int) (r:Ab) (h:Vs x0 x1=some r):CO 56 [.d (.o 0 0),.d (DS pI x1)] [.box 85 [I x0.time,I x0.weather.Wind.From,I x0.weather.Wind.Speed,I x0.weather.Current.From,I x0.weather.Current.Speed,I x0.weather.Wave.From,I x0.weather.Wave.Speed,I x0.heading,I x0.next.Weather.Wind.From,I x0.next.Weather.Wind.Speed,I x0.next.Weather.Current.From,I x0.next.Weather.Current.Speed,I x0.next.Weather.Wave.From,I x0.next.Weather.Wave.Speed,I x0.next.Heading,.os 1,.os 2,.os 3,I x0.next.Request,.os 4,.os 5],v2_ x0.next.Sights,v3_ x0.next.Acts,v4_ x0.next.Faults,v0_ x0.next.Seen,v1_ x0.out] (.tup []) [.box 85 [I r.time,I r.weather.Wind.From,I r.weather.Wind.Speed,I r.weather.Current.From,I r.weather.Current.Speed,I r.weather.Wave.From,I r.weather.Wave.Speed,I r.heading,I r.next.Weather.Wind.From,I r.next.Weather.Wind.Speed,I r.next.Weather.Current.From,I r.next.Weather.Current.Speed,I r.next.Weather.Wave.From,I r.next.Weather.Wave.Speed,I r.next.Heading,.os 1,.os 6,.os 3,I r.next.Request,.os 4,.os 5],v2_ r.next.Sights,.non,v4_ r.next.Faults,v0_ r.next.Seen,v1_ r.out,v3_ r.next.Acts]:=by
 unfold Vs at h
 refine co 25 Tryz.func56 λ C hC=>?_
 obtain⟨y1,h2,y3,h4,y5,h6,y7,h8,h⟩:=G0 h
 replace h:=sI h
 subst h
 exact wf [0,1] 21 [] [pr pI h2,pr pI h4,pr pI h6,pa q87 3 h8] [] 6 n7_ hC []
theorem yF:EN 56:=en Tryz.func56
theorem k6 (x0:List Int) (r:Ad) (h:F6 x0=some r):CO 6 [.d (DS pI x0)] [] (.d (.o 0 0)) [.box 62 (d62 r)]:=by
 unfold F6 at h
 refine co 10 Tryz.func6 λ C hC=>?_
 obtain⟨y2,h1,h⟩:=Ah h
 replace h:=sI h
 subst h
 exact wr [0,2] 25 [] [pl pI x0,⟨.cut (x0.map pI) 1 0 (min (ln x0) 600) (y2.map pI),Tv pI 1 (λ _=>rfl) h1⟩] [] 0 [0] hC []
theorem e6:EN 6:=en Tryz.func6
theorem k18 (x0:Int) (x1:Int) (r:Int) (h:F18 x0 x1=some r):CO 18 [.d (I x0),.d (I x1)] [] (.d (I r)) []:=by
 unfold F18 at h
 refine co 14 Tryz.func18 λ C hC=>?_
 rcases cB h with⟨h1,h⟩ | ⟨h1,h⟩
 ·replace h:=sI h
  subst h
  exact wr [0,1,4,6] 29 [true] [] [] 0 [] hC [pq h1]
 ·obtain⟨u3,h2,u5,h4,h⟩:=A1 h
  replace h:=sI h
  subst h
  exact wr [0,1,4,6] 30 [false] [⟨.nz x1,Dg h2⟩,⟨.nz x1,Dg h4⟩] [] 0 [] hC [pq h1]
theorem e18:EN 18:=en Tryz.func18
theorem k43  (r:E2) (h:F43  = r):CO 43 [] [] (.agg (uI r)) []:=by
 unfold F43 at h
 refine co 2 Tryz.func43 λ C hC=>?_
 subst h
 exact wr [0] 25 [] [] [] 0 [] hC []
theorem e43:EN 43:=en Tryz.func43
def He:List Nat:=[0,2,3,4,5,6,14,33,37,49,60]
def Qm (x0:ByteArray) (z0:ByteArray):St:=[(0,.d (.p (.v (.string x0)))),(2,dI 0),(3,dB false),(4,.d (.p (.v (.string z0))))]
def Sc  (z0:ByteArray):List Res:=[]
def P8 (x0:ByteArray) (z0:ByteArray) (z1:Int×Int):St:=[(0,.d (.p (.v (.string x0)))),(2,dI 0),(3,dB false),(4,.d (.p (.v (.string z0)))),(5,dI z1.1),(6,dI z1.2)]
def U7  (z1:Int×Int):List Res:=[]
def V3 (x0:ByteArray) (z1:Int×Int):St:=[(0,.d (.p (.v (.string x0)))),(2,dI 0),(3,dB false),(5,dI z1.1)]
def Xo  (z1:Int×Int):List Res:=[]
theorem k51 (x0:ByteArray) (r:Int×Bool) (h:F51 x0=some r):CO 51 [.d (.p (.v (.string x0)))] [] (.tup [.d (I r.1),.d (Bo r.2)]) []:=by
 unfold F51 at h
 refine co 64 Tryz.func51 λ C hC=>?_
 obtain⟨y1,h2,h⟩:=Ah h
 refine wn He 28 [] [⟨.when [(!(x0.toList==(⟨#[]⟩:ByteArray).toList),true)] (.byte x0 0 y1),λ hg=>Bc (Aw h2 hg)⟩] [] 0 [] [0,2,3,4,14] hC [] ?_
 obtain⟨w0,h,hret0,hnext0⟩:=Al h
 refine wc w0 (Qm x0) (Sc) ?_ λ z0 hs0=>?_
 ·unfold Ig at h
  rcases cB h with⟨h3,h⟩ | ⟨h3,h⟩
  ·obtain⟨u5,h4,h⟩:=Ah h
   exact wx w0 (Qm x0) (Sc) He 23 [true] [⟨.bnd x0.size 1 (x0.size:Int) (x0.size:Int),K6 rfl rfl h4⟩] [] 0 [] _ hC [pq h3] (sI h).symm
  ·exact wx w0 (Qm x0) (Sc) He 23 [false] [] [] 0 [] _ hC [pq h3] (sI h).symm
 ·clear h;have h:=hnext0 _ hs0
  obtain⟨y6,h7,h⟩:=Ah h
  rcases cB h with⟨h8,h⟩ | ⟨h8,h⟩
  ·replace h:=sI h
   subst h
   exact wr He 27 [true] [⟨.when [(((decide ((z0.size:Int)<1)) || (decide ((z0.size:Int)>10))),false)] (.byte z0 0 y6),λ hg=>Bc (Aw h7 hg)⟩] [] 0 [] hC [pq h8]
  ·refine ws He 31 [false] [⟨.when [(((decide ((z0.size:Int)<1)) || (decide ((z0.size:Int)>10))),false)] (.byte z0 0 y6),λ hg=>Bc (Aw h7 hg)⟩] [] 0 [] (P8 x0 z0 (0,0)) (U7 (0,0)) hC [pq h8] ?_
   obtain⟨w1,hm1,hret1,hnext1⟩:=Al h
   clear h
   refine wc w1 (V3 x0) (Xo) ?_ λ z1 hs1=>?_
   ·refine wb ?_
    refine ww (P8 x0 z0) (U7) hm1 λ z1 w1b h hb1 hr1=>?_
    unfold Dp at h
    rcases cB h with⟨h9,h⟩ | ⟨h9,h⟩
    ·obtain⟨y10,h11,y12,h13,h⟩:=A1 h
     rcases cB h with⟨h14,h⟩ | ⟨h14,h⟩
     ·have hq:=hret1 _ (hr1 _ (sI h).symm)
      replace hq:=sI hq
      subst hq
      exact wr He 34 [true,true] [⟨.byte z0 z1.2 y10,Bc h11⟩,⟨.when [(decide ((y10.toNat:Int)<48),false)] (.byte z0 z1.2 y12),λ hg=>Bc (Aw h13 hg)⟩] [] 0 [] hC [pq h9,pq h14]
     ·obtain⟨y15,h16,h⟩:=Ah h
      exact wx w1b (P8 x0 z0) (U7) He 36 [true,false] [⟨.byte z0 z1.2 y10,Bc h11⟩,⟨.when [(decide ((y10.toNat:Int)<48),false)] (.byte z0 z1.2 y12),λ hg=>Bc (Aw h13 hg)⟩,⟨.byte z0 z1.2 y15,Bc h16⟩] [] 0 [] _ hC [pq h9,pq h14] (sI h).symm
    ·exact wx w1 (V3 x0) (Xo) He 26 [false] [] [] 0 [] (z1.1,z1.2) hC [pq h9] (hb1 _ (sI h).symm)
   ·have h:=hnext1 _ hs1
    obtain⟨y17,h18,h⟩:=Ah h
    rcases cB h with⟨h19,h⟩ | ⟨h19,h⟩
    ·replace h:=sI h
     subst h
     exact wr He 28 [true] [⟨.byte x0 0 y17,Bc h18⟩] [] 0 [] hC [pq h19]
    ·replace h:=sI h
     subst h
     exact wr He 28 [false] [⟨.byte x0 0 y17,Bc h18⟩] [] 0 [] hC [pq h19]
theorem e51:EN 51:=en Tryz.func51
theorem k31  (r:Ih) (h:F31  = r):CO 31 [] [] (.agg (d80 r)) []:=by
 unfold F31 at h
 refine co 2 Tryz.func31 λ C hC=>?_
 subst h
 exact wr [0] 25 [] [] [] 0 [] hC []
theorem e31:EN 31:=en Tryz.func31
theorem uA (x0:Int) (h1:I9 x0=true):CO 29 [.d (I x0)] [] (.tup [.agg [.p (.v (.string ByteArray.empty)),I 0,.p (.v .nilFunc)],.d (Bo false)]) []:=by
 refine co 20 Tryz.func29 λ C hC=>?_
 exact wr [0,2,3,4,13] 31 [true] [pc e44 (k44 _ rfl) [],pL_ [(decide (x0<1),false)] q76 F44] [] 0 [] hC [pq h1]
theorem Hf (x0:Int) (r:As) (h1:I9 x0=false) (h:getI F44 (w64 (x0-1))=some r):CO 29 [.d (I x0)] [] (.tup [.agg (d76 r),.d (Bo true)]) []:=by
 refine co 20 Tryz.func29 λ C hC=>?_
 exact wr [0,2,3,4,13] 32 [false] [pc e44 (k44 _ rfl) [],pL_ [(decide (x0<1),false)] q76 F44,pr q76 h] [] 0 [] hC [pq h1]
theorem e29:EN 29:=en Tryz.func29
theorem vP (x0:Ab) (x1:List Int) (r:Ab) (h:Vq x0 x1=some r):CO 59 [.d (.o 0 0),.d (DS pI x1)] [.box 85 [I x0.time,I x0.weather.Wind.From,I x0.weather.Wind.Speed,I x0.weather.Current.From,I x0.weather.Current.Speed,I x0.weather.Wave.From,I x0.weather.Wave.Speed,I x0.heading,I x0.next.Weather.Wind.From,I x0.next.Weather.Wind.Speed,I x0.next.Weather.Current.From,I x0.next.Weather.Current.Speed,I x0.next.Weather.Wave.From,I x0.next.Weather.Wave.Speed,I x0.next.Heading,.os 1,.os 2,.os 3,I x0.next.Request,.os 4,.os 5],v2_ x0.next.Sights,v3_ x0.next.Acts,v4_ x0.next.Faults,v0_ x0.next.Seen,v1_ x0.out] (.tup []) [.box 85 [I r.time,I r.weather.Wind.From,I r.weather.Wind.Speed,I r.weather.Current.From,I r.weather.Current.Speed,I r.weather.Wave.From,I r.weather.Wave.Speed,I r.heading,I r.next.Weather.Wind.From,I r.next.Weather.Wind.Speed,I r.next.Weather.Current.From,I r.next.Weather.Current.Speed,I r.next.Weather.Wave.From,I r.next.Weather.Wave.Speed,I r.next.Heading,.os 1,.os 2,.os 6,I r.next.Request,.os 4,.os 5],v2_ r.next.Sights,v3_ r.next.Acts,.non,v0_ r.next.Seen,v1_ r.out,v4_ r.next.Faults]:=by
 unfold Vq at h
 refine co 7 Tryz.func59 λ C hC=>?_
 obtain⟨y1,h2,h⟩:=Ah h
 replace h:=sI h
 subst h
 exact wf [0,1] 21 [] [pc Zu (Zr x0 2 x1 _ h2) n6_] [] 6 n7_ hC []
theorem yD:EN 59:=en Tryz.func59
theorem vQ (x0:Ab) (x1:List Int) (r:Ab) (h:Vr x0 x1=some r):CO 57 [.d (.o 0 0),.d (DS pI x1)] [.box 85 [I x0.time,I x0.weather.Wind.From,I x0.weather.Wind.Speed,I x0.weather.Current.From,I x0.weather.Current.Speed,I x0.weather.Wave.From,I x0.weather.Wave.Speed,I x0.heading,I x0.next.Weather.Wind.From,I x0.next.Weather.Wind.Speed,I x0.next.Weather.Current.From,I x0.next.Weather.Current.Speed,I x0.next.Weather.Wave.From,I x0.next.Weather.Wave.Speed,I x0.next.Heading,.os 1,.os 2,.os 3,I x0.next.Request,.os 4,.os 5],v2_ x0.next.Sights,v3_ x0.next.Acts,v4_ x0.next.Faults,v0_ x0.next.Seen,v1_ x0.out] (.tup []) [.box 85 [I r.time,I r.weather.Wind.From,I r.weather.Wind.Speed,I r.weather.Current.From,I r.weather.Current.Speed,I r.weather.Wave.From,I r.weather.Wave.Speed,I r.heading,I r.next.Weather.Wind.From,I r.next.Weather.Wind.Speed,I r.next.Weather.Current.From,I r.next.Weather.Current.Speed,I r.next.Weather.Wave.From,I r.next.Weather.Wave.Speed,I r.next.Heading,.os 1,.os 2,.os 6,I r.next.Request,.os 4,.os 5],v2_ r.next.Sights,v3_ r.next.Acts,.non,v0_ r.next.Seen,v1_ r.out,v4_ r.next.Faults]:=by
 unfold Vr at h
 refine co 7 Tryz.func57 λ C hC=>?_
 obtain⟨y1,h2,h⟩:=Ah h
 replace h:=sI h
 subst h
 exact wf [0,1] 21 [] [pc Zu (Zr x0 1 x1 _ h2) n6_] [] 6 n7_ hC []
theorem yE:EN 57:=en Tryz.func57
def Fv:List Nat:=[0,1,4,5,6,11,13,14,15,42,48,49,50,68]
def Qf (x0:List Aa) (x1:List Aa) (n0:Nat) (z0:Unit):St:=[(0,.d (DS q26 x0)),(1,.d (DS q26 x1)),(4,dB false),(13,dI (ln x0)),(14,dI (cnt 0 n0))]
def Vg  (n0:Nat) (z0:Unit):List Res:=[]
def Wd  (z0:Unit):St:=[(4,dB false)]
def Xz  (z0:Unit):List Res:=[]
def Qe (x0:List Aa) (x1:List Aa) (n0:Nat) (a0:Aa) (z1:Int):St:=[(0,.d (DS q26 x0)),(1,.d (DS q26 x1)),(4,dB false),(5,dI (cnt 0 n0)),(13,dI (ln x0)),(14,dI (cnt 0 n0)),(48,dI (ln a0.Numbers)),(49,dI z1)]
def Vf  (z1:Int):List Res:=[]
def Wc (x0:List Aa) (x1:List Aa) (n0:Nat) (z1:Int):St:=[(0,.d (DS q26 x0)),(1,.d (DS q26 x1)),(4,dB false),(13,dI (ln x0)),(14,dI (cnt 0 n0))]
def Xy  (z1:Int):List Res:=[]
theorem k22 (x0 : List Aa) (x1 : List Aa) (r : Bool) (h : F22 x0 x1 = some r) : CO 22 [.d (DS q26 x0), .d (DS q26 x1)] [] (.d (Bo r)) [] := by
 unfold F22 at h
 refine co 71 Tryz.func22 λ C hC=>?_
 rcases cB h with⟨h1,h⟩ | ⟨h1,h⟩
 ·replace h:=sI h
  subst h
  exact wr Fv 29 [true] [pl q26 x0,pl q26 x1] [] 0 [] hC [pq h1]
 ·refine ws Fv 31 [false] [pl q26 x0,pl q26 x1,pl q26 x0] [] 0 [] (Qf x0 x1 0 ()) (Vg 0 ()) hC [pq h1] ?_
  obtain⟨w0,hm0,hret0,hnext0⟩:=Al h
  clear h
  refine wc w0 (Wd) (Xz) ?_ λ z0 hs0=>?_
  ·refine wb ?_
   refine D2 0 rfl λ hl0=>?_
   refine wl (Qf x0 x1) (Vg) hm0 (λ z0 hn0=>?_) λ n0 a0 z0 w0b hi0 hx0 h hb0 hr0=>?_
   ·clear hm0
    exact wx w0 (Wd) (Xz) Fv 26 [false] [] [] 0 [] _ hC [pq (C4 hl0)] hn0
   ·unfold Sl at h
    obtain⟨y2,h3,y4,h5,h⟩:=A1 h
    refine wn Fv 33 [true] [pt hx0 hl0,pr q26 h3,⟨.when [((a0.Kind != y2.Kind),false)] (.row (x0.map q26) (cnt 0 n0) (q26 a0)),λ hg=>(Tk hx0 hl0)⟩,pL_ [((a0.Kind != y2.Kind),false)] pI a0.Numbers,pR q26 h5,pL_ [((a0.Kind != y2.Kind),false)] pI y4.Numbers] [] 0 [] [0,1,4,5,13,14,42] hC [pq (Bb hi0 hl0)] ?_
    rcases cB h with⟨h6,h⟩ | ⟨h6,h⟩
    ·have hq:=hret0 _ (hr0 _ (sI h).symm)
     replace hq:=sI hq
     subst hq
     exact wr Fv 24 [true] [] [] 0 [] hC [pq h6]
    ·refine ws Fv 25 [false] [pt hx0 hl0,pl pI a0.Numbers] [] 0 [] (Qe x0 x1 n0 a0 0) (Vf 0) hC [pq h6] ?_
     obtain⟨w1,hm1,hret1,hnext1⟩:=Al h
     clear h
     refine wc w1 (Wc x0 x1 n0) (Xy) ?_ λ z1 hs1=>?_
     ·refine wb ?_
      refine ww (Qe x0 x1 n0 a0) (Vf) hm1 λ z1 w1b h hb1 hr1=>?_
      unfold Kn at h
      rcases cB h with⟨h7,h⟩ | ⟨h7,h⟩
      ·obtain⟨y8,h9,y10,h11,y12,h13,h⟩:=Fq h
       refine wn Fv 32 [true] [pt hx0 hl0,pr pI h9,pr q26 h11,pr pI h13] [] 0 [] [0,1,4,5,13,14,48,49,68] hC [pq h7] ?_
       rcases cB h with⟨h14,h⟩ | ⟨h14,h⟩
       ·have hq:=hret1 _ (hr1 _ (sI h).symm)
        replace hq:=hret0 _ (hr0 _ (sI hq).symm)
        replace hq:=sI hq
        subst hq
        exact wr Fv 24 [true] [] [] 0 [] hC [pq h14]
       ·exact wx w1b (Qe x0 x1 n0 a0) (Vf) Fv 25 [false] [] [] 0 [] _ hC [pq h14] (sI h).symm
      ·exact wx w1 (Wc x0 x1 n0) (Xy) Fv 26 [false] [] [] 0 [] z1 hC [pq h7] (hb1 _ (sI h).symm)
     ·have h:=hnext1 _ hs1
      exact wx w0b (Qf x0 x1 (n0+1)) (Vg (n0+1)) Fv 23 [] [] [] 0 [] _ hC [] (sI h).symm
  ·have h:=hnext0 _ hs0
   replace h:=sI h
   subst h
   exact wr Fv 23 [] [] [] 0 [] hC []
theorem e22:EN 22:=en Tryz.func22
theorem k13 (x0:Aa) (r:Bool) (h:F13 x0=some r):CO 13 [.agg (d26 x0)] [] (.d (Bo r)) []:=by
 unfold F13 at h
 refine co 44 Tryz.func13 λ C hC=>?_
 rcases cB h with⟨h1,h⟩ | ⟨h1,h⟩
 ·obtain⟨y2,h3,h⟩:=Ah h
  replace h:=sI h
  subst h
  exact wr [0,1,2,3,4,26] 31 [true] [pc e29 (uA x0.Kind h1) [],pL_ [(true,false)] pI x0.Numbers,pw e30 (λ hg=>k30 1000000000 x0.Numbers _ (Aw h3 hg)) []] [] 0 [] hC [⟨(true,true),rfl⟩]
 ·obtain⟨y4,h5,y6,h7,h⟩:=A1 h
  refine wn [0,1,2,3,4,26] 28 [] [pc e29 (Hf x0.Kind y4 h1 h5) [],pL_ [(false,false)] pI x0.Numbers,pw e30 (λ hg=>k30 1000000000 x0.Numbers _ (Aw h7 hg)) []] [] 0 [0] [1,2,26] hC [] ?_
  rcases cB h with⟨h8,h⟩ | ⟨h8,h⟩
  ·replace h:=sI h
   subst h
   exact wr [0,1,2,3,4,26] 24 [true] [] [] 0 [] hC [pq h8]
  ·obtain⟨y9,h10,y11,h12,h⟩:=A1 h
   replace h:=sI h
   subst h
   exact wr [0,1,2,3,4,26] 25 [false] [pR pI h10,pR pI h12] [] 0 [] hC [pq h8]
theorem e13:EN 13:=en Tryz.func13
def J2:List Nat:=[0,1,2,3,5,7,18,19,20,21]
def Qc (x0:Aa) (n0:Nat) (z0:(List ByteArray)):St:=[(2,.d (.p (.v (.string (⟨#[]⟩:ByteArray))))),(5,dS 0),(18,.d (DS pI x0.Numbers)),(19,dI (ln x0.Numbers)),(20,dI (cnt 0 n0))]
def Vd  (n0:Nat) (z0:(List ByteArray)):List Res:=[.sl 9 1 (z0.map pS)]
def Wa  (z0:(List ByteArray)):St:=[(2,.d (.p (.v (.string (⟨#[]⟩:ByteArray))))),(5,dS 0)]
def Xw  (z0:(List ByteArray)):List Res:=[.sl 9 1 (z0.map pS)]
def Qb (x0:Aa) (n1:Nat) (z1:(List ByteArray)):St:=[(2,.d (.p (.v (.string (⟨#[]⟩:ByteArray))))),(5,dS 0),(18,.d (DS pI x0.Numbers)),(19,dI (ln x0.Numbers)),(20,dI (cnt 0 n1))]
def Vb  (n1:Nat) (z1:(List ByteArray)):List Res:=[.sl 9 1 (z1.map pS)]
def V_  (z1:(List ByteArray)):St:=[(2,.d (.p (.v (.string (⟨#[]⟩:ByteArray))))),(5,dS 0)]
def Xv  (z1:(List ByteArray)):List Res:=[.sl 9 1 (z1.map pS)]
theorem k26 (x0:Aa) (r:ByteArray) (h:F26 x0=some r):CO 26 [.agg (d26 x0)] [] (.d (.p (.v (.string r)))) []:=by
 unfold F26 at h
 refine co 33 Tryz.func26 λ C hC=>?_
 rcases cB h with⟨h1,h⟩ | ⟨h1,h⟩
 ·refine ws J2 30 [] [pc e29 (uA x0.Kind h1) [],⟨.own,trivial⟩,pl pI x0.Numbers] [] 0 [2] (Qc x0 0 [ByteArray.empty]) (Vd 0 [ByteArray.empty]) hC [] ?_
  obtain⟨w0,hm0,hret0,hnext0⟩:=Al h
  clear h
  refine wc w0 (Wa) (Xw) ?_ λ z0 hs0=>?_
  ·refine wb ?_
   refine D2 18 rfl λ hl0=>?_
   refine wl (Qc x0) (Vd) hm0 (λ z0 hn0=>?_) λ n0 a0 z0 w0b hi0 hx0 h hb0 hr0=>?_
   ·clear hm0
    exact wx w0 (Wa) (Xw) J2 26 [false] [] [] 0 [0] _ hC [pq (C4 hl0)] hn0
   ·unfold X6 at h
    obtain⟨y2,h3,y4,h5,h⟩:=A1 h
    exact wx w0b (Qc x0 (n0+1)) (Vd (n0+1)) J2 33 [true] [pt hx0 hl0,pc e41 (k41 a0 _ h3) [],pa pS 1 h5] [] 0 [1] _ hC [pq (Bb hi0 hl0)] (sI h).symm
  ·have h:=hnext0 _ hs0
   obtain⟨y6,h7,u9,h8,h⟩:=A1 h
   replace h:=sI h
   subst h
   exact wr J2 23 [] [pb e42 (k42 z0 (⟨#[32]⟩:ByteArray) _ h7),⟨.nz (B7 y6 (⟨#[10]⟩:ByteArray)),Dg h8⟩] [] 0 [] hC []
 ·obtain⟨y10,h11,h⟩:=Ah h
  refine ws J2 30 [] [pc e29 (Hf x0.Kind y10 h1 h11) [],⟨.own,trivial⟩,pl pI x0.Numbers] [] 0 [2] (Qb x0 0 [y10.word]) (Vb 0 [y10.word]) hC [] ?_
  obtain⟨w1,hm1,hret1,hnext1⟩:=Al h
  clear h
  refine wc w1 (V_) (Xv) ?_ λ z1 hs1=>?_
  ·refine wb ?_
   refine D2 18 rfl λ hl1=>?_
   refine wl (Qb x0) (Vb) hm1 (λ z1 hn1=>?_) λ n1 a1 z1 w1b hi1 hx1 h hb1 hr1=>?_
   ·clear hm1
    exact wx w1 (V_) (Xv) J2 26 [false] [] [] 0 [0] _ hC [pq (C4 hl1)] hn1
   ·unfold Km at h
    obtain⟨y12,h13,y14,h15,h⟩:=A1 h
    exact wx w1b (Qb x0 (n1+1)) (Vb (n1+1)) J2 33 [true] [pt hx1 hl1,pc e41 (k41 a1 _ h13) [],pa pS 1 h15] [] 0 [1] _ hC [pq (Bb hi1 hl1)] (sI h).symm
  ·have h:=hnext1 _ hs1
   obtain⟨y16,h17,u19,h18,h⟩:=A1 h
   replace h:=sI h
   subst h
   exact wr J2 23 [] [pb e42 (k42 z1 (⟨#[32]⟩:ByteArray) _ h17),⟨.nz (B7 y16 (⟨#[10]⟩:ByteArray)),Dg h18⟩] [] 0 [] hC []
theorem k8 (x0:Ad) (x1:Int) (r:Int×Ad) (h:F8 x0 x1=some r):CO 8 [.d (.o 0 0),.d (I x1)] [.box 62 (d62 x0)] (.d (I r.1)) [.box 62 (d62 r.2)]:=by
 unfold F8 at h
 refine co 35 Tryz.func8 λ C hC=>?_
 rcases cB h with⟨h1,h⟩ | ⟨h1,h⟩
 ·replace h:=sI h
  subst h
  exact wr [0,1,4,14] 29 [true] [pl pI x0.L] [] 1 [0] hC [pq h1]
 ·obtain⟨y2,h3,y4,h5,h⟩:=A1 h
  replace h:=sI h
  subst h
  exact wr [0,1,4,14] 32 [false] [pl pI x0.L,pr pI h3,pc e18 (k18 y2 x1 _ h5) []] [] 1 [0] hC [pq h1]
theorem e8:EN 8:=en Tryz.func8
theorem k20 (x0:ByteArray) (r:List Aa×Int×Int) (h:F20 x0=some r):CO 20 [.d (.p (.v (.string x0)))] [] (.tup [.d (DS q26 r.1),.d (I r.2.1),.d (I r.2.2)]) []:=qV F13 F26 k13 k26 x0 r h
theorem e20:EN 20:=en Tryz.func20
def Q2:List Nat:=[0,2,3,5,6,7,8,9,18]
def Mu (x0:List Aa) (n0:Nat) (z0:Int):St:=[(2,dI 0),(3,dI z0),(6,.d (DS q26 x0)),(7,dI (ln x0)),(8,dI (cnt 0 n0))]
def Pw  (n0:Nat) (z0:Int):List Res:=[]
def V7  (z0:Int):St:=[(2,dI 0),(3,dI z0)]
def Xs  (z0:Int):List Res:=[]
theorem k32 (x0:List Aa) (r:Int) (h:F32 x0=some r):CO 32 [.d (DS q26 x0)] [] (.d (I r)) []:=by
 unfold F32 at h
 refine co 27 Tryz.func32 λ C hC=>?_
 refine ws Q2 28 [] [pl q26 x0] [] 0 [] (Mu x0 0 0) (Pw 0 0) hC [] ?_
 obtain⟨w0,hm0,hret0,hnext0⟩:=Al h
 clear h
 refine wc w0 (V7) (Xs) ?_ λ z0 hs0=>?_
 ·refine wb ?_
  refine D2 6 rfl λ hl0=>?_
  refine wl (Mu x0) (Pw) hm0 (λ z0 hn0=>?_) λ n0 a0 z0 w0b hi0 hx0 h hb0 hr0=>?_
  ·clear hm0
   exact wx w0 (V7) (Xs) Q2 26 [false] [] [] 0 [] _ hC [pq (C4 hl0)] hn0
  ·unfold X5 at h
   obtain⟨y1,h2,h⟩:=Ah h
   rcases cB h with⟨h3,h⟩ | ⟨h3,h⟩
   ·obtain⟨y4,h5,h⟩:=Ah h
    exact wx w0b (Mu x0 (n0+1)) (Pw (n0+1)) Q2 36 [true,true] [pt hx0 hl0,pw e13 (λ hg=>k13 a0 _ (Aw h2 hg)) [],pr pI h5] [] 0 [] _ hC [pq (Bb hi0 hl0),pq h3] (sI h).symm
   ·exact wx w0b (Mu x0 (n0+1)) (Pw (n0+1)) Q2 36 [true,false] [pt hx0 hl0,pw e13 (λ hg=>k13 a0 _ (Aw h2 hg)) []] [] 0 [] _ hC [pq (Bb hi0 hl0),pq h3] (sI h).symm
 ·have h:=hnext0 _ hs0
  replace h:=sI h
  subst h
  exact wr Q2 23 [] [] [] 0 [] hC []
theorem e32:EN 32:=en Tryz.func32
theorem k39 (x0:Aa) (r:Bool) (h:F39 x0=some r):CO 39 [.agg (d26 x0)] [] (.d (Bo r)) []:=by
 unfold F39 at h
 refine co 6 Tryz.func39 λ C hC=>?_
 obtain⟨y1,h2,h⟩:=Ah h
 replace h:=sI h
 subst h
 exact wr n3_ 25 [] [pc e13 (k13 x0 _ h2) []] [] 0 [] hC []
theorem e39:EN 39:=en Tryz.func39
theorem k9 (x0:Ad) (x1:Int) (x2:Int) (r:Int×Ad) (h:F9 x0 x1 x2=some r):CO 9 [.d (.o 0 0),.d (I x1),.d (I x2)] [.box 62 (d62 x0)] (.d (I r.1)) [.box 62 (d62 r.2)]:=by
 unfold F9 at h
 refine co 15 Tryz.func9 λ C hC=>?_
 obtain⟨y1,h2,h⟩:=Ah h
 replace h:=sI h
 subst h
 exact wr [0,1,2,6] 25 [] [pc e8 (k8 x0 (w64 ((w64 (x2-x1))+1)) _ h2) [0]] [] 1 [0] hC []
theorem e9:EN 9:=en Tryz.func9
theorem k10 (x0:Ad) (x1:List Int) (r:Int×Ad) (h:F10 x0 x1=some r):CO 10 [.d (.o 0 0),.d (DS pI x1)] [.box 62 (d62 x0)] (.d (I r.1)) [.box 62 (d62 r.2)]:=by
 unfold F10 at h
 refine co 12 Tryz.func10 λ C hC=>?_
 obtain⟨y1,h2,y3,h4,h⟩:=A1 h
 replace h:=sI h
 subst h
 exact wr [0,1,4] 25 [] [pl pI x1,pc e8 (k8 x0 (ln x1) _ h2) [0],pr pI h4] [] 1 [0] hC []
theorem e10:EN 10:=en Tryz.func10
theorem k19 (x0:Ad) (x1:List ByteArray) (r:ByteArray×Ad) (h:F19 x0 x1=some r):CO 19 [.d (.o 0 0),.d (DS pS x1)] [.box 62 (d62 x0)] (.d (.p (.v (.string r.1)))) [.box 62 (d62 r.2)]:=by
 unfold F19 at h
 refine co 12 Tryz.func19 λ C hC=>?_
 obtain⟨y1,h2,y3,h4,h⟩:=A1 h
 replace h:=sI h
 subst h
 exact wr [0,1,4] 25 [] [pl pS x1,pc e8 (k8 x0 (ln x1) _ h2) [0],pr pS h4] [] 1 [0] hC []
theorem e19:EN 19:=en Tryz.func19
def J1:List Nat:=[0,1,4,5,7,8,9,16]
def L3 (x0:List Aa) (n0:Nat) (z0:Unit):St:=[(0,.d (DS q26 x0)),(1,.d (.fn (.func 39) [] [])),(4,dI 0),(7,dI (ln x0)),(8,dI (cnt 0 n0))]
def Oi  (n0:Nat) (z0:Unit):List Res:=[]
def Ql  (z0:Unit):St:=[(4,dI 0)]
def Sb  (z0:Unit):List Res:=[]
theorem vS (x0:List Aa) (r:Int) (h:P0 x0=some r):CO 52 [.d (DS q26 x0),.d (.fn (.func 39) [] [])] [] (.d (I r)) []:=by
 unfold P0 at h
 refine co 19 Tryz.func52 λ C hC=>?_
 refine ws J1 26 [] [pl q26 x0] [] 0 [] (L3 x0 0 ()) (Oi 0 ()) hC [] ?_
 obtain⟨w0,hm0,hret0,hnext0⟩:=Al h
 clear h
 refine wc w0 (Ql) (Sb) ?_ λ z0 hs0=>?_
 ·refine wb ?_
  refine D2 0 rfl λ hl0=>?_
  refine wl (L3 x0) (Oi) hm0 (λ z0 hn0=>?_) λ n0 a0 z0 w0b hi0 hx0 h hb0 hr0=>?_
  ·clear hm0
   exact wx w0 (Ql) (Sb) J1 26 [false] [] [] 0 [] _ hC [pq (C4 hl0)] hn0
  ·unfold Ml at h
   obtain⟨y1,h2,h⟩:=Ah h
   rcases cB h with⟨h3,h⟩ | ⟨h3,h⟩
   ·have hq:=hret0 _ (hr0 _ (sI h).symm)
    replace hq:=sI hq
    subst hq
    exact wr J1 35 [true,true] [pt hx0 hl0,pc e39 (k39 a0 _ h2) []] [] 0 [] hC [pq (Bb hi0 hl0),pq h3]
   ·exact wx w0b (L3 x0 (n0+1)) (Oi (n0+1)) J1 36 [true,false] [pt hx0 hl0,pc e39 (k39 a0 _ h2) []] [] 0 [] _ hC [pq (Bb hi0 hl0),pq h3] (sI h).symm
 ·have h:=hnext0 _ hs0
  replace h:=sI h
  subst h
  exact wr J1 23 [] [] [] 0 [] hC []
theorem yG:EN 52:=en Tryz.func52
def Qd  (z0:Int×(List Int)×Int×(List Int)):St:=[(0,dO 0 0),(2,dO 1 0),(3,dO 2 0),(4,dI z0.1)]
def Ve (y1:Int×Ad) (z0:Int×(List Int)×Int×(List Int)):List Res:=[.box 62 [DS pI z0.2.1,I z0.2.2.1],.box 26 [I 0,.os 3],.box 26 [I y1.1,.os 4],v0_ ([]:List Int),v0_ (Uk z0)]
def Wb  (z0:Int×(List Int)×Int×(List Int)):St:=[(0,dO 0 0),(2,dO 1 0),(3,dO 2 0)]
def Xx (y1:Int×Ad) (z0:Int×(List Int)×Int×(List Int)):List Res:=[.box 62 [DS pI z0.2.1,I z0.2.2.1],.box 26 [I 0,.os 3],.box 26 [I y1.1,.os 4],v0_ ([]:List Int),v0_ (Uk z0)]
theorem k23 (x0:Ad) (r:Aa×Ad) (h:F23 x0=some r):CO 23 [.d (.o 0 0)] [.box 62 (d62 x0)] (.agg [I r.1.Kind,.os 1]) [.box 62 (d62 r.2),v0_ r.1.Numbers]:=by
 unfold F23 at h
 refine co 35 Tryz.func23 λ C hC=>?_
 obtain⟨y1,h2,y3,h4,h⟩:=A1 h
 refine ws [0,2,3,4,14,27] 28 [] [pc e9 (k9 x0 1 8 _ h2) [0],pr pI h4] [.ownb 1 1 3 1,.ownb 2 1 3 1] 1 n5_ (Qd (y3,y1.2.L,y1.2.At,([]:List Int))) (Ve y1 (y3,y1.2.L,y1.2.At,([]:List Int))) hC [] ?_
 obtain⟨w0,hm0,hret0,hnext0⟩:=Al h
 clear h
 refine wc w0 (Wb) (Xx y1) ?_ λ z0 hs0=>?_
 ·refine wb ?_
  refine ww (Qd) (Ve y1) hm0 λ z0 w0b h hb0 hr0=>?_
  unfold Nv at h
  rcases cB h with⟨h5,h⟩ | ⟨h5,h⟩
  ·obtain⟨y6,h7,y8,h9,h⟩:=A1 h
   exact wx w0b (Qd) (Ve y1) [0,2,3,4,14,27] 31 [true] [pc e10 (k10 (⟨z0.2.1,z0.2.2.1⟩:Ad) [0,1,2,3,5,100,(-7),1000000000,(-1000000000)] _ h7) [0],pa pI 1 h9] [] 1 [0,1,2,3,5] _ hC [pq h5] (sI h).symm
  ·exact wx w0 (Wb) (Xx y1) [0,2,3,4,14,27] 26 [false] [] [] 1 n5_ (z0.1,z0.2.1,z0.2.2.1,(Uk z0)) hC [pq h5] (hb0 _ (sI h).symm)
 ·have h:=hnext0 _ hs0
  rcases cB h with⟨h10,h⟩ | ⟨h10,h⟩
  ·obtain⟨y11,h12,y13,h14,y15,h16,h⟩:=Fq h
   replace h:=sI h
   subst h
   exact wr [0,2,3,4,14,27] 28 [true] [pc e10 (k10 (⟨z0.2.1,z0.2.2.1⟩:Ad) [1,2,3,20,60] _ h12) [0],pr pI h14,pu pI h14 h16] [] 1 [0,4] hC [pq h10]
  ·replace h:=sI h
   subst h
   exact wr [0,2,3,4,14,27] 28 [false] [] [] 1 [0,4] hC [pq h10]
theorem e23:EN 23:=en Tryz.func23
theorem vT (x0:List Aa) (r:Bool) (h:P3 x0=some r):CO 38 [.d (DS q26 x0),.d (.fn (.func 39) [] [])] [] (.d (Bo r)) []:=by
 unfold P3 at h
 refine co 9 Tryz.func38 λ C hC=>?_
 obtain⟨y1,h2,h⟩:=Ah h
 replace h:=sI h
 subst h
 exact wr [0,1,4] 25 [] [pc yG (vS x0 _ h2) []] [] 0 [] hC []
theorem yH:EN 38:=en Tryz.func38
def Tz  (z0:Sg0):St:=[(0,dO 0 0),(4,.d (DS q26 [])),(5,dS 1),(6,dI z0.1)]
def Zd  (z0:Sg0):List Res:=[.box 62 [DS pI z0.2.1,I z0.2.2.1],.sl 26 2 (z0.2.2.2.map q26)]
def Zk  (z0:Sg0):St:=[(4,.d (DS q26 [])),(5,dS 1)]
def Z0  (z0:Sg0):List Res:=[.box 62 [DS pI z0.2.1,I z0.2.2.1],.sl 26 2 (z0.2.2.2.map q26)]
theorem k7 (x0:Ad) (x1:Int) (r:(List Aa)×Ad) (h:F7 x0 x1=some r):CO 7 [.d (.o 0 0),.d (I x1)] [.box 62 (d62 x0)] (.d (.os 1)) [.box 62 (d62 r.2),.sl 26 2 (r.1.map q26)]:=by
 unfold F7 at h
 refine co 21 Tryz.func7 λ C hC=>?_
 obtain⟨y1,h2,h⟩:=Ah h
 refine ws [0,1,4,5,6,12] 28 [] [pc e8 (k8 x0 (w64 (x1+1)) _ h2) [0]] [.own 5 26 2] 1 [0,1] (Tz (y1.1,y1.2.L,y1.2.At,([]:List Aa))) (Zd (y1.1,y1.2.L,y1.2.At,([]:List Aa))) hC [] ?_
 obtain⟨w0,hm0,hret0,hnext0⟩:=Al h
 clear h
 refine wc w0 (Zk) (Z0) ?_ λ z0 hs0=>?_
 ·refine wb ?_
  refine ww (Tz) (Zd) hm0 λ z0 w0b h hb0 hr0=>?_
  unfold Vk at h
  rcases cB h with⟨h3,h⟩ | ⟨h3,h⟩
  ·obtain⟨y6,h7,y8,h9,h⟩:=A1 h
   exact wx w0b (Tz) (Zd) [0,1,4,5,6,12] 31 [true] [⟨.call 23 [dO 0 0] [.box 62 [DS pI z0.2.1,I z0.2.2.1]] (.agg (d26 y6.1)) [.box 62 (d62 y6.2),.non] [0],⟨e23,(CallOk.frzAll [1] (show CO 23 [dO 0 0] [.box 62 [DS pI z0.2.1,I z0.2.2.1]] (.agg [I y6.1.Kind,.os 1]) [.box 62 (d62 y6.2),v0_ y6.1.Numbers] from (k23 (⟨z0.2.1,z0.2.2.1⟩:Ad) _ h7)) (by kernel_rfl))⟩⟩,pa q26 2 h9] [] 1 [0,3] _ hC [pq h3] (sI h).symm
  ·exact wx w0 (Zk) (Z0) [0,1,4,5,6,12] 26 [false] [] [] 1 [0,1] (z0.1,z0.2.1,z0.2.2.1,(Uk z0)) hC [pq h3] (hb0 _ (sI h).symm)
 ·have h:=hnext0 _ hs0
  replace h:=sI h
  subst h
  exact wr [0,1,4,5,6,12] 23 [] [] [] 1 [0,1] hC []
theorem e7:EN 7:=en Tryz.func7
theorem k24 (x0:List Aa) (r:Bool) (h:F24 x0=some r):CO 24 [.d (DS q26 x0)] [] (.d (Bo r)) []:=by
 unfold F24 at h
 refine co 5 Tryz.func24 λ C hC=>?_
 obtain⟨y1,h2,h⟩:=Ah h
 replace h:=sI h
 subst h
 exact wr [0,2] 25 [] [pc yH (vT x0 _ h2) []] [] 0 [] hC []
theorem e24:EN 24:=en Tryz.func24
def Fw:List Nat:=[0,1,4,5,6,8,9,18,19,22,32,33,34,35]
def Dx (x0:List Aa) (n0:Nat) (z0:Sg2):St:=[(4,.d (DS q60 [])),(5,dI 0),(6,dO 0 0),(32,.d (DS q26 x0)),(33,dI (ln x0)),(34,dI (cnt 0 n0))]
def Fe  (n0:Nat) (z0:Sg2):List Res:=[.box 85 [I z0.1,I z0.2.1,I z0.2.2.1,I (g3_ z0),I (g4_ z0),I (g5_ z0),I (g6_ z0),I (g7_ z0),I (g8_ z0),I (g9_ z0),I (Ed z0),I (Ec z0),I (Eb z0),I (Hm z0),I (Hl z0),.os 1,.os 2,.os 3,I (Hk z0),.os 4,.os 5],v2_ (Hj z0),v3_ (Hi z0),v4_ (Hh z0),v0_ (Hg z0),v1_ (Fb z0)]
def Wg  (z0:Sg2):St:=[(4,.d (DS q60 [])),(5,dI 0),(6,dO 0 0)]
def X2  (z0:Sg2):List Res:=[.box 85 [I z0.1,I z0.2.1,I z0.2.2.1,I (g3_ z0),I (g4_ z0),I (g5_ z0),I (g6_ z0),I (g7_ z0),I (g8_ z0),I (g9_ z0),I (Ed z0),I (Ec z0),I (Eb z0),I (Hm z0),I (Hl z0),.os 1,.os 2,.os 3,I (Hk z0),.os 4,.os 5],v2_ (Hj z0),v3_ (Hi z0),v4_ (Hh z0),v0_ (Hg z0),v1_ (Fb z0)]
set_option maxHeartbeats 4000000 in
theorem k15 (x0 : List Aa) (x1 : Int) (r : (List Ai) × Int) (h : F15 x0 x1 = some r) : CO 15 [.d (DS q26 x0), .d (I x1)] [] (.tup [.d (.os 0), .d (I r.2)]) [v1_ r.1] := by
 unfold F15 at h
 refine co 55 Tryz.func15 λ C hC=>?_
 obtain⟨y1,h2,h⟩:=Ah h
 rcases cB h with⟨h3,h⟩ | ⟨h3,h⟩
 ·cases h
 ·obtain ⟨y4, h5, h⟩ := Ah h
  refine wn Fw 32 [false] [pl q26 x0,pw e32 (λ hg=>k32 x0 _ (Aw h2 hg)) [],pc e24 (k24 x0 _ h5) []] [] 0 [] [0,1,4,5,19] hC [pq h3] ?_
  rcases cB h with⟨h6,h⟩ | ⟨h6,h⟩
  ·cases h
  ·rcases cB h with ⟨h7, h⟩ | ⟨h7, h⟩
   ·cases h
   ·refine ws Fw 32 [false, false] [pl q26 x0] [.ownb 0 15 95 5, .ownb 0 16 87 3, .ownb 0 17 91 4, .ownb 0 19 3 1, .ownb 0 20 60 12] 0 n6_ (Dx x0 0 (x1, 0, 0, 0, 0, 0, 0, 0, 0, 0, 0, 0, 0, 0, 0, 0, ([] : List Ax), ([] : List C5), ([] : List B9), ([] : List Int), ([] : List Ai))) (Fe 0 (x1, 0, 0, 0, 0, 0, 0, 0, 0, 0, 0, 0, 0, 0, 0, 0, ([] : List Ax), ([] : List C5), ([] : List B9), ([] : List Int), ([] : List Ai))) hC [pq h6, pq h7] ?_
    obtain⟨w0,hm0,hret0,hnext0⟩:=Al h
    clear h
    refine wc w0 (Wg) (X2) ?_ λ z0 hs0=>?_
    ·refine wb ?_
     refine D2 32 rfl λ hl0=>?_
     refine wl (Dx x0) (Fe) hm0 (λ z0 hn0=>?_) λ n0 a0 z0 w0b hi0 hx0 h hb0 hr0=>?_
     ·clear hm0
      exact wx w0 (Wg) (X2) Fw 26 [false] [] [] 0 n6_ _ hC [pq (C4 hl0)] hn0
     ·unfold X7 at h
      rcases cB h with⟨h8,h⟩ | ⟨h8,h⟩
      ·cases h
      ·obtain ⟨y9, h10, h⟩ := Ah h
       rcases cB h with⟨h32,h⟩ | ⟨h32,h⟩
       ·obtain⟨y33,h34,h⟩:=Ah h
        exact wx w0b (Dx x0 (n0+1)) (Fe (n0+1)) Fw 35 [true] [pt hx0 hl0,pc e29 (Hf a0.Kind y9 h8 h10) [],⟨.fnv (.func (.func y9.say) #[] #[]) 56,Eg h32⟩,pc yF (vR (⟨z0.1,(⟨(⟨z0.2.1,z0.2.2.1⟩:Ac),(⟨(g3_ z0),(g4_ z0)⟩:Ac),(⟨(g5_ z0),(g6_ z0)⟩:Ac)⟩:Af),(g7_ z0),(⟨(⟨(⟨(g8_ z0),(g9_ z0)⟩:Ac),(⟨(Ed z0),(Ec z0)⟩:Ac),(⟨(Eb z0),(Hm z0)⟩:Ac)⟩:Af),(Hl z0),(Hj z0),(Hi z0),(Hh z0),(Hk z0),(Hg z0)⟩:Ai),(Fb z0)⟩:Ab) a0.Numbers _ h34) n6_] [] 0 [0,1,8,3,4,5] _ hC [pq (Bb hi0 hl0)] (sI h).symm
       ·rcases cB h with ⟨h29, h⟩ | ⟨h29, h⟩
        ·obtain⟨y30,h31,h⟩:=Ah h
         exact wx w0b (Dx x0 (n0+1)) (Fe (n0+1)) Fw 35 [true] [pt hx0 hl0,pc e29 (Hf a0.Kind y9 h8 h10) [],⟨.fnv (.func (.func y9.say) #[] #[]) 57,Eg h29⟩,pc yE (vQ (⟨z0.1,(⟨(⟨z0.2.1,z0.2.2.1⟩:Ac),(⟨(g3_ z0),(g4_ z0)⟩:Ac),(⟨(g5_ z0),(g6_ z0)⟩:Ac)⟩:Af),(g7_ z0),(⟨(⟨(⟨(g8_ z0),(g9_ z0)⟩:Ac),(⟨(Ed z0),(Ec z0)⟩:Ac),(⟨(Eb z0),(Hm z0)⟩:Ac)⟩:Af),(Hl z0),(Hj z0),(Hi z0),(Hh z0),(Hk z0),(Hg z0)⟩:Ai),(Fb z0)⟩:Ab) a0.Numbers _ h31) n6_] [] 0 [0,1,2,8,4,5] _ hC [pq (Bb hi0 hl0)] (sI h).symm
        ·rcases cB h with⟨h26,h⟩ | ⟨h26,h⟩
         ·obtain⟨y27,h28,h⟩:=Ah h
          exact wx w0b (Dx x0 (n0+1)) (Fe (n0+1)) Fw 35 [true] [pt hx0 hl0,pc e29 (Hf a0.Kind y9 h8 h10) [],⟨.fnv (.func (.func y9.say) #[] #[]) 59,Eg h26⟩,pc yD (vP (⟨z0.1,(⟨(⟨z0.2.1,z0.2.2.1⟩:Ac),(⟨(g3_ z0),(g4_ z0)⟩:Ac),(⟨(g5_ z0),(g6_ z0)⟩:Ac)⟩:Af),(g7_ z0),(⟨(⟨(⟨(g8_ z0),(g9_ z0)⟩:Ac),(⟨(Ed z0),(Ec z0)⟩:Ac),(⟨(Eb z0),(Hm z0)⟩:Ac)⟩:Af),(Hl z0),(Hj z0),(Hi z0),(Hh z0),(Hk z0),(Hg z0)⟩:Ai),(Fb z0)⟩:Ab) a0.Numbers _ h28) n6_] [] 0 [0,1,2,8,4,5] _ hC [pq (Bb hi0 hl0)] (sI h).symm
         ·rcases cB h with⟨h23,h⟩ | ⟨h23,h⟩
          ·obtain⟨y24,h25,h⟩:=Ah h
           exact wx w0b (Dx x0 (n0+1)) (Fe (n0+1)) Fw 35 [true] [pt hx0 hl0,pc e29 (Hf a0.Kind y9 h8 h10) [],⟨.fnv (.func (.func y9.say) #[] #[]) 60,Eg h23⟩,pc yC (vO (⟨z0.1,(⟨(⟨z0.2.1,z0.2.2.1⟩:Ac),(⟨(g3_ z0),(g4_ z0)⟩:Ac),(⟨(g5_ z0),(g6_ z0)⟩:Ac)⟩:Af),(g7_ z0),(⟨(⟨(⟨(g8_ z0),(g9_ z0)⟩:Ac),(⟨(Ed z0),(Ec z0)⟩:Ac),(⟨(Eb z0),(Hm z0)⟩:Ac)⟩:Af),(Hl z0),(Hj z0),(Hi z0),(Hh z0),(Hk z0),(Hg z0)⟩:Ai),(Fb z0)⟩:Ab) a0.Numbers _ h25) n6_] [] 0 n6_ _ hC [pq (Bb hi0 hl0)] (sI h).symm
          ·rcases cB h with⟨h20,h⟩ | ⟨h20,h⟩
           ·obtain⟨y21,h22,h⟩:=Ah h
            exact wx w0b (Dx x0 (n0+1)) (Fe (n0+1)) Fw 35 [true] [pt hx0 hl0,pc e29 (Hf a0.Kind y9 h8 h10) [],⟨.fnv (.func (.func y9.say) #[] #[]) 61,Eg h20⟩,pc yB (vN (⟨z0.1,(⟨(⟨z0.2.1,z0.2.2.1⟩:Ac),(⟨(g3_ z0),(g4_ z0)⟩:Ac),(⟨(g5_ z0),(g6_ z0)⟩:Ac)⟩:Af),(g7_ z0),(⟨(⟨(⟨(g8_ z0),(g9_ z0)⟩:Ac),(⟨(Ed z0),(Ec z0)⟩:Ac),(⟨(Eb z0),(Hm z0)⟩:Ac)⟩:Af),(Hl z0),(Hj z0),(Hi z0),(Hh z0),(Hk z0),(Hg z0)⟩:Ai),(Fb z0)⟩:Ab) a0.Numbers _ h22) n6_] [] 0 [0,8,2,3,4,5] _ hC [pq (Bb hi0 hl0)] (sI h).symm
           ·rcases cB h with⟨h17,h⟩ | ⟨h17,h⟩
            ·obtain⟨y18,h19,h⟩:=Ah h
             exact wx w0b (Dx x0 (n0+1)) (Fe (n0+1)) Fw 35 [true] [pt hx0 hl0,pc e29 (Hf a0.Kind y9 h8 h10) [],⟨.fnv (.func (.func y9.say) #[] #[]) 62,Eg h17⟩,pc yA (vM (⟨z0.1,(⟨(⟨z0.2.1,z0.2.2.1⟩:Ac),(⟨(g3_ z0),(g4_ z0)⟩:Ac),(⟨(g5_ z0),(g6_ z0)⟩:Ac)⟩:Af),(g7_ z0),(⟨(⟨(⟨(g8_ z0),(g9_ z0)⟩:Ac),(⟨(Ed z0),(Ec z0)⟩:Ac),(⟨(Eb z0),(Hm z0)⟩:Ac)⟩:Af),(Hl z0),(Hj z0),(Hi z0),(Hh z0),(Hk z0),(Hg z0)⟩:Ai),(Fb z0)⟩:Ab) a0.Numbers _ h19) n6_] [] 0 n6_ _ hC [pq (Bb hi0 hl0)] (sI h).symm
            ·rcases cB h with⟨h14,h⟩ | ⟨h14,h⟩
             ·obtain⟨y15,h16,h⟩:=Ah h
              exact wx w0b (Dx x0 (n0+1)) (Fe (n0+1)) Fw 35 [true] [pt hx0 hl0,pc e29 (Hf a0.Kind y9 h8 h10) [],⟨.fnv (.func (.func y9.say) #[] #[]) 63,Eg h14⟩,pc vZ (vL (⟨z0.1,(⟨(⟨z0.2.1,z0.2.2.1⟩:Ac),(⟨(g3_ z0),(g4_ z0)⟩:Ac),(⟨(g5_ z0),(g6_ z0)⟩:Ac)⟩:Af),(g7_ z0),(⟨(⟨(⟨(g8_ z0),(g9_ z0)⟩:Ac),(⟨(Ed z0),(Ec z0)⟩:Ac),(⟨(Eb z0),(Hm z0)⟩:Ac)⟩:Af),(Hl z0),(Hj z0),(Hi z0),(Hh z0),(Hk z0),(Hg z0)⟩:Ai),(Fb z0)⟩:Ab) a0.Numbers _ h16) n6_] [] 0 [0,1,2,3,8,5] _ hC [pq (Bb hi0 hl0)] (sI h).symm
             ·rcases cB h with⟨h11,h⟩ | ⟨h11,h⟩
              ·obtain⟨y12,h13,h⟩:=Ah h
               exact wx w0b (Dx x0 (n0+1)) (Fe (n0+1)) Fw 35 [true] [pt hx0 hl0,pc e29 (Hf a0.Kind y9 h8 h10) [],⟨.fnv (.func (.func y9.say) #[] #[]) 64,Eg h11⟩,pc vY (vK (⟨z0.1,(⟨(⟨z0.2.1,z0.2.2.1⟩:Ac),(⟨(g3_ z0),(g4_ z0)⟩:Ac),(⟨(g5_ z0),(g6_ z0)⟩:Ac)⟩:Af),(g7_ z0),(⟨(⟨(⟨(g8_ z0),(g9_ z0)⟩:Ac),(⟨(Ed z0),(Ec z0)⟩:Ac),(⟨(Eb z0),(Hm z0)⟩:Ac)⟩:Af),(Hl z0),(Hj z0),(Hi z0),(Hh z0),(Hk z0),(Hg z0)⟩:Ai),(Fb z0)⟩:Ab) a0.Numbers _ h13) n6_] [] 0 [0,8,9,10,11,12] _ hC [pq (Bb hi0 hl0)] (sI h).symm
              ·cases h
    ·have h:=hnext0 _ hs0
     replace h:=sI h
     subst h
     exact wr Fw 23 [] [] [] 0 [5] hC []
theorem e15:EN 15:=en Tryz.func15
theorem k11 (x0:List Aa) (r:ByteArray×Int) (h:F11 x0=some r):CO 11 [.d (DS q26 x0)] [] (.tup [.d (.p (.v (.string r.1))),.d (I r.2)]) []:=jJ F24 F26 k24 k26 x0 r h
theorem e11:EN 11:=en Tryz.func11
theorem k5  (r:Bool) (h:F5  = some r):CO 5 [] [] (.d (Bo r)) []:=by
 unfold F5 at h
 refine co 78 Tryz.func5 λ C hC=>?_
 obtain⟨y1,h2,y3,h4,y5,h6,y7,h8,h⟩:=G0 h
 obtain⟨y9,h10,y11,h12,h⟩:=A1 h
 replace h:=sI h
 subst h
 exact wr [0,1,2,3,4,5,6,7,9,10] 33 [] [pc e20 (k20 (⟨#[98,114,101,97,107,32,49,32,48,10,116,105,99,107,32,50,10]⟩:ByteArray) _ h2) [],pc e15 (k15 y1.1 5 _ h4) [],pc e11 (k11 y1.1 _ h6) [],pc e20 (k20 (⟨#[116,105,99,107,32,49,10,116,105,99,107,32,48,49,10]⟩:ByteArray) _ h8) [],pL_ [(((((y1.2.2==0)&&(y1.2.1==0))&&(y3.2==0))&&(y5.2==0)),true)] q60 y3.1,pR q60 h10,pN q60 h10,pL_ [((((((y1.2.2==0)&&(y1.2.1==0))&&(y3.2==0))&&(y5.2==0))&&((ln y3.1)==2)),true)] q91 y9.Faults,pR q60 h12,pN q60 h12,pL_ [(((((((y1.2.2==0)&&(y1.2.1==0))&&(y3.2==0))&&(y5.2==0))&&((ln y3.1)==2))&&((ln y9.Faults)==1)),true)] q91 y11.Faults] [] 0 [] hC []
theorem e5:EN 5:=en Tryz.func5
def L9:List Nat:=[0,1,2,4,23,25,26,27,28,36]
def Qh (x0:Aa) (n0:Nat) (z0:Unit):St:=[(1,dO 0 0),(2,dB false),(25,.d (DS pI x0.Numbers)),(26,dI (ln x0.Numbers)),(27,dI (cnt 0 n0))]
def Vi (x0:Aa) (n0:Nat) (z0:Unit):List Res:=[.box 26 (d26 x0)]
def Wh  (z0:Unit):St:=[(1,dO 0 0),(2,dB false)]
def X3 (x0:Aa) (z0:Unit):List Res:=[.box 26 (d26 x0)]
theorem k14 (x0:Aa) (r:Bool) (h:F14 x0=some r):CO 14 [.agg (d26 x0)] [] (.d (Bo r)) []:=by
 unfold F14 at h
 refine co 55 Tryz.func14 λ C hC=>?_
 obtain⟨y1,h2,h⟩:=Ah h
 refine wn L9 26 [] [pL_ [(((decide (x0.Kind<1)) || (decide (x0.Kind>8))),false)] pI x0.Numbers,⟨.when [(((decide (x0.Kind<1)) || (decide (x0.Kind>8))),false)] (.call 31 [] [] (.agg (d80 F31)) [] []),λ hg=>⟨e31,(k31  _ rfl)⟩⟩,⟨.when [(((decide (x0.Kind<1)) || (decide (x0.Kind>8))),false)] (.idx (([F31.e0,F31.e1,F31.e2,F31.e3,F31.e4,F31.e5,F31.e6,F31.e7]:List Int).map pI) (w64 (x0.Kind-1)) (pI y1)),λ hg=>H0 (Aw h2 hg)⟩] [] 0 [0] [1,2,23] hC [] ?_
 rcases cB h with⟨h3,h⟩ | ⟨h3,h⟩
 ·replace h:=sI h
  subst h
  exact wr L9 24 [true] [] [] 0 [] hC [pq h3]
 ·refine ws L9 26 [false] [pl pI x0.Numbers] [] 0 [0] (Qh x0 0 ()) (Vi x0 0 ()) hC [pq h3] ?_
  obtain⟨w0,hm0,hret0,hnext0⟩:=Al h
  clear h
  refine wc w0 (Wh) (X3 x0) ?_ λ z0 hs0=>?_
  ·refine wb ?_
   refine D2 25 rfl λ hl0=>?_
   refine wl (Qh x0) (Vi x0) hm0 (λ z0 hn0=>?_) λ n0 a0 z0 w0b hi0 hx0 h hb0 hr0=>?_
   ·clear hm0
    exact wx w0 (Wh) (X3 x0) L9 26 [false] [] [] 0 [0] _ hC [pq (C4 hl0)] hn0
   ·unfold Kp at h
    rcases cB h with⟨h4,h⟩ | ⟨h4,h⟩
    ·have hq:=hret0 _ (hr0 _ (sI h).symm)
     replace hq:=sI hq
     subst hq
     exact wr L9 35 [true,true] [pt hx0 hl0] [] 0 [] hC [pq (Bb hi0 hl0),pq h4]
    ·exact wx w0b (Qh x0 (n0+1)) (Vi x0 (n0+1)) L9 36 [true,false] [pt hx0 hl0] [] 0 [0] _ hC [pq (Bb hi0 hl0),pq h4] (sI h).symm
  ·have h:=hnext0 _ hs0
   obtain⟨y5,h6,y7,h8,h⟩:=A1 h
   replace h:=sI h
   subst h
   exact wr L9 23 [] [pR pI h6,pR pI h8] [] 0 [] hC []
theorem e14:EN 14:=en Tryz.func14
def Ub:List Nat:=[0,1,2,3,5,12,13,14,15]
def Qa (x0:Aa) (n0:Nat) (z0:ByteArray):St:=[(2,.d (.p (.v (.string (⟨#[]⟩:ByteArray))))),(3,.d (.p (.v (.string z0)))),(12,.d (DS pI x0.Numbers)),(13,dI (ln x0.Numbers)),(14,dI (cnt 0 n0))]
def U_  (n0:Nat) (z0:ByteArray):List Res:=[]
def V9  (z0:ByteArray):St:=[(2,.d (.p (.v (.string (⟨#[]⟩:ByteArray))))),(3,.d (.p (.v (.string z0))))]
def Xu  (z0:ByteArray):List Res:=[]
theorem k28 (x0:Aa) (r:ByteArray) (h:F28 x0=some r):CO 28 [.agg (d26 x0)] [] (.d (.p (.v (.string r)))) []:=by
 unfold F28 at h
 refine co 26 Tryz.func28 λ C hC=>?_
 obtain⟨y1,h2,h⟩:=Ah h
 refine ws Ub 28 [] [pc e43 (k43  _ rfl) [],⟨.idx (([F43.e0,F43.e1,F43.e2,F43.e3,F43.e4,F43.e5,F43.e6,F43.e7]:List ByteArray).map pS) (w64 (x0.Kind-1)) (pS y1),H0 h2⟩,pl pI x0.Numbers] [] 0 [] (Qa x0 0 y1) (U_ 0 y1) hC [] ?_
 obtain⟨w0,hm0,hret0,hnext0⟩:=Al h
 clear h
 refine wc w0 (V9) (Xu) ?_ λ z0 hs0=>?_
 ·refine wb ?_
  refine D2 12 rfl λ hl0=>?_
  refine wl (Qa x0) (U_) hm0 (λ z0 hn0=>?_) λ n0 a0 z0 w0b hi0 hx0 h hb0 hr0=>?_
  ·clear hm0
   exact wx w0 (V9) (Xu) Ub 26 [false] [] [] 0 [] _ hC [pq (C4 hl0)] hn0
  ·unfold Kl at h
   obtain⟨y3,h4,u6,h5,u8,h7,h⟩:=Fq h
   exact wx w0b (Qa x0 (n0+1)) (U_ (n0+1)) Ub 33 [true] [pt hx0 hl0,pc e41 (k41 a0 _ h4) [],⟨.nz (B7 (⟨#[32]⟩:ByteArray) y3),Dg h5⟩,⟨.nz (B7 z0 ((⟨#[32]⟩:ByteArray)++y3)),Dg h7⟩] [] 0 [] _ hC [pq (Bb hi0 hl0)] (sI h).symm
 ·have h:=hnext0 _ hs0
  obtain⟨u10,h9,h⟩:=Ah h
  replace h:=sI h
  subst h
  exact wr Ub 23 [] [⟨.nz (B7 z0 (⟨#[10]⟩:ByteArray)),Dg h9⟩] [] 0 [] hC []
theorem e28:EN 28:=en Tryz.func28
def D9:List Nat:=[0,2,3,4,5,6,7,8,9,11,12,13,17,29,41,44,45,46,53,59,60,61,62,71]
def Mt (x0:ByteArray) (z0:Int×Int×(List ByteArray)):St:=[(0,.d (.p (.v (.string x0)))),(2,dO 0 0),(3,dB false),(4,dS 1),(5,dI z0.1),(6,dI z0.2.1)]
def Pv  (z0:Int×Int×(List ByteArray)):List Res:=[.box 26 [I 0,.os 2],.sl 9 1 (z0.2.2.map pS),v0_ ([]:List Int)]
def V6 (x0:ByteArray) (z0:Int×Int×(List ByteArray)):St:=[(0,.d (.p (.v (.string x0)))),(2,dO 0 0),(3,dB false),(4,dS 1)]
def Xr  (z0:Int×Int×(List ByteArray)):List Res:=[.box 26 [I 0,.os 2],.sl 9 1 (z0.2.2.map pS),v0_ ([]:List Int)]
def Ms (x0:ByteArray) (z1:Int×Int):St:=[(0,.d (.p (.v (.string x0)))),(2,dO 0 0),(3,dB false),(4,dS 1),(7,dO 3 0),(44,.agg (uI F43)),(45,dI z1.1)]
def Pu (z0:Int×Int×(List ByteArray)) (z1:Int×Int):List Res:=[.box 26 [I 0,.os 2],.sl 9 1 (z0.2.2.map pS),v0_ ([]:List Int),.box 26 [I z1.2,.os 4],v0_ ([]:List Int)]
def V5 (x0:ByteArray) (z1:Int×Int):St:=[(0,.d (.p (.v (.string x0)))),(2,dO 0 0),(3,dB false),(4,dS 1),(7,dO 3 0)]
def Xq (z0:Int×Int×(List ByteArray)) (z1:Int×Int):List Res:=[.box 26 [I 0,.os 2],.sl 9 1 (z0.2.2.map pS),v0_ ([]:List Int),.box 26 [I z1.2,.os 4],v0_ ([]:List Int)]
def P9 (x0:ByteArray) (y19:List ByteArray) (n2:Nat) (z2:(List Int)):St:=[(0,.d (.p (.v (.string x0)))),(2,dO 0 0),(3,dB false),(7,dO 2 0),(59,.d (DS pS y19)),(60,dI (ln y19)),(61,dI (cnt 0 n2))]
def U8 (z1:Int×Int) (n2:Nat) (z2:(List Int)):List Res:=[.box 26 [I 0,.os 1],v0_ ([]:List Int),.box 26 [I z1.2,.os 3],v0_ z2]
def V4 (x0:ByteArray) (z2:(List Int)):St:=[(0,.d (.p (.v (.string x0)))),(2,dO 0 0),(3,dB false),(7,dO 2 0)]
def Xp (z1:Int×Int) (z2:(List Int)):List Res:=[.box 26 [I 0,.os 1],v0_ ([]:List Int),.box 26 [I z1.2,.os 3],v0_ z2]
theorem k37 (x0:ByteArray) (r:Aa×Bool) (h:F37 x0=some r):CO 37 [.d (.p (.v (.string x0)))] [] (.tup [.agg [I r.1.Kind,.os 0],.d (Bo r.2)]) [v0_ r.1.Numbers]:=by
 unfold F37 at h
 refine co 89 Tryz.func37 λ C hC=>?_
 refine ws D9 30 [] [] [.own 4 9 1,.ownb 0 1 3 1] 0 n3_ (Mt x0 (0,0,([]:List ByteArray))) (Pv (0,0,([]:List ByteArray))) hC [] ?_
 obtain⟨w0,hm0,hret0,hnext0⟩:=Al h
 clear h
 refine wc w0 (V6 x0) (Xr) ?_ λ z0 hs0=>?_
 ·refine wb ?_
  refine ww (Mt x0) (Pv) hm0 λ z0 w0b h hb0 hr0=>?_
  unfold G3 at h
  rcases cB h with⟨h1,h⟩ | ⟨h1,h⟩
  ·obtain⟨y2,h3,y4,h5,h⟩:=A1 h
   rcases cB h with⟨h6,h⟩ | ⟨h6,h⟩
   ·obtain⟨u8,h7,y9,h10,h⟩:=A1 h
    exact wx w0b (Mt x0) (Pv) D9 36 [true,true] [⟨.byte x0 z0.2.1 y2,Bc h3⟩,⟨.when [(((y2.toNat:Int)==32),false)] (.byte x0 z0.2.1 y4),λ hg=>Bc (Aw h5 hg)⟩,⟨.bnd x0.size z0.1 z0.2.1 z0.2.1,K6 rfl rfl h7⟩,pa pS 1 h10] [] 0 [0,3,2] _ hC [pq h1,pq h6] (sI h).symm
   ·exact wx w0b (Mt x0) (Pv) D9 34 [true,false] [⟨.byte x0 z0.2.1 y2,Bc h3⟩,⟨.when [(((y2.toNat:Int)==32),false)] (.byte x0 z0.2.1 y4),λ hg=>Bc (Aw h5 hg)⟩] [] 0 n3_ _ hC [pq h1,pq h6] (sI h).symm
  ·exact wx w0 (V6 x0) (Xr) D9 26 [false] [] [] 0 n3_ (z0.1,z0.2.1,z0.2.2) hC [pq h1] (hb0 _ (sI h).symm)
 ·have h := hnext0 _ hs0
  rcases cB h with⟨h11,h⟩ | ⟨h11,h⟩
  ·replace h:=sI h
   subst h
   exact wr D9 27 [true] [pl pS z0.2.2] [.ownb 0 1 3 1] 0 [3] hC [pq h11]
  ·refine ws D9 31 [false] [pl pS z0.2.2,pc e43 (k43  _ rfl) []] [.ownb 3 1 3 1] 0 n5_ (Ms x0 (0,0)) (Pu z0 (0,0)) hC [pq h11] ?_
   obtain⟨w1,hm1,hret1,hnext1⟩:=Al h
   clear h
   refine wc w1 (V5 x0) (Xq z0) ?_ λ z1 hs1=>?_
   ·refine wb ?_
    refine ww (Ms x0) (Pu z0) hm1 λ z1 w1b h hb1 hr1=>?_
    unfold Ft at h
    rcases cB h with⟨h12,h⟩ | ⟨h12,h⟩
    ·obtain⟨y13,h14,y15,h16,h⟩:=A1 h
     rcases cB h with⟨h17,h⟩ | ⟨h17,h⟩
     ·exact wx w1b (Ms x0) (Pu z0) D9 36 [true,true] [⟨.idx (([F43.e0,F43.e1,F43.e2,F43.e3,F43.e4,F43.e5,F43.e6,F43.e7]:List ByteArray).map pS) z1.1 (pS y13),H0 h14⟩,pr pS h16,pn pS h16] [] 0 n5_ _ hC [pq h12,pq h17] (sI h).symm
     ·exact wx w1b (Ms x0) (Pu z0) D9 36 [true,false] [⟨.idx (([F43.e0,F43.e1,F43.e2,F43.e3,F43.e4,F43.e5,F43.e6,F43.e7]:List ByteArray).map pS) z1.1 (pS y13),H0 h14⟩,pr pS h16,pn pS h16] [] 0 n5_ _ hC [pq h12,pq h17] (sI h).symm
    ·exact wx w1 (V5 x0) (Xq z0) D9 26 [false] [] [] 0 n5_ (z1.1,z1.2) hC [pq h12] (hb1 _ (sI h).symm)
   ·have h:=hnext1 _ hs1
    refine wn D9 2 [] [] [.frz 1] 0 [0,2,3,4] [0,2,3,4,7] hC [] ?_
    obtain⟨y19,h18,h⟩:=Ah h
    refine ws D9 22 [] [⟨.cut (z0.2.2.map pS) 1 1 (ln (z0.2.2.map pS)) (y19.map pS),S9 pS 1 (λ _=>rfl) h18⟩,pl pS y19] [] 0 n4_ (P9 x0 y19 0 ([]:List Int)) (U8 z1 0 ([]:List Int)) hC [] ?_
    obtain⟨w2,hm2,hret2,hnext2⟩:=Al h
    clear h
    refine wc w2 (V4 x0) (Xp z1) ?_ λ z2 hs2=>?_
    ·refine wb ?_
     refine D2 59 rfl λ hl2=>?_
     refine wl (P9 x0 y19) (U8 z1) hm2 (λ z2 hn2=>?_) λ n2 a2 z2 w2b hi2 hx2 h hb2 hr2=>?_
     ·clear hm2
      exact wx w2 (V4 x0) (Xp z1) D9 26 [false] [] [] 0 n4_ _ hC [pq (C4 hl2)] hn2
     ·unfold G2 at h
      obtain⟨y20,h21,h⟩:=Ah h
      rcases cB h with⟨h22,h⟩ | ⟨h22,h⟩
      ·have hq:=hret2 _ (hr2 _ (sI h).symm)
       replace hq:=sI hq
       subst hq
       exact wr D9 38 [true,true] [pt hx2 hl2,pc e51 (k51 a2 _ h21) []] [.ownb 0 1 3 1] 0 [4] hC [pq (Bb hi2 hl2),pq h22]
      ·obtain⟨y23,h24,h⟩:=Ah h
       exact wx w2b (P9 x0 y19 (n2+1)) (U8 z1 (n2+1)) D9 40 [true,false] [pt hx2 hl2,pc e51 (k51 a2 _ h21) [],pa pI 1 h24] [] 0 [0,1,2,4] _ hC [pq (Bb hi2 hl2),pq h22] (sI h).symm
    ·have h:=hnext2 _ hs2
     obtain⟨y25,h26,y27,h28,h⟩:=A1 h
     replace h:=sI h
     subst h
     exact wr D9 23 [] [pb e14 (k14 (⟨z1.2,z2⟩:Aa) _ h26),pv e28 (λ hg=>k28 (⟨z1.2,z2⟩:Aa) _ (Aw h28 hg))] [] 0 [3] hC []
theorem e37:EN 37:=en Tryz.func37
def D_:List Nat:=[0,2,3,4,5,6,7,8,9,10,11,12,16,22,36,45,46,47,48,49,59]
def Mv (x0:ByteArray) (z0:Int×Int×(List ByteArray)):St:=[(0,.d (.p (.v (.string x0)))),(2,.d (DS q26 [])),(3,dI 0),(4,dI 0),(5,dS 0),(6,dI z0.1),(7,dI z0.2.1)]
def Px  (z0:Int×Int×(List ByteArray)):List Res:=[.sl 9 1 (z0.2.2.map pS)]
def Wf (x0:ByteArray) (z0:Int×Int×(List ByteArray)):St:=[(0,.d (.p (.v (.string x0)))),(2,.d (DS q26 [])),(3,dI 0),(4,dI 0),(5,dS 0),(6,dI z0.1)]
def X1  (z0:Int×Int×(List ByteArray)):List Res:=[.sl 9 1 (z0.2.2.map pS)]
def Qn  (z1:(List ByteArray)):St:=[(2,.d (DS q26 [])),(3,dI 0),(4,dI 0),(5,dS 0)]
def Sd  (z1:(List ByteArray)):List Res:=[.sl 9 1 (z1.map pS)]
def Qg (z1:(List ByteArray)) (n2:Nat) (z2:(List Aa)):St:=[(2,.d (DS q26 [])),(3,dI 0),(4,dI 0),(8,dS 1),(46,dS 0),(47,dI (ln z1)),(48,dI (cnt 0 n2))]
def Vh (z1:(List ByteArray)) (n2:Nat) (z2:(List Aa)):List Res:=[.sl 9 1 (z1.map pS),.sl 26 2 (z2.map q26)]
def We  (z2:(List Aa)):St:=[(2,.d (DS q26 [])),(3,dI 0),(4,dI 0),(8,dS 0)]
def X0  (z2:(List Aa)):List Res:=[.sl 26 2 (z2.map q26)]
theorem k21 (x0:ByteArray) (r:(List Aa)×Int×Int) (h:F21 x0=some r):CO 21 [.d (.p (.v (.string x0)))] [] (.tup [.d (.os 0),.d (I r.2.1),.d (I r.2.2)]) [.sl 26 2 (r.1.map q26)]:=by
 unfold F21 at h
 refine co 67 Tryz.func21 λ C hC=>?_
 refine ws D_ 30 [] [] [.own 5 9 1] 0 [0] (Mv x0 (0,0,([]:List ByteArray))) (Px (0,0,([]:List ByteArray))) hC [] ?_
 obtain⟨w0,hm0,hret0,hnext0⟩:=Al h
 clear h
 refine wc w0 (Wf x0) (X1) ?_ λ z0 hs0=>?_
 ·refine wb ?_
  refine ww (Mv x0) (Px) hm0 λ z0 w0b h hb0 hr0=>?_
  unfold G5 at h
  rcases cB h with⟨h1,h⟩ | ⟨h1,h⟩
  ·obtain⟨y2,h3,h⟩:=Ah h
   rcases cB h with⟨h4,h⟩ | ⟨h4,h⟩
   ·obtain⟨u6,h5,y7,h8,h⟩:=A1 h
    exact wx w0b (Mv x0) (Px) D_ 36 [true,true] [⟨.byte x0 z0.2.1 y2,Bc h3⟩,⟨.bnd x0.size z0.1 (w64 (z0.2.1+1)) (w64 (z0.2.1+1)),K6 rfl rfl h5⟩,pa pS 1 h8] [] 0 [1] _ hC [pq h1,pq h4] (sI h).symm
   ·exact wx w0b (Mv x0) (Px) D_ 34 [true,false] [⟨.byte x0 z0.2.1 y2,Bc h3⟩] [] 0 [0] _ hC [pq h1,pq h4] (sI h).symm
  ·exact wx w0 (Wf x0) (X1) D_ 26 [false] [] [] 0 [0] (z0.1,z0.2.1,z0.2.2) hC [pq h1] (hb0 _ (sI h).symm)
 ·have h := hnext0 _ hs0
  refine wn D_ 24 [] [] [] 0 [0] [0,2,3,4,5,6,36] hC [] ?_
  obtain⟨w1,h,hret1,hnext1⟩:=Al h
  refine wc w1 (Qn) (Sd) ?_ λ z1 hs1=>?_
  ·unfold Ko at h
   rcases cB h with⟨h9,h⟩ | ⟨h9,h⟩
   ·obtain⟨u11,h10,y12,h13,h⟩:=A1 h
    exact wx w1 (Qn) (Sd) D_ 23 [true] [⟨.bnd x0.size z0.1 (x0.size:Int) (x0.size:Int),K6 rfl rfl h10⟩,pa pS 1 h13] [] 0 [1] _ hC [pq h9] (sI h).symm
   ·exact wx w1 (Qn) (Sd) D_ 23 [false] [] [] 0 [0] _ hC [pq h9] (sI h).symm
  ·clear h;have h:=hnext1 _ hs1
   rcases cB h with⟨h14,h⟩ | ⟨h14,h⟩
   ·replace h:=sI h
    subst h
    exact wr D_ 27 [true] [pl pS z1] [.own 2 26 2] 0 [1] hC [pq h14]
   ·refine ws D_ 31 [false] [pl pS z1,pl pS z1] [.own 8 26 2] 0 [0,1] (Qg z1 0 ([]:List Aa)) (Vh z1 0 ([]:List Aa)) hC [pq h14] ?_
    obtain⟨w2,hm2,hret2,hnext2⟩:=Al h
    clear h
    refine wc w2 (We) (X0) ?_ λ z2 hs2=>?_
    ·refine wb ?_
     refine jY 46 0 rfl rfl λ hl2=>?_
     refine wl (Qg z1) (Vh z1) hm2 (λ z2 hn2=>?_) λ n2 a2 z2 w2b hi2 hx2 h hb2 hr2=>?_
     ·clear hm2
      exact wx w2 (We) (X0) D_ 26 [false] [] [] 0 [1] _ hC [pq (C4 hl2)] hn2
     ·unfold G4 at h
      obtain⟨y15,h16,h⟩:=Ah h
      refine wn D_ 35 [true] [pr pS (Tq hx2 hl2),pn pS (Tq hx2 hl2),pc e37 (k37 a2 _ h16) []] [] 0 n4_ [2,3,4,8,9,11,46,47,48,59] hC [pq (Bb hi2 hl2)] ?_
      rcases cB h with⟨h17,h⟩ | ⟨h17,h⟩
      ·have hq:=hret2 _ (hr2 _ (sI h).symm)
       replace hq:=sI hq
       subst hq
       exact wr D_ 24 [true] [] [.own 2 26 2] 0 [4] hC [pq h17]
      ·refine wn D_ 2 [false] [] [.frz 2] 0 [0,1,3] [2,3,4,8,11,46,47,48] hC [pq h17] ?_
       obtain⟨y18,h19,h⟩:=Ah h
       exact wx w2b (Qg z1 (n2+1)) (Vh z1 (n2+1)) D_ 24 [] [pa q26 2 h19] [] 0 [0,3] _ hC [] (sI h).symm
    ·have h:=hnext2 _ hs2
     replace h:=sI h
     subst h
     exact wr D_ 23 [] [] [] 0 [0] hC []
theorem e21:EN 21:=en Tryz.func21
def lv4:List Nat:=[0,1,2,3,4,10,11,12,13,14,15,16,17,19,20,21,22,23,24,25,33,44,72,89,90,91,118]
def T1 (x1:ByteArray) (x4:Int) (y8:ByteArray×Int) (z0:ByteArray×Int):St:=[(1,.d (.p (.v (.string x1)))),(4,.d (.p (.v (.int .u8 x4)))),(10,dB false),(12,.d (.p (.v (.string y8.1)))),(14,dS 0),(15,dS 1),(16,.d (.p (.v (.string z0.1)))),(17,dI z0.2)]
def Zf (y19:List Int) (y29:List Int) (z0:ByteArray×Int):List Res:=[.sl 5 1 (y19.map (pK .u8)),.sl 5 1 (y29.map (pK .u8))]
def Zm (x1:ByteArray) (y8:ByteArray×Int) (z0:ByteArray×Int):St:=[(1,.d (.p (.v (.string x1)))),(10,dB false),(12,.d (.p (.v (.string y8.1)))),(14,dS 0),(15,dS 1),(16,.d (.p (.v (.string z0.1))))]
def Z2 (y19:List Int) (y29:List Int) (z0:ByteArray×Int):List Res:=[.sl 5 1 (y19.map (pK .u8)),.sl 5 1 (y29.map (pK .u8))]
def T0 (x1:ByteArray) (y8:ByteArray×Int) (z0:ByteArray×Int) (y36:ByteArray) (y38:ByteArray) (z1:Int):St:=[(10,dB false),(89,.agg [.p (.v (.string x1)),.p (.v (.string y8.1)),.p (.v (.string (y8.1++x1))),.p (.v (.string y36)),.p (.v (.string y38)),.p (.v (.string z0.1)),.p (.v (.string (z0.1++(⟨#[120]⟩:ByteArray))))]),(90,dI z1)]
def Ze  (z1:Int):List Res:=[]
def Zl  (z1:Int):St:=[(10,dB false)]
def Z1  (z1:Int):List Res:=[]
theorem k4 (x0:List Int) (x1:ByteArray) (x2:Int) (x3:Int) (x4:Int) (r:Bool) (h:F4 x0 x1 x2 x3 x4=some r):CO 4 [.d (DS pI x0),.d (.p (.v (.string x1))),.d (I x2),.d (.p (.v (.int .u8 x3))),.d (.p (.v (.int .u8 x4)))] [] (.d (Bo r)) []:=by
 unfold F4 at h
 refine co 121 Tryz.func4 λ C hC=>?_
 rcases cB h with⟨h1,h⟩ | ⟨h1,h⟩
 ·obtain⟨y2,h3,h⟩:=Ah h
  replace h:=sI h
  subst h
  exact wr lv4 29 [true] [pl pI x0,pc e5 (k5  _ h3) []] [] 0 [] hC [pq h1]
 ·obtain⟨y4,h5,y6,h7,y8,h9,h⟩:=Fq h
  refine wn lv4 35 [false] [pl pI x0,pc e6 (k6 x0 _ h5) [],pc e7 (k7 y4 8 _ h7) [0],pb e11 (k11 y6.1 _ h9)] [] 0 [0] [1,2,3,4,10,11,12,44] hC [pq h1] ?_
  rcases cB h with⟨h10,h⟩ | ⟨h10,h⟩
  ·replace h:=sI h
   subst h
   exact wr lv4 24 [true] [] [] 0 [] hC [pq h10]
  ·obtain⟨u12,h11,y13,h14,y15,h16,y17,h18,h⟩:=G0 h
   obtain⟨y19,h20,y21,h22,y23,h24,y25,h26,h⟩:=G0 h
   obtain⟨y27,h28,y29,h30,h⟩:=A1 h
   refine ws lv4 36 [false] [⟨.nz (B7 y8.1 (⟨#[116,105,99,107,32,49,10]⟩:ByteArray)),Dg h11⟩,⟨.roomZ ((y8.1++(⟨#[116,105,99,107,32,49,10]⟩:ByteArray)).size:Int) (Cv (y8.1++(⟨#[116,105,99,107,32,49,10]⟩:ByteArray))) (y13.map (pK .u8)),U1 h14⟩,pl (pK .u8) y13,pc e18 (k18 x2 (ln y13) _ h16) [],pr (pK .u8) h18,pu (pK .u8) h18 h20,⟨.own,trivial⟩,⟨.own,trivial⟩,pl (pK .u8) ([102,105,120,32,48,32,45,49,48,32,50,48,32,53,10]:List Int),pc e18 (k18 x2 (ln ([102,105,120,32,48,32,45,49,48,32,50,48,32,53,10]:List Int)) _ h22) [],pc e19 (k19 y6.2 [(⟨#[48]⟩:ByteArray),(⟨#[45]⟩:ByteArray),(⟨#[32]⟩:ByteArray),(⟨#[10]⟩:ByteArray),(⟨#[102]⟩:ByteArray)] _ h24) [0],⟨.byte y23.1 0 y25,Bc h26⟩,pr (pK .u8) h28,pu (pK .u8) h28 h30] [] 0 [1,2] (T1 x1 x4 y8 ((⟨#[]⟩:ByteArray),0)) (Zf y19 y29 ((⟨#[]⟩:ByteArray),0)) hC [pq h10] ?_
   obtain⟨w0,hm0,hret0,hnext0⟩:=Al h
   clear h
   refine wc w0 (Zm x1 y8) (Z2 y19 y29) ?_ λ z0 hs0=>?_
   ·refine wb ?_
    refine ww (T1 x1 x4 y8) (Zf y19 y29) hm0 λ z0 w0b h hb0 hr0=>?_
    unfold P2 at h
    rcases cB h with⟨h31,h⟩ | ⟨h31,h⟩
    ·obtain⟨u33,h32,h⟩:=Ah h
     exact wx w0b (T1 x1 x4 y8) (Zf y19 y29) lv4 31 [true] [⟨.nz 4,Wm rfl⟩,⟨.nz (B7 z0.1 (⟨#[116,105,99,107,32,49,10]⟩:ByteArray)),Dg h32⟩] [] 0 [0,1] _ hC [pq h31] (sI h).symm
    ·exact wx w0 (Zm x1 y8) (Z2 y19 y29) lv4 26 [false] [⟨.nz 4,Wm rfl⟩] [] 0 [0,1] (z0.1,z0.2) hC [pq h31] (hb0 _ (sI h).symm)
   ·have h:=hnext0 _ hs0
    obtain⟨u35,h34,y36,h37,y38,h39,u41,h40,h⟩:=G0 h
    refine ws lv4 24 [] [⟨.nz (B7 y8.1 x1),Dg h34⟩,⟨.strb (y19.map (pK .u8)) y36,P7 h37⟩,⟨.strb (y29.map (pK .u8)) y38,P7 h39⟩,⟨.nz (B7 z0.1 (⟨#[120]⟩:ByteArray)),Dg h40⟩] [] 0 [] (T0 x1 y8 z0 y36 y38 0) (Ze 0) hC [] ?_
    obtain⟨w1,hm1,hret1,hnext1⟩:=Al h
    clear h
    refine wc w1 (Zl) (Z1) ?_ λ z1 hs1=>?_
    ·refine wb ?_
     refine ww (T0 x1 y8 z0 y36 y38) (Ze) hm1 λ z1 w1b h hb1 hr1=>?_
     unfold P1 at h
     rcases cB h with⟨h42,h⟩ | ⟨h42,h⟩
     ·obtain⟨y43,h44,y45,h46,y47,h48,y49,h50,h⟩:=G0 h
      refine wn lv4 36 [true] [⟨.idx (([x1,y8.1,(y8.1++x1),y36,y38,z0.1,(z0.1++(⟨#[120]⟩:ByteArray))]:List ByteArray).map pS) z1 (pS y43),H0 h44⟩,pc e20 (k20 y43 _ h46) [],pc e21 (k21 y43 _ h48) [],pv e22 (λ hg=>k22 y45.1 y47.1 _ (Aw h50 hg))] [] 0 [] [10,89,90,118] hC [pq h42] ?_
      rcases cB h with⟨h51,h⟩ | ⟨h51,h⟩
      ·have hq:=hret1 _ (hr1 _ (sI h).symm)
       replace hq:=sI hq
       subst hq
       exact wr lv4 24 [true] [] [] 0 [] hC [pq h51]
      ·exact wx w1b (T0 x1 y8 z0 y36 y38) (Ze) lv4 25 [false] [] [] 0 [] _ hC [pq h51] (sI h).symm
     ·exact wx w1 (Zl) (Z1) lv4 26 [false] [] [] 0 [] z1 hC [pq h42] (hb1 _ (sI h).symm)
    ·have h:=hnext1 _ hs1
     obtain⟨y52,h53,h⟩:=Ah h
     replace h:=sI h
     subst h
     exact wr lv4 23 [] [pc e5 (k5  _ h53) []] [] 0 [] hC []
theorem e4:EN 4:=en Tryz.func4
end Go.Proofs.YtaplakgdkkmpfaaGreatDoor
