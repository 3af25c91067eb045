import Derived.Test.YtaplakgdkkmpfaaGreatDoorRows
import Derived.Test.YtaplakgdkkmpfaaGreatDoorMo
import Derived.Test.YtaplakgdkkmpfaaGreatDoorFo
set_option linter.unusedVariables false
set_option maxHeartbeats 4000000
namespace Go.Proofs.YtaplakgdkkmpfaaGreatDoor
open Go.SL
abbrev v0_ (l:List Aa):Res:=.sl 60 12 (l.map q60)
abbrev v1_ (l:List Int):Res:=.sl 3 1 (l.map pI)
abbrev v2_ (l:List Ag):Res:=.sl 95 5 (l.map q95)
abbrev v3_ (l:List An):Res:=.sl 87 3 (l.map q87)
abbrev v4_ (l:List Ai):Res:=.sl 91 4 (l.map q91)
abbrev v5_ (l:List api_Command):Res:=.sl 26 2 (l.map q26)
abbrev CO:=CallOk Tryz.prog
abbrev EN:=Dr Tryz.prog
abbrev Of {α0 α1 α2 α3:Type} (z:α0×α1×α2×α3):α3:=z.2.2.2
abbrev g3_ {α0 α1 α2 α3 α4:Type} (z:α0×α1×α2×α3×α4):α3:=z.2.2.2.1
abbrev g4_ {α0 α1 α2 α3 α4 α5:Type} (z:α0×α1×α2×α3×α4×α5):α4:=z.2.2.2.2.1
abbrev g5_ {α0 α1 α2 α3 α4 α5 α6:Type} (z:α0×α1×α2×α3×α4×α5×α6):α5:=z.2.2.2.2.2.1
abbrev Oe {α0 α1 α2 α3 α4 α5 α6:Type} (z:α0×α1×α2×α3×α4×α5×α6):α6:=z.2.2.2.2.2.2
abbrev g6_ {α0 α1 α2 α3 α4 α5 α6 α7:Type} (z:α0×α1×α2×α3×α4×α5×α6×α7):α6:=z.2.2.2.2.2.2.1
abbrev g7_ {α0 α1 α2 α3 α4 α5 α6 α7 α8:Type} (z:α0×α1×α2×α3×α4×α5×α6×α7×α8):α7:=z.2.2.2.2.2.2.2.1
abbrev g8_ {α0 α1 α2 α3 α4 α5 α6 α7 α8 α9:Type} (z:α0×α1×α2×α3×α4×α5×α6×α7×α8×α9):α8:=z.2.2.2.2.2.2.2.2.1
abbrev g9_ {α0 α1 α2 α3 α4 α5 α6 α7 α8 α9 α10:Type} (z:α0×α1×α2×α3×α4×α5×α6×α7×α8×α9×α10):α9:=z.2.2.2.2.2.2.2.2.2.1
abbrev Bq {α0 α1 α2 α3 α4 α5 α6 α7 α8 α9 α10 α11:Type} (z:α0×α1×α2×α3×α4×α5×α6×α7×α8×α9×α10×α11):α10:=z.2.2.2.2.2.2.2.2.2.2.1
abbrev Bp {α0 α1 α2 α3 α4 α5 α6 α7 α8 α9 α10 α11 α12:Type} (z:α0×α1×α2×α3×α4×α5×α6×α7×α8×α9×α10×α11×α12):α11:=z.2.2.2.2.2.2.2.2.2.2.2.1
abbrev Ft {α0 α1 α2 α3 α4 α5 α6 α7 α8 α9 α10 α11 α12:Type} (z:α0×α1×α2×α3×α4×α5×α6×α7×α8×α9×α10×α11×α12):α12:=z.2.2.2.2.2.2.2.2.2.2.2.2
abbrev Cb {α0 α1 α2 α3 α4 α5 α6 α7 α8 α9 α10 α11 α12 α13:Type} (z:α0×α1×α2×α3×α4×α5×α6×α7×α8×α9×α10×α11×α12×α13):α12:=z.2.2.2.2.2.2.2.2.2.2.2.2.1
abbrev Ks {α0 α1 α2 α3 α4 α5 α6 α7 α8 α9 α10 α11 α12 α13:Type} (z:α0×α1×α2×α3×α4×α5×α6×α7×α8×α9×α10×α11×α12×α13):α13:=z.2.2.2.2.2.2.2.2.2.2.2.2.2
abbrev Di {α0 α1 α2 α3 α4 α5 α6 α7 α8 α9 α10 α11 α12 α13 α14:Type} (z:α0×α1×α2×α3×α4×α5×α6×α7×α8×α9×α10×α11×α12×α13×α14):α13:=z.2.2.2.2.2.2.2.2.2.2.2.2.2.1
abbrev Dh {α0 α1 α2 α3 α4 α5 α6 α7 α8 α9 α10 α11 α12 α13 α14 α15:Type} (z:α0×α1×α2×α3×α4×α5×α6×α7×α8×α9×α10×α11×α12×α13×α14×α15):α14:=z.2.2.2.2.2.2.2.2.2.2.2.2.2.2.1
abbrev Dg {α0 α1 α2 α3 α4 α5 α6 α7 α8 α9 α10 α11 α12 α13 α14 α15 α16:Type} (z:α0×α1×α2×α3×α4×α5×α6×α7×α8×α9×α10×α11×α12×α13×α14×α15×α16):α15:=z.2.2.2.2.2.2.2.2.2.2.2.2.2.2.2.1
abbrev Df {α0 α1 α2 α3 α4 α5 α6 α7 α8 α9 α10 α11 α12 α13 α14 α15 α16 α17:Type} (z:α0×α1×α2×α3×α4×α5×α6×α7×α8×α9×α10×α11×α12×α13×α14×α15×α16×α17):α16:=z.2.2.2.2.2.2.2.2.2.2.2.2.2.2.2.2.1
abbrev De {α0 α1 α2 α3 α4 α5 α6 α7 α8 α9 α10 α11 α12 α13 α14 α15 α16 α17 α18:Type} (z:α0×α1×α2×α3×α4×α5×α6×α7×α8×α9×α10×α11×α12×α13×α14×α15×α16×α17×α18):α17:=z.2.2.2.2.2.2.2.2.2.2.2.2.2.2.2.2.2.1
abbrev Dd {α0 α1 α2 α3 α4 α5 α6 α7 α8 α9 α10 α11 α12 α13 α14 α15 α16 α17 α18 α19:Type} (z:α0×α1×α2×α3×α4×α5×α6×α7×α8×α9×α10×α11×α12×α13×α14×α15×α16×α17×α18×α19):α18:=z.2.2.2.2.2.2.2.2.2.2.2.2.2.2.2.2.2.2.1
abbrev Dc {α0 α1 α2 α3 α4 α5 α6 α7 α8 α9 α10 α11 α12 α13 α14 α15 α16 α17 α18 α19 α20:Type} (z:α0×α1×α2×α3×α4×α5×α6×α7×α8×α9×α10×α11×α12×α13×α14×α15×α16×α17×α18×α19×α20):α19:=z.2.2.2.2.2.2.2.2.2.2.2.2.2.2.2.2.2.2.2.1
abbrev B8 {α0 α1 α2 α3 α4 α5 α6 α7 α8 α9 α10 α11 α12 α13 α14 α15 α16 α17 α18 α19 α20:Type} (z:α0×α1×α2×α3×α4×α5×α6×α7×α8×α9×α10×α11×α12×α13×α14×α15×α16×α17×α18×α19×α20):α20:=z.2.2.2.2.2.2.2.2.2.2.2.2.2.2.2.2.2.2.2.2
theorem sI {α:Type} {a b:α} (h:some a=some b):a=b:=aN h
abbrev n3_:List Nat:=[0,1,2]
abbrev n5_:List Nat:=[0,1,2,3,4]
abbrev n6_:List Nat:=[0,1,2,3,4,5]
abbrev n7_:List Nat:=[0,1,2,3,4,5,6]
abbrev Hn:List Nat:=[0,1,2,3,4,5,6,7,8,9,10]
abbrev Hm:List Nat:=[0,1,2,3,4,5,6,7,8,9,10,11]
theorem mixed:Tryz.prog.follows .mixedOrders=true:=by kernel_rfl
abbrev PC:={c:Cl // Cl.ok Tryz.prog c}
abbrev PB:={p:Bool×Bool // p.1=p.2}
theorem okP:∀ l:List PC,Bz Tryz.prog (l.map (·.1))
 | []=>trivial
 | c::l=>⟨c.2,okP l⟩
theorem okB:∀ l:List PB,Cz (l.map (·.1))
 | []=>trivial
 | ⟨(_,_),h⟩::l=>⟨h,okB l⟩
def pq {a b:Bool} (h:a=b):PB:=⟨(a,b),h⟩
def pc {f:FuncId} {args:List AV} {R R2:List Res} {res:AV} (e:Dr Tryz.prog f) (k:CallOk Tryz.prog f args R res R2) (pi:List Nat):PC:=⟨.call f args R res R2 pi,e,k⟩
def pb {f:FuncId} {args:List AV} {res:AV} (e:Dr Tryz.prog f) (k:CallOk Tryz.prog f args [] res []):PC:=⟨.callB f args res [[]] 0 [],Pi ⟨e,k⟩⟩
def pw {g:List (Bool×Bool)} {f:FuncId} {args:List AV} {R R2:List Res} {res:AV} (e:Dr Tryz.prog f) (k:Cz g->CallOk Tryz.prog f args R res R2) (pi:List Nat):PC:=⟨.when g (.call f args R res R2 pi),λ h=>⟨e,k h⟩⟩
def pv {g:List (Bool×Bool)} {f:FuncId} {args:List AV} {res:AV} (e:Dr Tryz.prog f) (k:Cz g->CallOk Tryz.prog f args [] res []):PC:=⟨.when g (.callB f args res [[]] 0 []),λ h=>Pi ⟨e,k h⟩⟩
section
variable {α:Type}
def pl (q:α->List Pd) (l:List α):PC:=⟨.len ((l.map q).length:Int) (l.length:Int),T4 l q⟩
def pL_ (g:List (Bool×Bool)) (q:α->List Pd) (l:List α):PC:=⟨.when g (.len ((l.map q).length:Int) (l.length:Int)),λ _=>T4 l q⟩
def pr (q:α->List Pd) {l:List α} {n:Int} {x:α} (h:getI l n=some x):PC:=⟨.row (l.map q) n (q x),Kn h⟩
def pn (q:α->List Pd) {l:List α} {n:Int} {x:α} (h:getI l n=some x):PC:=⟨.row (l.map q) ((n.toNat:Nat):Int) (q x),Q3 h⟩
def pt {q:α->List Pd} {l:List α} {i:Nat} {x:α} (hx:l[i]? = some x) (hl:(l.map q).length<=maxLen):PC:=⟨.row (l.map q) (cnt 0 i) (q x),qM hx hl⟩
def pR (q:α->List Pd) {g:List (Bool×Bool)} {l:List α} {n:Int} {x d:α} (h:Ar g (getI l n) d=some x):PC:=⟨.when g (.row (l.map q) n (q x)),λ hg=>Kn (Av h hg)⟩
def pN (q:α->List Pd) {g:List (Bool×Bool)} {l:List α} {n:Int} {x d:α} (h:Ar g (getI l n) d=some x):PC:=⟨.when g (.row (l.map q) ((n.toNat:Nat):Int) (q x)),λ hg=>Q3 (Av h hg)⟩
def pa (q:α->List Pd) (size:Nat) {B:Nat} {l m y:List α} (h:appI (B+1) l m=some y) (hs:∀ x,(q x).length=size:=by exact λ _=>rfl):PC:=⟨.app (l.map q) (m.map q) size (((l.map q).length+(m.map q).length)*(B+1)) (y.map q),T_ q size hs h⟩
def pu (q:α->List Pd) {l y:List α} {n:Int} {x x':α} (hx:getI l n=some x) (h:setI l n x'=some y):PC:=⟨.upd (l.map q) n.toNat (q x) (q x') (y.map q),qG hx h⟩
end
theorem ws {ro:Option Nat} {n:Nat} {C:Ctx} {Q:Exit->Act->World->Prop} {st:St} {R:List Res} {items:List It} (lv:List Nat) (fuel:Nat) (ds:List Bool) (cls:List PC) (adj:List Adj) (k:Nat) (pi:List Nat) (st':St) (R':List Res) (hk:C.h.length<=k) (bs:List PB) (hW:WI ro Tryz.prog n C Q (A1 fuel items ds) st' R') (h:Ds Tryz.prog n lv fuel items st R ds (cls.map (·.1)) adj k pi (Ma st')=some (st',R',cls.map (·.1),bs.map (·.1)):=by kernel_rfl):WI ro Tryz.prog n C Q items st R:=Oo mixed lv fuel ds (cls.map (·.1)) adj k pi st' R' hk (okP cls) (okB bs) h hW
def wo (o:Option (St×List Res×List Cl×List (Bool×Bool))):St×List Res:=match o with
 | some (s,r,_,_)=>(s,r)
 | none=>([],[])
theorem wn {ro:Option Nat} {n:Nat} {C:Ctx} {Q:Exit->Act->World->Prop} {st:St} {R:List Res} {items:List It} (lv:List Nat) (fuel:Nat) (ds:List Bool) (cls:List PC) (adj:List Adj) (k:Nat) (pi:List Nat) (ks:List Nat) (hk:C.h.length<=k) (bs:List PB) (hW:WI ro Tryz.prog n C Q (A1 fuel items ds) (wo (Ds Tryz.prog n lv fuel items st R ds (cls.map (·.1)) adj k pi ks)).1 (wo (Ds Tryz.prog n lv fuel items st R ds (cls.map (·.1)) adj k pi ks)).2) (h:(Ds Tryz.prog n lv fuel items st R ds (cls.map (·.1)) adj k pi ks).map (λ x=>(Ma x.1,x.2.2.1,x.2.2.2))=some (ks,cls.map (·.1),bs.map (·.1)):=by kernel_rfl):WI ro Tryz.prog n C Q items st R:=by
 cases e:Ds Tryz.prog n lv fuel items st R ds (cls.map (·.1)) adj k pi ks with
 | none=>rw [e] at h;cases h
 | some x=>
  obtain⟨s,r,c,b⟩:=x
  rw [e] at h hW
  simp only [Option.map_some,ah,ax] at h
  obtain⟨h1,h2,h3⟩:=h
  subst h1;subst h2;subst h3
  exact Oo mixed lv fuel ds _ adj k pi s r hk (okP cls) (okB bs) e hW
theorem we {ro:Option Nat} {n:Nat} {C:Ctx} {Q:Exit->Act->World->Prop} {st:St} {R:List Res} {items:List It} {σ:Type} {φ:σ->Prop} {st':σ->St} {R':σ->List Res} (lv:List Nat) (fuel:Nat) (ds:List Bool) (cls:List PC) (adj:List Adj) (k:Nat) (pi:List Nat) (s:σ) (hk:C.h.length<=k) (bs:List PB) (h1:φ s) (hi:hdK (A1 fuel items ds)=Ex n C φ st' R':=by kernel_rfl) (h:Ds Tryz.prog n lv fuel items st R ds (cls.map (·.1)) adj k pi (Ma (st' s))=some (st' s,R' s,cls.map (·.1),bs.map (·.1)):=by kernel_rfl):WI ro Tryz.prog n C Q items st R:=X5 mixed lv fuel ds (cls.map (·.1)) adj k pi s hk (okP cls) (okB bs) hi h h1
theorem wx {σ:Type} {τ:Type} (w:Ctl σ τ) (st':σ->St) (R':σ->List Res) {ro:Option Nat} {n:Nat} {C:Ctx} {Q:Exit->Act->World->Prop} {st:St} {R:List Res} {items:List It} (lv:List Nat) (fuel:Nat) (ds:List Bool) (cls:List PC) (adj:List Adj) (k:Nat) (pi:List Nat) (s:σ) (hk:C.h.length<=k) (bs:List PB) (h1:w = .next s) (hi:hdK (A1 fuel items ds)=Ex n C (λ s'=>w = .next s') st' R':=by kernel_rfl) (h:Ds Tryz.prog n lv fuel items st R ds (cls.map (·.1)) adj k pi (Ma (st' s))=some (st' s,R' s,cls.map (·.1),bs.map (·.1)):=by kernel_rfl):WI ro Tryz.prog n C Q items st R:=X5 mixed lv fuel ds (cls.map (·.1)) adj k pi s hk (okP cls) (okB bs) hi h h1
theorem wc {ro:Option Nat} {n:Nat} {C:Ctx} {Q:Exit->Act->World->Prop} {st:St} {R:List Res} {items:List It} {σ τ:Type} (w:Ctl σ τ) (st':σ->St) (R':σ->List Res) (h:WI ro Tryz.prog n C Q (.c (hdC items) :: .k (Ex n C (λ s=>w = .next s) st' R')::tlI items) st R) (hK:∀ s,w = .next s->WI ro Tryz.prog n C Q (tlI items) (st' s) (R' s)) (hi:isC items=true:=by kernel_rfl):WI ro Tryz.prog n C Q items st R:=yL hi _ st' R' h hK
theorem Ay {α β γ:Type} {o:Option α} {f:α->Option β} {g:α->β->Option γ} {r:γ} (h:(o.bind λ a=>(f a).bind λ b=>g a b)=some r):∃ a,o=some a/\∃ b,f a=some b/\g a b=some r:=by
 obtain⟨a,h1,h⟩:=Ah h
 obtain⟨b,h2,h⟩:=Ah h
 exact⟨a,h1,b,h2,h⟩
theorem A9 {α β γ δ:Type} {o:Option α} {f:α->Option β} {g:α->β->Option γ} {k:α->β->γ->Option δ} {r:δ} (h:(o.bind λ a=>(f a).bind λ b=>(g a b).bind λ c=>k a b c)=some r):∃ a,o=some a/\∃ b,f a=some b/\∃ c,g a b=some c/\k a b c=some r:=by
 obtain⟨a,h1,h⟩:=Ah h
 obtain⟨b,h2,c,h3,h⟩:=Ay h
 exact⟨a,h1,b,h2,c,h3,h⟩
theorem Dq {α β γ δ ε:Type} {o:Option α} {f:α->Option β} {g:α->β->Option γ} {k:α->β->γ->Option δ} {l:α->β->γ->δ->Option ε} {r:ε} (h:(o.bind λ a=>(f a).bind λ b=>(g a b).bind λ c=>(k a b c).bind λ d=>l a b c d)=some r):∃ a,o=some a/\∃ b,f a=some b/\∃ c,g a b=some c/\∃ d,k a b c=some d/\l a b c d=some r:=by
 obtain⟨a,h1,h⟩:=Ah h
 obtain⟨b,h2,c,h3,d,h4,h⟩:=A9 h
 exact⟨a,h1,b,h2,c,h3,d,h4,h⟩
theorem wl {ro:Option Nat} {n:Nat} {C:Ctx} {Q:Exit->Act->World->Prop} {st:St} {R:List Res} {α σ τ:Type} {items:List It} {f:Nat->α->σ->Option (Ctl σ τ)} (stF:Nat->σ->St) (RF:Nat->σ->List Res) {r:Ctl σ τ} {xs:List α} {s:σ} (hm:foldI f xs 0 s=some r) (hnil:∀ s,r = .next s->WI ro Tryz.prog n C Q (.c (lpC items) :: .k (λ _ _=>False)::tlI items) (stF xs.length s) (RF xs.length s)) (hcons:∀ i x s k,i<xs.length->xs[i]? = some x->f i x s=some k->(∀ s',k = .brk s'->r = .next s')->(∀ v,k = .ret v->r = .ret v)->WI ro Tryz.prog n C Q (.c (lpC items) :: .k (Ex n C (λ s'=>k = .next s') (stF (i+1)) (RF (i+1)))::tlI items) (stF i s) (RF i s)) (hi:isL items=true:=by kernel_rfl) (h0:st=stF 0 s:=by rfl) (h1:R=RF 0 s:=by rfl):WI ro Tryz.prog n C Q items st R:=Zp hi f stF RF r xs s hm h0 h1 hnil hcons
theorem ww {ro:Option Nat} {n:Nat} {C:Ctx} {Q:Exit->Act->World->Prop} {st:St} {R:List Res} {σ τ:Type} {items:List It} {f:σ->Option (Ctl σ τ)} (stF:σ->St) (RF:σ->List Res) {r:Ctl σ τ} {fuel:Nat} {s:σ} (hm:whileN f fuel s=some r) (h:∀ s k,f s=some k->(∀ s',k = .brk s'->r = .next s')->(∀ v,k = .ret v->r = .ret v)->WI ro Tryz.prog n C Q (.c (lpC items) :: .k (Ex n C (λ s'=>k = .next s') stF RF)::tlI items) (stF s) (RF s)) (hi:isL items=true:=by kernel_rfl) (h0:st=stF s:=by rfl) (h1:R=RF s:=by rfl):WI ro Tryz.prog n C Q items st R:=Zo hi f stF RF r fuel s hm h0 h1 h
theorem cB {α:Type} {c:Bool} {x y z:α} (h:(bif c then x else y)=z):(c=true/\x=z)\/(c=false/\y=z):=by cases c;exact .inr ⟨rfl,h⟩;exact .inl ⟨rfl,h⟩
theorem wb {ro:Option Nat} {n:Nat} {C:Ctx} {Q:Exit->Act->World->Prop} {st:St} {R:List Res} {items:List It} (h:WI ro Tryz.prog n C Q (.c (yD items) :: .b (yC items)::tlI items) st R) (hi:isB items=true:=by kernel_rfl):WI ro Tryz.prog n C Q items st R:=yM hi h
theorem co {f:FuncId} {fn:Func} {c:Code} {args:List AV} {res:AV} {R R2:List Res} (n:Nat) (hf:Tryz.prog.funcs[f]? = some fn) (h:∀ C:Ctx,C.h.length<=R.length->WI none Tryz.prog n C.z (Hr Tryz.prog fn C.z res R2) [.c c] (Nv 0 args) R) (hb:fn.body=some c:=by rfl) (hn:fn.ntmps=n:=by rfl) (hl:Nat.ble args.length n=true:=by rfl):CallOk Tryz.prog f args R res R2:=X0 n hf hb hn hl h
theorem wr {ro:Option Nat} {n:Nat} {C:Ctx} {st:St} {R:List Res} {fn:Func} {res:AV} {R2:List Res} {items:List It} (lv:List Nat) (fuel:Nat) (ds:List Bool) (cls:List PC) (adj:List Adj) (k:Nat) (pi:List Nat) (hk:C.h.length<=k) (bs:List PB) (h:Mp Tryz.prog n lv fuel items st R ds (cls.map (·.1)) adj fn.results.toList k pi=some (res,R2,cls.map (·.1),bs.map (·.1)):=by kernel_rfl):WI ro Tryz.prog n C.z (Hr Tryz.prog fn C.z res R2) items st R:=yJ mixed lv fuel ds (cls.map (·.1)) adj _ k pi rfl hk (okP cls) (okB bs) h
theorem wf {ro:Option Nat} {n:Nat} {C:Ctx} {st:St} {R:List Res} {fn:Func} {res:AV} {R2:List Res} {items:List It} (lv:List Nat) (fuel:Nat) (ds:List Bool) (cls:List PC) (adj:List Adj) (k:Nat) (pi:List Nat) (hk:C.h.length<=k) (bs:List PB) (hn:Y2 (A1 fuel items ds)=true:=by kernel_rfl) (h:Mq Tryz.prog n lv fuel items st R ds (cls.map (·.1)) adj fn.results.toList k pi=some (res,R2,cls.map (·.1),bs.map (·.1)):=by kernel_rfl):WI ro Tryz.prog n C.z (Hr Tryz.prog fn C.z res R2) items st R:=uS mixed lv fuel ds (cls.map (·.1)) adj _ k pi rfl hk (okP cls) (okB bs) hn h
theorem en {f : FuncId} {fn : Func} (hf : Tryz.prog.funcs[f]? = some fn) (hb : fn.body.isNone = false := by kernel_rfl) (hn : (fn.name == "runtime.NumGoroutine") = false := by kernel_rfl) : Dr Tryz.prog f := Go.SL.Zg hf hb hn
abbrev ln {α:Type} (l:List α):Int:=(l.length:Int)
abbrev dI (x:Int):AV:=.d (I x)
abbrev dB (x:Bool):AV:=.d (Bo x)
abbrev dO (a b:Nat):AV:=.d (.o a b)
abbrev dS (a:Nat):AV:=.d (.os a)
theorem k44  (r:(List Az)) (h:F44  = r):CO 44 [] [] (.d (DS q76 r)) []:=by
 unfold F44 at h
 refine co 10 Tryz.func44 λ C hC=>?_
 subst h
 exact wr [0] 25 [] [] [] 0 [] hC []
theorem e44:EN 44:=en Tryz.func44
def Re:List Nat:=[0,1,4,6,7,8,9,10,21]
def Qc (x0:Int) (x1:List Int) (n0:Nat) (z0:Unit):St:=[(0,dI x0),(4,dB false),(7,.d (DS pI x1)),(8,dI (ln x1)),(9,dI (cnt 0 n0))]
def Vn  (n0:Nat) (z0:Unit):List Res:=[]
def Wp  (z0:Unit):St:=[(4,dB false)]
def X7  (z0:Unit):List Res:=[]
theorem k30 (x0:Int) (x1:List Int) (r:Bool) (h:F30 x0 x1=some r):CO 30 [.d (I x0),.d (DS pI x1)] [] (.d (Bo r)) []:=by
 unfold F30 at h
 refine co 23 Tryz.func30 λ C hC=>?_
 refine ws Re 26 [] [pl pI x1] [] 0 [] (Qc x0 x1 0 ()) (Vn 0 ()) hC [] ?_
 obtain⟨w0,hm0,hret0,hnext0⟩:=Aj h
 clear h
 refine wc w0 (Wp) (X7) ?_ λ z0 hs0=>?_
 ·refine wb ?_
  refine C5 7 rfl λ hl0=>?_
  refine wl (Qc x0 x1) (Vn) hm0 (λ z0 hn0=>?_) λ n0 a0 z0 w0b hi0 hx0 h hb0 hr0=>?_
  ·clear hm0
   exact wx w0 (Wp) (X7) Re 26 [false] [] [] 0 [] _ hC [pq (Bl hl0)] hn0
  ·unfold J8 at h
   rcases cB h with⟨h1,h⟩ | ⟨h1,h⟩
   ·have hq:=hret0 _ (hr0 _ (sI h).symm)
    replace hq:=sI hq
    subst hq
    exact wr Re 35 [true,true] [pt hx0 hl0] [] 0 [] hC [pq (Al hi0 hl0),pq h1]
   ·exact wx w0b (Qc x0 x1 (n0+1)) (Vn (n0+1)) Re 36 [true,false] [pt hx0 hl0] [] 0 [] _ hC [pq (Al hi0 hl0),pq h1] (sI h).symm
 ·have h:=hnext0 _ hs0
  replace h:=sI h
  subst h
  exact wr Re 23 [] [] [] 0 [] hC []
theorem e30:EN 30:=en Tryz.func30
theorem k41 (x0:Int) (r:ByteArray) (h:F41 x0=some r):CO 41 [.d (I x0)] [] (.d (.p (.v (.string r)))) []:=zG x0 r h
theorem e41:EN 41:=en Tryz.func41
theorem k42 (x0:List ByteArray) (x1:ByteArray) (r:ByteArray) (h:F42 x0 x1=some r):CO 42 [.d (DS pS x0),.d (.p (.v (.string x1)))] [] (.d (.p (.v (.string r)))) []:=zF x0 x1 r h
theorem e42:EN 42:=en Tryz.func42
def D6:List Nat:=[0,1,4,5,8,9,10,27,28,29]
def Lz (y1:Int) (z0:Sg3):St:=[(0,dO 0 0),(8,dI y1),(9,dI z0.1)]
def Ot (x0:Ac) (z0:Sg3):List Res:=[.box 85 [I x0.time,I x0.weather.Wind.From,I x0.weather.Wind.Speed,I x0.weather.Current.From,I x0.weather.Current.Speed,I x0.weather.Wave.From,I x0.weather.Wave.Speed,I x0.heading,I z0.2.1,I z0.2.2.1,I (g3_ z0),I (g4_ z0),I (g5_ z0),I (g6_ z0),I (g7_ z0),.os 6,.os 7,.os 8,I (g8_ z0),.os 9,.os 10],.non,.non,.non,.non,.non,v2_ (g9_ z0),v3_ (Bq z0),v4_ (Bp z0),v1_ (Cb z0),v0_ (Ks z0)]
def Qv  (z0:Sg3):St:=[]
def Sx (x0:Ac) (z0:Sg3):List Res:=[.box 85 [I x0.time,I x0.weather.Wind.From,I x0.weather.Wind.Speed,I x0.weather.Current.From,I x0.weather.Current.Speed,I x0.weather.Wave.From,I x0.weather.Wave.Speed,I x0.heading,I z0.2.1,I z0.2.2.1,I (g3_ z0),I (g4_ z0),I (g5_ z0),I (g6_ z0),I (g7_ z0),.os 6,.os 7,.os 8,I (g8_ z0),.os 9,.os 10],.non,.non,.non,.non,.non,v2_ (g9_ z0),v3_ (Bq z0),v4_ (Bp z0),v1_ (Cb z0),v0_ (Ks z0)]
def Ly (y1:Int) (z0:Sg3) (z1:Int×(List Ag)):St:=[(0,dO 0 0),(4,dO 11 0),(8,dI y1),(9,dI z0.1),(27,dI (ln (g9_ z0))),(28,dI z1.1)]
def Oq (x0:Ac) (z0:Sg3) (z1:Int×(List Ag)):List Res:=[.box 85 [I x0.time,I x0.weather.Wind.From,I x0.weather.Wind.Speed,I x0.weather.Current.From,I x0.weather.Current.Speed,I x0.weather.Wave.From,I x0.weather.Wave.Speed,I x0.heading,I z0.2.1,I z0.2.2.1,I (g3_ z0),I (g4_ z0),I (g5_ z0),I (g6_ z0),I (g7_ z0),.os 6,.os 7,.os 8,I (g8_ z0),.os 9,.os 10],.non,.non,.non,.non,.non,v2_ z1.2,v3_ (Bq z0),v4_ (Bp z0),v1_ (Cb z0),v0_ (Ks z0),.box 60 [I x0.weather.Wind.From,I x0.weather.Wind.Speed,I x0.weather.Current.From,I x0.weather.Current.Speed,I x0.weather.Wave.From,I x0.weather.Wave.Speed,I x0.heading,.os 6,.os 7,.os 8,I (g8_ z0),.os 9]]
def Qu (y1:Int) (z0:Sg3) (z1:Int×(List Ag)):St:=[(0,dO 0 0),(4,dO 11 0),(8,dI y1),(9,dI z0.1)]
def Sw (x0:Ac) (z0:Sg3) (z1:Int×(List Ag)):List Res:=[.box 85 [I x0.time,I x0.weather.Wind.From,I x0.weather.Wind.Speed,I x0.weather.Current.From,I x0.weather.Current.Speed,I x0.weather.Wave.From,I x0.weather.Wave.Speed,I x0.heading,I z0.2.1,I z0.2.2.1,I (g3_ z0),I (g4_ z0),I (g5_ z0),I (g6_ z0),I (g7_ z0),.os 6,.os 7,.os 8,I (g8_ z0),.os 9,.os 10],.non,.non,.non,.non,.non,v2_ z1.2,v3_ (Bq z0),v4_ (Bp z0),v1_ (Cb z0),v0_ (Ks z0),.box 60 [I x0.weather.Wind.From,I x0.weather.Wind.Speed,I x0.weather.Current.From,I x0.weather.Current.Speed,I x0.weather.Wave.From,I x0.weather.Wave.Speed,I x0.heading,.os 6,.os 7,.os 8,I (g8_ z0),.os 9]]
theorem jA (x0:Ac) (x1:List Int) (r:Ac) (h:I6 x0 x1=some r):CO 64 [.d (.o 0 0),.d (DS pI x1)] [.box 85 [I x0.time,I x0.weather.Wind.From,I x0.weather.Wind.Speed,I x0.weather.Current.From,I x0.weather.Current.Speed,I x0.weather.Wave.From,I x0.weather.Wave.Speed,I x0.heading,I x0.next.Weather.Wind.From,I x0.next.Weather.Wind.Speed,I x0.next.Weather.Current.From,I x0.next.Weather.Current.Speed,I x0.next.Weather.Wave.From,I x0.next.Weather.Wave.Speed,I x0.next.Heading,.os 1,.os 2,.os 3,I x0.next.Request,.os 4,.os 5],v2_ x0.next.Sights,v3_ x0.next.Acts,v4_ x0.next.Faults,v1_ x0.next.Seen,v0_ x0.out] (.tup []) [.box 85 [I r.time,I r.weather.Wind.From,I r.weather.Wind.Speed,I r.weather.Current.From,I r.weather.Current.Speed,I r.weather.Wave.From,I r.weather.Wave.Speed,I r.heading,I r.next.Weather.Wind.From,I r.next.Weather.Wind.Speed,I r.next.Weather.Current.From,I r.next.Weather.Current.Speed,I r.next.Weather.Wave.From,I r.next.Weather.Wave.Speed,I r.next.Heading,.os 6,.os 7,.os 8,I r.next.Request,.os 9,.os 10],.non,.non,.non,.non,.non,v2_ r.next.Sights,v3_ r.next.Acts,v4_ r.next.Faults,v1_ r.next.Seen,v0_ r.out]:=by
 unfold I6 at h
 refine co 64 Tryz.func64 λ C hC=>?_
 obtain⟨y1,h2,h⟩:=Ah h
 refine ws D6 23 [] [pr pI h2] [.mv 1,.mv 2,.mv 3,.mv 4,.mv 5] 6 Hn (Lz y1 (0,x0.next.Weather.Wind.From,x0.next.Weather.Wind.Speed,x0.next.Weather.Current.From,x0.next.Weather.Current.Speed,x0.next.Weather.Wave.From,x0.next.Weather.Wave.Speed,x0.next.Heading,x0.next.Request,x0.next.Sights,x0.next.Acts,x0.next.Faults,x0.next.Seen,x0.out)) (Ot x0 (0,x0.next.Weather.Wind.From,x0.next.Weather.Wind.Speed,x0.next.Weather.Current.From,x0.next.Weather.Current.Speed,x0.next.Weather.Wave.From,x0.next.Weather.Wave.Speed,x0.next.Heading,x0.next.Request,x0.next.Sights,x0.next.Acts,x0.next.Faults,x0.next.Seen,x0.out)) hC [] ?_
 obtain⟨w0,hm0,hret0,hnext0⟩:=Aj h
 clear h
 refine wc w0 (Qv) (Sx x0) ?_ λ z0 hs0=>?_
 ·refine wb ?_
  refine ww (Lz y1) (Ot x0) hm0 λ z0 w0b h hb0 hr0=>?_
  unfold Dp at h
  rcases cB h with⟨h3,h⟩ | ⟨h3,h⟩
  ·refine ws D6 35 [true] [pl q95 (g9_ z0)] [] 6 Hm (Ly y1 z0 (0,(g9_ z0))) (Oq x0 z0 (0,(g9_ z0))) hC [pq h3] ?_
   obtain⟨w1,hm1,hret1,hnext1⟩:=Aj h
   clear h
   refine wc w1 (Qu y1 z0) (Sw x0 z0) ?_ λ z1 hs1=>?_
   ·refine wb ?_
    refine ww (Ly y1 z0) (Oq x0 z0) hm1 λ z1 w1b h hb1 hr1=>?_
    unfold I5 at h
    rcases cB h with⟨h4,h⟩ | ⟨h4,h⟩
    ·obtain⟨y5,h6,y7,h8,h⟩:=Ay h
     exact wx w1b (Ly y1 z0) (Oq x0 z0) D6 33 [true] [pl q60 (Ks z0),pr q95 h6,pu q95 h6 h8] [] 6 Hm _ hC [pq h4] (sI h).symm
    ·exact wx w1 (Qu y1 z0) (Sw x0 z0) D6 26 [false] [] [] 6 Hm (z1.1,z1.2) hC [pq h4] (hb1 _ (sI h).symm)
   ·have h:=hnext1 _ hs1
    refine wn D6 0 [] [] [.frz 6] 6 [0,1,2,3,4,5,7,8,9,10,11] [0,4,8,9] hC [] ?_
    refine wn D6 0 [] [] [.frz 6] 6 [0,1,2,3,4,5,7,8,9,10] [0,4,8,9] hC [] ?_
    refine wn D6 0 [] [] [.frz 6] 6 [0,1,2,3,4,5,7,8,9] [0,4,8,9] hC [] ?_
    refine wn D6 0 [] [] [.frz 6] 6 [0,1,2,3,4,5,7,8] [0,4,8,9] hC [] ?_
    obtain⟨y9,h10,h⟩:=Ah h
    exact wx w0b (Lz y1) (Ot x0) D6 24 [] [pa q60 12 h10] [.ownb 0 15 95 5,.ownb 0 16 87 3,.ownb 0 17 91 4,.ownb 0 19 3 1] 6 [0,1,2,3,4,5,9,10,11,12,8] _ hC [] (sI h).symm
  ·exact wx w0 (Qv) (Sx x0) D6 26 [false] [] [] 6 Hn (z0.1,z0.2.1,z0.2.2.1,(g3_ z0),(g4_ z0),(g5_ z0),(g6_ z0),(g7_ z0),(g8_ z0),(g9_ z0),(Bq z0),(Bp z0),(Cb z0),(Ks z0)) hC [pq h3] (hb0 _ (sI h).symm)
 ·have h:=hnext0 _ hs0
  replace h:=sI h
  subst h
  exact wf D6 20 [] [] [] 6 Hn hC []
theorem jL:EN 64:=en Tryz.func64
theorem jB (x0:Ac) (x1:List Int) (r:Ac) (h:K1 x0 x1=some r):CO 63 [.d (.o 0 0),.d (DS pI x1)] [.box 85 [I x0.time,I x0.weather.Wind.From,I x0.weather.Wind.Speed,I x0.weather.Current.From,I x0.weather.Current.Speed,I x0.weather.Wave.From,I x0.weather.Wave.Speed,I x0.heading,I x0.next.Weather.Wind.From,I x0.next.Weather.Wind.Speed,I x0.next.Weather.Current.From,I x0.next.Weather.Current.Speed,I x0.next.Weather.Wave.From,I x0.next.Weather.Wave.Speed,I x0.next.Heading,.os 1,.os 2,.os 3,I x0.next.Request,.os 4,.os 5],v2_ x0.next.Sights,v3_ x0.next.Acts,v4_ x0.next.Faults,v1_ x0.next.Seen,v0_ x0.out] (.tup []) [.box 85 [I r.time,I r.weather.Wind.From,I r.weather.Wind.Speed,I r.weather.Current.From,I r.weather.Current.Speed,I r.weather.Wave.From,I r.weather.Wave.Speed,I r.heading,I r.next.Weather.Wind.From,I r.next.Weather.Wind.Speed,I r.next.Weather.Current.From,I r.next.Weather.Current.Speed,I r.next.Weather.Wave.From,I r.next.Weather.Wave.Speed,I r.next.Heading,.os 1,.os 2,.os 3,I r.next.Request,.os 6,.os 5],v2_ r.next.Sights,v3_ r.next.Acts,v4_ r.next.Faults,.non,v0_ r.out,v1_ r.next.Seen]:=by
 unfold K1 at h
 refine co 18 Tryz.func63 λ C hC=>?_
 obtain⟨y1,h2,y3,h4,h⟩:=Ay h
 replace h:=sI h
 subst h
 exact wf [0,1] 21 [] [pr pI h2,pa pI 1 h4] [] 6 n7_ hC []
theorem jM:EN 63:=en Tryz.func63
theorem jC (x0:Ac) (x1:List Int) (r:Ac) (h:K2 x0 x1=some r):CO 62 [.d (.o 0 0),.d (DS pI x1)] [.box 85 [I x0.time,I x0.weather.Wind.From,I x0.weather.Wind.Speed,I x0.weather.Current.From,I x0.weather.Current.Speed,I x0.weather.Wave.From,I x0.weather.Wave.Speed,I x0.heading,I x0.next.Weather.Wind.From,I x0.next.Weather.Wind.Speed,I x0.next.Weather.Current.From,I x0.next.Weather.Current.Speed,I x0.next.Weather.Wave.From,I x0.next.Weather.Wave.Speed,I x0.next.Heading,.os 1,.os 2,.os 3,I x0.next.Request,.os 4,.os 5],v2_ x0.next.Sights,v3_ x0.next.Acts,v4_ x0.next.Faults,v1_ x0.next.Seen,v0_ x0.out] (.tup []) [.box 85 [I r.time,I r.weather.Wind.From,I r.weather.Wind.Speed,I r.weather.Current.From,I r.weather.Current.Speed,I r.weather.Wave.From,I r.weather.Wave.Speed,I r.heading,I r.next.Weather.Wind.From,I r.next.Weather.Wind.Speed,I r.next.Weather.Current.From,I r.next.Weather.Current.Speed,I r.next.Weather.Wave.From,I r.next.Weather.Wave.Speed,I r.next.Heading,.os 1,.os 2,.os 3,I r.next.Request,.os 4,.os 5],v2_ r.next.Sights,v3_ r.next.Acts,v4_ r.next.Faults,v1_ r.next.Seen,v0_ r.out]:=by
 unfold K2 at h
 refine co 11 Tryz.func62 λ C hC=>?_
 obtain⟨y1,h2,h⟩:=Ah h
 replace h:=sI h
 subst h
 exact wf [0,1] 21 [] [pr pI h2] [] 6 n6_ hC []
theorem jN:EN 62:=en Tryz.func62
theorem jD (x0:Ac) (x1:List Int) (r:Ac) (h:K3 x0 x1=some r):CO 61 [.d (.o 0 0),.d (DS pI x1)] [.box 85 [I x0.time,I x0.weather.Wind.From,I x0.weather.Wind.Speed,I x0.weather.Current.From,I x0.weather.Current.Speed,I x0.weather.Wave.From,I x0.weather.Wave.Speed,I x0.heading,I x0.next.Weather.Wind.From,I x0.next.Weather.Wind.Speed,I x0.next.Weather.Current.From,I x0.next.Weather.Current.Speed,I x0.next.Weather.Wave.From,I x0.next.Weather.Wave.Speed,I x0.next.Heading,.os 1,.os 2,.os 3,I x0.next.Request,.os 4,.os 5],v2_ x0.next.Sights,v3_ x0.next.Acts,v4_ x0.next.Faults,v1_ x0.next.Seen,v0_ x0.out] (.tup []) [.box 85 [I r.time,I r.weather.Wind.From,I r.weather.Wind.Speed,I r.weather.Current.From,I r.weather.Current.Speed,I r.weather.Wave.From,I r.weather.Wave.Speed,I r.heading,I r.next.Weather.Wind.From,I r.next.Weather.Wind.Speed,I r.next.Weather.Current.From,I r.next.Weather.Current.Speed,I r.next.Weather.Wave.From,I r.next.Weather.Wave.Speed,I r.next.Heading,.os 6,.os 2,.os 3,I r.next.Request,.os 4,.os 5],.non,v3_ r.next.Acts,v4_ r.next.Faults,v1_ r.next.Seen,v0_ r.out,v2_ r.next.Sights]:=by
 unfold K3 at h
 refine co 29 Tryz.func61 λ C hC=>?_
 obtain⟨y1,h2,y3,h4,y5,h6,h⟩:=A9 h
 obtain⟨y7,h8,y9,h10,h⟩:=Ay h
 replace h:=sI h
 subst h
 exact wf [0,1] 21 [] [pr pI h2,pr pI h4,pr pI h6,pr pI h8,pa q95 5 h10] [] 6 n7_ hC []
theorem jO:EN 61:=en Tryz.func61
theorem jE (x0:Ac) (x1:List Int) (r:Ac) (h:K4 x0 x1=some r):CO 60 [.d (.o 0 0),.d (DS pI x1)] [.box 85 [I x0.time,I x0.weather.Wind.From,I x0.weather.Wind.Speed,I x0.weather.Current.From,I x0.weather.Current.Speed,I x0.weather.Wave.From,I x0.weather.Wave.Speed,I x0.heading,I x0.next.Weather.Wind.From,I x0.next.Weather.Wind.Speed,I x0.next.Weather.Current.From,I x0.next.Weather.Current.Speed,I x0.next.Weather.Wave.From,I x0.next.Weather.Wave.Speed,I x0.next.Heading,.os 1,.os 2,.os 3,I x0.next.Request,.os 4,.os 5],v2_ x0.next.Sights,v3_ x0.next.Acts,v4_ x0.next.Faults,v1_ x0.next.Seen,v0_ x0.out] (.tup []) [.box 85 [I r.time,I r.weather.Wind.From,I r.weather.Wind.Speed,I r.weather.Current.From,I r.weather.Current.Speed,I r.weather.Wave.From,I r.weather.Wave.Speed,I r.heading,I r.next.Weather.Wind.From,I r.next.Weather.Wind.Speed,I r.next.Weather.Current.From,I r.next.Weather.Current.Speed,I r.next.Weather.Wave.From,I r.next.Weather.Wave.Speed,I r.next.Heading,.os 1,.os 2,.os 3,I r.next.Request,.os 4,.os 5],v2_ r.next.Sights,v3_ r.next.Acts,v4_ r.next.Faults,v1_ r.next.Seen,v0_ r.out]:=by
 unfold K4 at h
 refine co 35 Tryz.func60 λ C hC=>?_
 obtain⟨y1,h2,y3,h4,y5,h6,y7,h8,h⟩:=Dq h
 obtain⟨y9,h10,y11,h12,y13,h14,h⟩:=A9 h
 replace h:=sI h
 subst h
 exact wf [0,1] 23 [] [pr pI h2,pr pI h4,pr pI h6,pr pI h8,pr pI h10,pr pI h12,pr pI h14] [] 6 n6_ hC []
theorem jP:EN 60:=en Tryz.func60
theorem jG (x0:Ac) (x1:Int) (x2:List Int) (r:Ac) (h:K6 x0 x1 x2=some r):CO 58 [.d (.o 0 0),.d (I x1),.d (DS pI x2)] [.box 85 [I x0.time,I x0.weather.Wind.From,I x0.weather.Wind.Speed,I x0.weather.Current.From,I x0.weather.Current.Speed,I x0.weather.Wave.From,I x0.weather.Wave.Speed,I x0.heading,I x0.next.Weather.Wind.From,I x0.next.Weather.Wind.Speed,I x0.next.Weather.Current.From,I x0.next.Weather.Current.Speed,I x0.next.Weather.Wave.From,I x0.next.Weather.Wave.Speed,I x0.next.Heading,.os 1,.os 2,.os 3,I x0.next.Request,.os 4,.os 5],v2_ x0.next.Sights,v3_ x0.next.Acts,v4_ x0.next.Faults,v1_ x0.next.Seen,v0_ x0.out] (.tup []) [.box 85 [I r.time,I r.weather.Wind.From,I r.weather.Wind.Speed,I r.weather.Current.From,I r.weather.Current.Speed,I r.weather.Wave.From,I r.weather.Wave.Speed,I r.heading,I r.next.Weather.Wind.From,I r.next.Weather.Wind.Speed,I r.next.Weather.Current.From,I r.next.Weather.Current.Speed,I r.next.Weather.Wave.From,I r.next.Weather.Wave.Speed,I r.next.Heading,.os 1,.os 2,.os 6,I r.next.Request,.os 4,.os 5],v2_ r.next.Sights,v3_ r.next.Acts,.non,v1_ r.next.Seen,v0_ r.out,v4_ r.next.Faults]:=by
 unfold K6 at h
 refine co 26 Tryz.func58 λ C hC=>?_
 obtain⟨y1,h2,y3,h4,y5,h6,h⟩:=A9 h
 replace h:=sI h
 subst h
 exact wf n3_ 21 [] [pr pI h2,pr pI h4,pa q91 4 h6] [] 6 n7_ hC []
theorem jR:EN 58:=en Tryz.func58
theorem jI (x0:Ac) (x1:List Int) (r:Ac) (h:K8 x0 x1=some r):CO 56 [.d (.o 0 0),.d (DS pI x1)] [.box 85 [I x0.time,I x0.weather.Wind.From,I x0.weather.Wind.Speed,I x0.weather.Current.From,I x0.weather.Current.Speed,I x0.weather.Wave.From,I x0.weather.Wave.Speed,I x0.heading,I x0.next.Weather.Wind.From,I x0.next.Weather.Wind.Speed,I x0.next.Weather.Current.From,I x0.next.Weather.Current.Speed,I x0.next.Weather.Wave.From,I x0.next.Weather.Wave.Speed,I x0.next.Heading,.os 1,.os 2,.os 3,I x0.next.Request,.os 4,.os 5],v2_ x0.next.Sights,v3_ x0.next.Acts,v4_ x0.next.Faults,v1_ x0.next.Seen,v0_ x0.out] (.tup []) [.box 85 [I r.time,I r.weather.Wind.From,I r.weather.Wind.Speed,I r.weather.Current.From,I r.weather.Current.Speed,I r.weather.Wave.From,I r.weather.Wave.Speed,I r.heading,I r.next.Weather.Wind.From,I r.next.Weather.Wind.Speed,I r.next.Weather.Current.From,I r.next.Weather.Current.Speed,I r.next.Weather.Wave.From,I r.next.Weather.Wave.Speed,I r.next.Heading,.os 1,.os 6,.os 3,I r.next.Request,.os 4,.os 5],v2_ r.next.Sights,.non,v4_ r.next.Faults,v1_ r.next.Seen,v0_ r.out,v3_ r.next.Acts]:=by
 unfold K8 at h
 refine co 25 Tryz.func56 λ C hC=>?_
 obtain⟨y1,h2,y3,h4,y5,h6,y7,h8,h⟩:=Dq h
 replace h:=sI h
 subst h
 exact wf [0,1] 21 [] [pr pI h2,pr pI h4,pr pI h6,pa q87 3 h8] [] 6 n7_ hC []
theorem jT:EN 56:=en Tryz.func56
theorem k6 (x0:List Int) (r:Ad) (h:F6 x0=some r):CO 6 [.d (DS pI x0)] [] (.d (.o 0 0)) [.box 62 (d62 r)]:=by
 unfold F6 at h
 refine co 10 Tryz.func6 λ C hC=>?_
 obtain⟨y2,h1,h⟩:=Ah h
 replace h:=sI h
 subst h
 exact wr [0,2] 25 [] [pl pI x0,⟨.cut (x0.map pI) 1 0 (min (ln x0) 600) (y2.map pI),uB pI 1 (λ _=>rfl) h1⟩] [] 0 [0] hC []
theorem e6:EN 6:=en Tryz.func6
theorem k18 (x0:Int) (x1:Int) (r:Int) (h:F18 x0 x1=some r):CO 18 [.d (I x0),.d (I x1)] [] (.d (I r)) []:=by
 unfold F18 at h
 refine co 14 Tryz.func18 λ C hC=>?_
 rcases cB h with⟨h1,h⟩ | ⟨h1,h⟩
 ·replace h:=sI h
  subst h
  exact wr [0,1,4,6] 29 [true] [] [] 0 [] hC [pq h1]
 ·obtain⟨u3,h2,u5,h4,h⟩:=Ay h
  replace h:=sI h
  subst h
  exact wr [0,1,4,6] 30 [false] [⟨.nz x1,Fz h2⟩,⟨.nz x1,Fz h4⟩] [] 0 [] hC [pq h1]
theorem e18:EN 18:=en Tryz.func18
theorem k31  (r:Ig) (h:F31  = r):CO 31 [] [] (.agg (d80 r)) []:=by
 unfold F31 at h
 refine co 2 Tryz.func31 λ C hC=>?_
 subst h
 exact wr [0] 25 [] [] [] 0 [] hC []
theorem e31:EN 31:=en Tryz.func31
theorem k43  (r:Ff) (h:F43  = r):CO 43 [] [] (.agg (zP r)) []:=by
 unfold F43 at h
 refine co 2 Tryz.func43 λ C hC=>?_
 subst h
 exact wr [0] 25 [] [] [] 0 [] hC []
theorem e43:EN 43:=en Tryz.func43
def Cr:List Nat:=[0,1,4,5,6,7,8,9,10,11,16,18,19,20,84,87,88,89,101,105,106,107,119,123,124,125,137,141,142,143,155]
def Ql (x0:List Aa) (x1:List Aa) (n0:Nat) (z0:Unit):St:=[(0,.d (DS q60 x0)),(1,.d (DS q60 x1)),(4,dB false),(18,dI (ln x0)),(19,dI (cnt 0 n0))]
def Vw  (n0:Nat) (z0:Unit):List Res:=[]
def Wz  (z0:Unit):St:=[(4,dB false)]
def Yf  (z0:Unit):List Res:=[]
def Qk (x0:List Aa) (x1:List Aa) (n0:Nat) (a0:Aa) (z1:Int):St:=[(0,.d (DS q60 x0)),(1,.d (DS q60 x1)),(4,dB false),(6,dO 0 0),(7,dO 1 0),(18,dI (ln x0)),(19,dI (cnt 0 n0)),(87,dI (ln a0.Sights)),(88,dI z1)]
def Vv (a0:Aa) (y2:Aa) (z1:Int):List Res:=[.box 60 (d60 a0),.box 60 (d60 y2)]
def Wy (x0:List Aa) (x1:List Aa) (n0:Nat) (z1:Int):St:=[(0,.d (DS q60 x0)),(1,.d (DS q60 x1)),(4,dB false),(6,dO 0 0),(7,dO 1 0),(18,dI (ln x0)),(19,dI (cnt 0 n0))]
def Ye (a0:Aa) (y2:Aa) (z1:Int):List Res:=[.box 60 (d60 a0),.box 60 (d60 y2)]
def Qj (x0:List Aa) (x1:List Aa) (n0:Nat) (a0:Aa) (z2:Int):St:=[(0,.d (DS q60 x0)),(1,.d (DS q60 x1)),(4,dB false),(6,dO 0 0),(7,dO 1 0),(18,dI (ln x0)),(19,dI (cnt 0 n0)),(105,dI (ln a0.Acts)),(106,dI z2)]
def Vu (a0:Aa) (y2:Aa) (z2:Int):List Res:=[.box 60 (d60 a0),.box 60 (d60 y2)]
def Wx (x0:List Aa) (x1:List Aa) (n0:Nat) (z2:Int):St:=[(0,.d (DS q60 x0)),(1,.d (DS q60 x1)),(4,dB false),(6,dO 0 0),(7,dO 1 0),(18,dI (ln x0)),(19,dI (cnt 0 n0))]
def Yd (a0:Aa) (y2:Aa) (z2:Int):List Res:=[.box 60 (d60 a0),.box 60 (d60 y2)]
def Qi (x0:List Aa) (x1:List Aa) (n0:Nat) (a0:Aa) (z3:Int):St:=[(0,.d (DS q60 x0)),(1,.d (DS q60 x1)),(4,dB false),(6,dO 0 0),(7,dO 1 0),(18,dI (ln x0)),(19,dI (cnt 0 n0)),(123,dI (ln a0.Faults)),(124,dI z3)]
def Vt (a0:Aa) (y2:Aa) (z3:Int):List Res:=[.box 60 (d60 a0),.box 60 (d60 y2)]
def Ww (x0:List Aa) (x1:List Aa) (n0:Nat) (z3:Int):St:=[(0,.d (DS q60 x0)),(1,.d (DS q60 x1)),(4,dB false),(6,dO 0 0),(7,dO 1 0),(18,dI (ln x0)),(19,dI (cnt 0 n0))]
def Yc (a0:Aa) (y2:Aa) (z3:Int):List Res:=[.box 60 (d60 a0),.box 60 (d60 y2)]
def Qh (x0:List Aa) (x1:List Aa) (n0:Nat) (a0:Aa) (z4:Int):St:=[(0,.d (DS q60 x0)),(1,.d (DS q60 x1)),(4,dB false),(6,dO 0 0),(7,dO 1 0),(18,dI (ln x0)),(19,dI (cnt 0 n0)),(141,dI (ln a0.Seen)),(142,dI z4)]
def Vs (a0:Aa) (y2:Aa) (z4:Int):List Res:=[.box 60 (d60 a0),.box 60 (d60 y2)]
def Wv (x0:List Aa) (x1:List Aa) (n0:Nat) (z4:Int):St:=[(0,.d (DS q60 x0)),(1,.d (DS q60 x1)),(4,dB false),(18,dI (ln x0)),(19,dI (cnt 0 n0))]
def Yb  (z4:Int):List Res:=[]
set_option maxHeartbeats 4000000 in
theorem k17 (x0 : List Aa) (x1 : List Aa) (r : Bool) (h : F17 x0 x1 = some r) : CO 17 [.d (DS q60 x0), .d (DS q60 x1)] [] (.d (Bo r)) [] := by
 unfold F17 at h
 refine co 158 Tryz.func17 λ C hC=>?_
 rcases cB h with⟨h1,h⟩ | ⟨h1,h⟩
 ·replace h:=sI h
  subst h
  exact wr Cr 29 [true] [pl q60 x0,pl q60 x1] [] 0 [] hC [pq h1]
 ·refine ws Cr 31 [false] [pl q60 x0, pl q60 x1, pl q60 x0] [] 0 [] (Ql x0 x1 0 ()) (Vw 0 ()) hC [pq h1] ?_
  obtain⟨w0,hm0,hret0,hnext0⟩:=Aj h
  clear h
  refine wc w0 (Wz) (Yf) ?_ λ z0 hs0=>?_
  ·refine wb ?_
   refine C5 0 rfl λ hl0=>?_
   refine wl (Ql x0 x1) (Vw) hm0 (λ z0 hn0=>?_) λ n0 a0 z0 w0b hi0 hx0 h hb0 hr0=>?_
   ·clear hm0
    exact wx w0 (Wz) (Yf) Cr 26 [false] [] [] 0 [] _ hC [pq (Bl hl0)] hn0
   ·unfold S7 at h
    obtain⟨y2,h3,h⟩:=Ah h
    refine wn Cr 35 [true] [⟨.flts [.box 60 [I 0,I 0,I 0,I 0,I 0,I 0,I 0,.p (.v (.slice none 0 0)),.p (.v (.slice none 0 0)),.p (.v (.slice none 0 0)),I 0,.p (.v (.slice none 0 0))],.box 60 [I 0,I 0,I 0,I 0,I 0,I 0,I 0,.p (.v (.slice none 0 0)),.p (.v (.slice none 0 0)),.p (.v (.slice none 0 0)),I 0,.p (.v (.slice none 0 0))]],trivial⟩,pt hx0 hl0,pr q60 h3,⟨.flt 0 (.box 60 [I 0,I 0,I 0,I 0,I 0,I 0,I 0,.p (.v (.slice none 0 0)),.p (.v (.slice none 0 0)),.p (.v (.slice none 0 0)),I 0,.p (.v (.slice none 0 0))]) (.box 60 [I 0,I 0,I 0,I 0,I 0,I 0,I 0,.p (.v (.slice none 0 0)),.p (.v (.slice none 0 0)),.p (.v (.slice none 0 0)),I 0,.p (.v (.slice none 0 0))]),rfl⟩,⟨.flt 1 (.box 60 [I 0,I 0,I 0,I 0,I 0,I 0,I 0,.p (.v (.slice none 0 0)),.p (.v (.slice none 0 0)),.p (.v (.slice none 0 0)),I 0,.p (.v (.slice none 0 0))]) (.box 60 [I 0,I 0,I 0,I 0,I 0,I 0,I 0,.p (.v (.slice none 0 0)),.p (.v (.slice none 0 0)),.p (.v (.slice none 0 0)),I 0,.p (.v (.slice none 0 0))]),rfl⟩,pL_ [((((!(((a0.Weather.Wind.From==y2.Weather.Wind.From)&&((a0.Weather.Wind.Speed==y2.Weather.Wind.Speed)&&true))&&(((a0.Weather.Current.From==y2.Weather.Current.From)&&((a0.Weather.Current.Speed==y2.Weather.Current.Speed)&&true))&&(((a0.Weather.Wave.From==y2.Weather.Wave.From)&&((a0.Weather.Wave.Speed==y2.Weather.Wave.Speed)&&true))&&true)))) || (a0.Heading != y2.Heading)) || (a0.Request != y2.Request)),false)] q95 a0.Sights,pL_ [((((!(((a0.Weather.Wind.From==y2.Weather.Wind.From)&&((a0.Weather.Wind.Speed==y2.Weather.Wind.Speed)&&true))&&(((a0.Weather.Current.From==y2.Weather.Current.From)&&((a0.Weather.Current.Speed==y2.Weather.Current.Speed)&&true))&&(((a0.Weather.Wave.From==y2.Weather.Wave.From)&&((a0.Weather.Wave.Speed==y2.Weather.Wave.Speed)&&true))&&true)))) || (a0.Heading != y2.Heading)) || (a0.Request != y2.Request)),false)] q95 y2.Sights,pL_ [(((((!(((a0.Weather.Wind.From==y2.Weather.Wind.From)&&((a0.Weather.Wind.Speed==y2.Weather.Wind.Speed)&&true))&&(((a0.Weather.Current.From==y2.Weather.Current.From)&&((a0.Weather.Current.Speed==y2.Weather.Current.Speed)&&true))&&(((a0.Weather.Wave.From==y2.Weather.Wave.From)&&((a0.Weather.Wave.Speed==y2.Weather.Wave.Speed)&&true))&&true)))) || (a0.Heading != y2.Heading)) || (a0.Request != y2.Request)) || ((ln a0.Sights) != (ln y2.Sights))),false)] q87 a0.Acts,pL_ [(((((!(((a0.Weather.Wind.From==y2.Weather.Wind.From)&&((a0.Weather.Wind.Speed==y2.Weather.Wind.Speed)&&true))&&(((a0.Weather.Current.From==y2.Weather.Current.From)&&((a0.Weather.Current.Speed==y2.Weather.Current.Speed)&&true))&&(((a0.Weather.Wave.From==y2.Weather.Wave.From)&&((a0.Weather.Wave.Speed==y2.Weather.Wave.Speed)&&true))&&true)))) || (a0.Heading != y2.Heading)) || (a0.Request != y2.Request)) || ((ln a0.Sights) != (ln y2.Sights))),false)] q87 y2.Acts,pL_ [((((((!(((a0.Weather.Wind.From==y2.Weather.Wind.From)&&((a0.Weather.Wind.Speed==y2.Weather.Wind.Speed)&&true))&&(((a0.Weather.Current.From==y2.Weather.Current.From)&&((a0.Weather.Current.Speed==y2.Weather.Current.Speed)&&true))&&(((a0.Weather.Wave.From==y2.Weather.Wave.From)&&((a0.Weather.Wave.Speed==y2.Weather.Wave.Speed)&&true))&&true)))) || (a0.Heading != y2.Heading)) || (a0.Request != y2.Request)) || ((ln a0.Sights) != (ln y2.Sights))) || ((ln a0.Acts) != (ln y2.Acts))),false)] q91 a0.Faults,pL_ [((((((!(((a0.Weather.Wind.From==y2.Weather.Wind.From)&&((a0.Weather.Wind.Speed==y2.Weather.Wind.Speed)&&true))&&(((a0.Weather.Current.From==y2.Weather.Current.From)&&((a0.Weather.Current.Speed==y2.Weather.Current.Speed)&&true))&&(((a0.Weather.Wave.From==y2.Weather.Wave.From)&&((a0.Weather.Wave.Speed==y2.Weather.Wave.Speed)&&true))&&true)))) || (a0.Heading != y2.Heading)) || (a0.Request != y2.Request)) || ((ln a0.Sights) != (ln y2.Sights))) || ((ln a0.Acts) != (ln y2.Acts))),false)] q91 y2.Faults,pL_ [(((((((!(((a0.Weather.Wind.From==y2.Weather.Wind.From)&&((a0.Weather.Wind.Speed==y2.Weather.Wind.Speed)&&true))&&(((a0.Weather.Current.From==y2.Weather.Current.From)&&((a0.Weather.Current.Speed==y2.Weather.Current.Speed)&&true))&&(((a0.Weather.Wave.From==y2.Weather.Wave.From)&&((a0.Weather.Wave.Speed==y2.Weather.Wave.Speed)&&true))&&true)))) || (a0.Heading != y2.Heading)) || (a0.Request != y2.Request)) || ((ln a0.Sights) != (ln y2.Sights))) || ((ln a0.Acts) != (ln y2.Acts))) || ((ln a0.Faults) != (ln y2.Faults))),false)] pI a0.Seen,pL_ [(((((((!(((a0.Weather.Wind.From==y2.Weather.Wind.From)&&((a0.Weather.Wind.Speed==y2.Weather.Wind.Speed)&&true))&&(((a0.Weather.Current.From==y2.Weather.Current.From)&&((a0.Weather.Current.Speed==y2.Weather.Current.Speed)&&true))&&(((a0.Weather.Wave.From==y2.Weather.Wave.From)&&((a0.Weather.Wave.Speed==y2.Weather.Wave.Speed)&&true))&&true)))) || (a0.Heading != y2.Heading)) || (a0.Request != y2.Request)) || ((ln a0.Sights) != (ln y2.Sights))) || ((ln a0.Acts) != (ln y2.Acts))) || ((ln a0.Faults) != (ln y2.Faults))),false)] pI y2.Seen] [] 0 [0,1] [0,1,4,6,7,18,19,84] hC [pq (Al hi0 hl0)] ?_
    rcases cB h with⟨h4,h⟩ | ⟨h4,h⟩
    ·have hq:=hret0 _ (hr0 _ (sI h).symm)
     replace hq:=sI hq
     subst hq
     exact wr Cr 24 [true] [] [] 0 [] hC [pq h4]
    ·refine ws Cr 26 [false] [pl q95 a0.Sights] [] 0 [0,1] (Qk x0 x1 n0 a0 0) (Vv a0 y2 0) hC [pq h4] ?_
     obtain⟨w1,hm1,hret1,hnext1⟩:=Aj h
     clear h
     refine wc w1 (Wy x0 x1 n0) (Ye a0 y2) ?_ λ z1 hs1=>?_
     ·refine wb ?_
      refine ww (Qk x0 x1 n0 a0) (Vv a0 y2) hm1 λ z1 w1b h hb1 hr1=>?_
      unfold Kd at h
      rcases cB h with⟨h5,h⟩ | ⟨h5,h⟩
      ·obtain⟨y6,h7,y8,h9,h⟩:=Ay h
       rcases cB h with⟨h10,h⟩ | ⟨h10,h⟩
       ·have hq:=hret1 _ (hr1 _ (sI h).symm)
        replace hq:=hret0 _ (hr0 _ (sI hq).symm)
        replace hq:=sI hq
        subst hq
        exact wr Cr 35 [true,true] [pr q95 h7,pr q95 h9] [] 0 [] hC [pq h5,pq h10]
       ·exact wx w1b (Qk x0 x1 n0 a0) (Vv a0 y2) Cr 36 [true,false] [pr q95 h7,pr q95 h9] [] 0 [0,1] _ hC [pq h5,pq h10] (sI h).symm
      ·exact wx w1 (Wy x0 x1 n0) (Ye a0 y2) Cr 26 [false] [] [] 0 [0,1] z1 hC [pq h5] (hb1 _ (sI h).symm)
     ·have h := hnext1 _ hs1
      refine ws Cr 24 [] [pl q87 a0.Acts] [] 0 [0,1] (Qj x0 x1 n0 a0 0) (Vu a0 y2 0) hC [] ?_
      obtain⟨w2,hm2,hret2,hnext2⟩:=Aj h
      clear h
      refine wc w2 (Wx x0 x1 n0) (Yd a0 y2) ?_ λ z2 hs2=>?_
      ·refine wb ?_
       refine ww (Qj x0 x1 n0 a0) (Vu a0 y2) hm2 λ z2 w2b h hb2 hr2=>?_
       unfold Kc at h
       rcases cB h with⟨h11,h⟩ | ⟨h11,h⟩
       ·obtain⟨y12,h13,y14,h15,h⟩:=Ay h
        rcases cB h with⟨h16,h⟩ | ⟨h16,h⟩
        ·have hq:=hret2 _ (hr2 _ (sI h).symm)
         replace hq:=hret0 _ (hr0 _ (sI hq).symm)
         replace hq:=sI hq
         subst hq
         exact wr Cr 35 [true,true] [pr q87 h13,pr q87 h15] [] 0 [] hC [pq h11,pq h16]
        ·exact wx w2b (Qj x0 x1 n0 a0) (Vu a0 y2) Cr 36 [true,false] [pr q87 h13,pr q87 h15] [] 0 [0,1] _ hC [pq h11,pq h16] (sI h).symm
       ·exact wx w2 (Wx x0 x1 n0) (Yd a0 y2) Cr 26 [false] [] [] 0 [0,1] z2 hC [pq h11] (hb2 _ (sI h).symm)
      ·have h:=hnext2 _ hs2
       refine ws Cr 24 [] [pl q91 a0.Faults] [] 0 [0,1] (Qi x0 x1 n0 a0 0) (Vt a0 y2 0) hC [] ?_
       obtain⟨w3,hm3,hret3,hnext3⟩:=Aj h
       clear h
       refine wc w3 (Ww x0 x1 n0) (Yc a0 y2) ?_ λ z3 hs3=>?_
       ·refine wb ?_
        refine ww (Qi x0 x1 n0 a0) (Vt a0 y2) hm3 λ z3 w3b h hb3 hr3=>?_
        unfold Kb at h
        rcases cB h with⟨h17,h⟩ | ⟨h17,h⟩
        ·obtain⟨y18,h19,y20,h21,h⟩:=Ay h
         rcases cB h with⟨h22,h⟩ | ⟨h22,h⟩
         ·have hq:=hret3 _ (hr3 _ (sI h).symm)
          replace hq:=hret0 _ (hr0 _ (sI hq).symm)
          replace hq:=sI hq
          subst hq
          exact wr Cr 35 [true,true] [pr q91 h19,pr q91 h21] [] 0 [] hC [pq h17,pq h22]
         ·exact wx w3b (Qi x0 x1 n0 a0) (Vt a0 y2) Cr 36 [true,false] [pr q91 h19,pr q91 h21] [] 0 [0,1] _ hC [pq h17,pq h22] (sI h).symm
        ·exact wx w3 (Ww x0 x1 n0) (Yc a0 y2) Cr 26 [false] [] [] 0 [0,1] z3 hC [pq h17] (hb3 _ (sI h).symm)
       ·have h:=hnext3 _ hs3
        refine ws Cr 23 [] [pl pI a0.Seen] [] 0 [0,1] (Qh x0 x1 n0 a0 0) (Vs a0 y2 0) hC [] ?_
        obtain⟨w4,hm4,hret4,hnext4⟩:=Aj h
        clear h
        refine wc w4 (Wv x0 x1 n0) (Yb) ?_ λ z4 hs4=>?_
        ·refine wb ?_
         refine ww (Qh x0 x1 n0 a0) (Vs a0 y2) hm4 λ z4 w4b h hb4 hr4=>?_
         unfold Ka at h
         rcases cB h with⟨h23,h⟩ | ⟨h23,h⟩
         ·obtain⟨y24,h25,y26,h27,h⟩:=Ay h
          rcases cB h with⟨h28,h⟩ | ⟨h28,h⟩
          ·have hq:=hret4 _ (hr4 _ (sI h).symm)
           replace hq:=hret0 _ (hr0 _ (sI hq).symm)
           replace hq:=sI hq
           subst hq
           exact wr Cr 35 [true,true] [pr pI h25,pr pI h27] [] 0 [] hC [pq h23,pq h28]
          ·exact wx w4b (Qh x0 x1 n0 a0) (Vs a0 y2) Cr 36 [true,false] [pr pI h25,pr pI h27] [] 0 [0,1] _ hC [pq h23,pq h28] (sI h).symm
         ·exact wx w4 (Wv x0 x1 n0) (Yb) Cr 26 [false] [] [] 0 [] z4 hC [pq h23] (hb4 _ (sI h).symm)
        ·have h:=hnext4 _ hs4
         exact wx w0b (Ql x0 x1 (n0+1)) (Vw (n0+1)) Cr 23 [] [] [] 0 [] _ hC [] (sI h).symm
  ·have h:=hnext0 _ hs0
   replace h:=sI h
   subst h
   exact wr Cr 23 [] [] [] 0 [] hC []
theorem e17:EN 17:=en Tryz.func17
theorem vR (x0:Int) (h1:Hi x0=true):CO 29 [.d (I x0)] [] (.tup [.agg [.p (.v (.string ByteArray.empty)),I 0,.p (.v .nilFunc)],.d (Bo false)]) []:=by
 refine co 20 Tryz.func29 λ C hC=>?_
 exact wr [0,2,3,4,13] 31 [true] [pc e44 (k44 _ rfl) [],pL_ [(decide (x0<1),false)] q76 F44] [] 0 [] hC [pq h1]
theorem Dz (x0:Int) (r:Az) (h1:Hi x0=false) (h:getI F44 (w64 (x0-1))=some r):CO 29 [.d (I x0)] [] (.tup [.agg (d76 r),.d (Bo true)]) []:=by
 refine co 20 Tryz.func29 λ C hC=>?_
 exact wr [0,2,3,4,13] 32 [false] [pc e44 (k44 _ rfl) [],pL_ [(decide (x0<1),false)] q76 F44,pr q76 h] [] 0 [] hC [pq h1]
theorem e29:EN 29:=en Tryz.func29
theorem jF (x0:Ac) (x1:List Int) (r:Ac) (h:K5 x0 x1=some r):CO 59 [.d (.o 0 0),.d (DS pI x1)] [.box 85 [I x0.time,I x0.weather.Wind.From,I x0.weather.Wind.Speed,I x0.weather.Current.From,I x0.weather.Current.Speed,I x0.weather.Wave.From,I x0.weather.Wave.Speed,I x0.heading,I x0.next.Weather.Wind.From,I x0.next.Weather.Wind.Speed,I x0.next.Weather.Current.From,I x0.next.Weather.Current.Speed,I x0.next.Weather.Wave.From,I x0.next.Weather.Wave.Speed,I x0.next.Heading,.os 1,.os 2,.os 3,I x0.next.Request,.os 4,.os 5],v2_ x0.next.Sights,v3_ x0.next.Acts,v4_ x0.next.Faults,v1_ x0.next.Seen,v0_ x0.out] (.tup []) [.box 85 [I r.time,I r.weather.Wind.From,I r.weather.Wind.Speed,I r.weather.Current.From,I r.weather.Current.Speed,I r.weather.Wave.From,I r.weather.Wave.Speed,I r.heading,I r.next.Weather.Wind.From,I r.next.Weather.Wind.Speed,I r.next.Weather.Current.From,I r.next.Weather.Current.Speed,I r.next.Weather.Wave.From,I r.next.Weather.Wave.Speed,I r.next.Heading,.os 1,.os 2,.os 6,I r.next.Request,.os 4,.os 5],v2_ r.next.Sights,v3_ r.next.Acts,.non,v1_ r.next.Seen,v0_ r.out,v4_ r.next.Faults]:=by
 unfold K5 at h
 refine co 7 Tryz.func59 λ C hC=>?_
 obtain⟨y1,h2,h⟩:=Ah h
 replace h:=sI h
 subst h
 exact wf [0,1] 21 [] [pc jR (jG x0 2 x1 _ h2) n6_] [] 6 n7_ hC []
theorem jQ:EN 59:=en Tryz.func59
theorem jH (x0:Ac) (x1:List Int) (r:Ac) (h:K7 x0 x1=some r):CO 57 [.d (.o 0 0),.d (DS pI x1)] [.box 85 [I x0.time,I x0.weather.Wind.From,I x0.weather.Wind.Speed,I x0.weather.Current.From,I x0.weather.Current.Speed,I x0.weather.Wave.From,I x0.weather.Wave.Speed,I x0.heading,I x0.next.Weather.Wind.From,I x0.next.Weather.Wind.Speed,I x0.next.Weather.Current.From,I x0.next.Weather.Current.Speed,I x0.next.Weather.Wave.From,I x0.next.Weather.Wave.Speed,I x0.next.Heading,.os 1,.os 2,.os 3,I x0.next.Request,.os 4,.os 5],v2_ x0.next.Sights,v3_ x0.next.Acts,v4_ x0.next.Faults,v1_ x0.next.Seen,v0_ x0.out] (.tup []) [.box 85 [I r.time,I r.weather.Wind.From,I r.weather.Wind.Speed,I r.weather.Current.From,I r.weather.Current.Speed,I r.weather.Wave.From,I r.weather.Wave.Speed,I r.heading,I r.next.Weather.Wind.From,I r.next.Weather.Wind.Speed,I r.next.Weather.Current.From,I r.next.Weather.Current.Speed,I r.next.Weather.Wave.From,I r.next.Weather.Wave.Speed,I r.next.Heading,.os 1,.os 2,.os 6,I r.next.Request,.os 4,.os 5],v2_ r.next.Sights,v3_ r.next.Acts,.non,v1_ r.next.Seen,v0_ r.out,v4_ r.next.Faults]:=by
 unfold K7 at h
 refine co 7 Tryz.func57 λ C hC=>?_
 obtain⟨y1,h2,h⟩:=Ah h
 replace h:=sI h
 subst h
 exact wf [0,1] 21 [] [pc jR (jG x0 1 x1 _ h2) n6_] [] 6 n7_ hC []
theorem jS:EN 57:=en Tryz.func57
theorem k8 (x0:Ad) (x1:Int) (r:Int×Ad) (h:F8 x0 x1=some r):CO 8 [.d (.o 0 0),.d (I x1)] [.box 62 (d62 x0)] (.d (I r.1)) [.box 62 (d62 r.2)]:=by
 unfold F8 at h
 refine co 35 Tryz.func8 λ C hC=>?_
 rcases cB h with⟨h1,h⟩ | ⟨h1,h⟩
 ·replace h:=sI h
  subst h
  exact wr [0,1,4,14] 29 [true] [pl pI x0.L] [] 1 [0] hC [pq h1]
 ·obtain⟨y2,h3,y4,h5,h⟩:=Ay h
  replace h:=sI h
  subst h
  exact wr [0,1,4,14] 32 [false] [pl pI x0.L,pr pI h3,pc e18 (k18 y2 x1 _ h5) []] [] 1 [0] hC [pq h1]
theorem e8:EN 8:=en Tryz.func8
theorem k13 (x0:api_Command) (r:Bool) (h:F13 x0=some r):CO 13 [.agg (d26 x0)] [] (.d (Bo r)) []:=by
 unfold F13 at h
 refine co 44 Tryz.func13 λ C hC=>?_
 rcases cB h with⟨h1,h⟩ | ⟨h1,h⟩
 ·obtain⟨y2,h3,h⟩:=Ah h
  replace h:=sI h
  subst h
  exact wr [0,1,2,3,4,26] 31 [true] [pc e29 (vR x0.Kind h1) [],pL_ [(true,false)] pI x0.Numbers,pw e30 (λ hg=>k30 1000000000 x0.Numbers _ (Av h3 hg)) []] [] 0 [] hC [⟨(true,true),rfl⟩]
 ·obtain⟨y4,h5,y6,h7,h⟩:=Ay h
  refine wn [0,1,2,3,4,26] 28 [] [pc e29 (Dz x0.Kind y4 h1 h5) [],pL_ [(false,false)] pI x0.Numbers,pw e30 (λ hg=>k30 1000000000 x0.Numbers _ (Av h7 hg)) []] [] 0 [0] [1,2,26] hC [] ?_
  rcases cB h with⟨h8,h⟩ | ⟨h8,h⟩
  ·replace h:=sI h
   subst h
   exact wr [0,1,2,3,4,26] 24 [true] [] [] 0 [] hC [pq h8]
  ·obtain⟨y9,h10,y11,h12,h⟩:=Ay h
   replace h:=sI h
   subst h
   exact wr [0,1,2,3,4,26] 25 [false] [pR pI h10,pR pI h12] [] 0 [] hC [pq h8]
theorem e13:EN 13:=en Tryz.func13
def Jr:List Nat:=[0,1,2,3,5,7,18,19,20,21]
def Qf (x0:api_Command) (n0:Nat) (z0:(List ByteArray)):St:=[(2,.d (.p (.v (.string (⟨#[]⟩:ByteArray))))),(5,dS 0),(18,.d (DS pI x0.Numbers)),(19,dI (ln x0.Numbers)),(20,dI (cnt 0 n0))]
def Vq  (n0:Nat) (z0:(List ByteArray)):List Res:=[.sl 9 1 (z0.map pS)]
def Wt  (z0:(List ByteArray)):St:=[(2,.d (.p (.v (.string (⟨#[]⟩:ByteArray))))),(5,dS 0)]
def X_  (z0:(List ByteArray)):List Res:=[.sl 9 1 (z0.map pS)]
def Qe (x0:api_Command) (n1:Nat) (z1:(List ByteArray)):St:=[(2,.d (.p (.v (.string (⟨#[]⟩:ByteArray))))),(5,dS 0),(18,.d (DS pI x0.Numbers)),(19,dI (ln x0.Numbers)),(20,dI (cnt 0 n1))]
def Vp  (n1:Nat) (z1:(List ByteArray)):List Res:=[.sl 9 1 (z1.map pS)]
def Ws  (z1:(List ByteArray)):St:=[(2,.d (.p (.v (.string (⟨#[]⟩:ByteArray))))),(5,dS 0)]
def X9  (z1:(List ByteArray)):List Res:=[.sl 9 1 (z1.map pS)]
theorem k26 (x0:api_Command) (r:ByteArray) (h:F26 x0=some r):CO 26 [.agg (d26 x0)] [] (.d (.p (.v (.string r)))) []:=by
 unfold F26 at h
 refine co 33 Tryz.func26 λ C hC=>?_
 rcases cB h with⟨h1,h⟩ | ⟨h1,h⟩
 ·refine ws Jr 30 [] [pc e29 (vR x0.Kind h1) [],⟨.own,trivial⟩,pl pI x0.Numbers] [] 0 [2] (Qf x0 0 [ByteArray.empty]) (Vq 0 [ByteArray.empty]) hC [] ?_
  obtain⟨w0,hm0,hret0,hnext0⟩:=Aj h
  clear h
  refine wc w0 (Wt) (X_) ?_ λ z0 hs0=>?_
  ·refine wb ?_
   refine C5 18 rfl λ hl0=>?_
   refine wl (Qf x0) (Vq) hm0 (λ z0 hn0=>?_) λ n0 a0 z0 w0b hi0 hx0 h hb0 hr0=>?_
   ·clear hm0
    exact wx w0 (Wt) (X_) Jr 26 [false] [] [] 0 [0] _ hC [pq (Bl hl0)] hn0
   ·unfold Yo at h
    obtain⟨y2,h3,y4,h5,h⟩:=Ay h
    exact wx w0b (Qf x0 (n0+1)) (Vq (n0+1)) Jr 33 [true] [pt hx0 hl0,pc e41 (k41 a0 _ h3) [],pa pS 1 h5] [] 0 [1] _ hC [pq (Al hi0 hl0)] (sI h).symm
  ·have h:=hnext0 _ hs0
   obtain⟨y6,h7,u9,h8,h⟩:=Ay h
   replace h:=sI h
   subst h
   exact wr Jr 23 [] [pb e42 (k42 z0 (⟨#[32]⟩:ByteArray) _ h7),⟨.nz (Dn y6 (⟨#[10]⟩:ByteArray)),Fz h8⟩] [] 0 [] hC []
 ·obtain⟨y10,h11,h⟩:=Ah h
  refine ws Jr 30 [] [pc e29 (Dz x0.Kind y10 h1 h11) [],⟨.own,trivial⟩,pl pI x0.Numbers] [] 0 [2] (Qe x0 0 [y10.word]) (Vp 0 [y10.word]) hC [] ?_
  obtain⟨w1,hm1,hret1,hnext1⟩:=Aj h
  clear h
  refine wc w1 (Ws) (X9) ?_ λ z1 hs1=>?_
  ·refine wb ?_
   refine C5 18 rfl λ hl1=>?_
   refine wl (Qe x0) (Vp) hm1 (λ z1 hn1=>?_) λ n1 a1 z1 w1b hi1 hx1 h hb1 hr1=>?_
   ·clear hm1
    exact wx w1 (Ws) (X9) Jr 26 [false] [] [] 0 [0] _ hC [pq (Bl hl1)] hn1
   ·unfold J_ at h
    obtain⟨y12,h13,y14,h15,h⟩:=Ay h
    exact wx w1b (Qe x0 (n1+1)) (Vp (n1+1)) Jr 33 [true] [pt hx1 hl1,pc e41 (k41 a1 _ h13) [],pa pS 1 h15] [] 0 [1] _ hC [pq (Al hi1 hl1)] (sI h).symm
  ·have h:=hnext1 _ hs1
   obtain⟨y16,h17,u19,h18,h⟩:=Ay h
   replace h:=sI h
   subst h
   exact wr Jr 23 [] [pb e42 (k42 z1 (⟨#[32]⟩:ByteArray) _ h17),⟨.nz (Dn y16 (⟨#[10]⟩:ByteArray)),Fz h18⟩] [] 0 [] hC []
theorem k9 (x0:Ad) (x1:Int) (x2:Int) (r:Int×Ad) (h:F9 x0 x1 x2=some r):CO 9 [.d (.o 0 0),.d (I x1),.d (I x2)] [.box 62 (d62 x0)] (.d (I r.1)) [.box 62 (d62 r.2)]:=by
 unfold F9 at h
 refine co 15 Tryz.func9 λ C hC=>?_
 obtain⟨y1,h2,h⟩:=Ah h
 replace h:=sI h
 subst h
 exact wr [0,1,2,6] 25 [] [pc e8 (k8 x0 (w64 ((w64 (x2-x1))+1)) _ h2) [0]] [] 1 [0] hC []
theorem e9:EN 9:=en Tryz.func9
theorem k10 (x0:Ad) (x1:List Int) (r:Int×Ad) (h:F10 x0 x1=some r):CO 10 [.d (.o 0 0),.d (DS pI x1)] [.box 62 (d62 x0)] (.d (I r.1)) [.box 62 (d62 r.2)]:=by
 unfold F10 at h
 refine co 12 Tryz.func10 λ C hC=>?_
 obtain⟨y1,h2,y3,h4,h⟩:=Ay h
 replace h:=sI h
 subst h
 exact wr [0,1,4] 25 [] [pl pI x1,pc e8 (k8 x0 (ln x1) _ h2) [0],pr pI h4] [] 1 [0] hC []
theorem e10:EN 10:=en Tryz.func10
theorem k20 (x0:ByteArray) (r:List api_Command×Int×Int) (h:F20 x0=some r):CO 20 [.d (.p (.v (.string x0)))] [] (.tup [.d (DS q26 r.1),.d (I r.2.1),.d (I r.2.2)]) []:=vO F13 F26 k13 k26 x0 r h
theorem e20:EN 20:=en Tryz.func20
def Rc:List Nat:=[0,2,3,5,6,7,8,9,18]
def Mx (x0:List api_Command) (n0:Nat) (z0:Int):St:=[(2,dI 0),(3,dI z0),(6,.d (DS q26 x0)),(7,dI (ln x0)),(8,dI (cnt 0 n0))]
def P3  (n0:Nat) (z0:Int):List Res:=[]
def Wo  (z0:Int):St:=[(2,dI 0),(3,dI z0)]
def X6  (z0:Int):List Res:=[]
theorem k32 (x0:List api_Command) (r:Int) (h:F32 x0=some r):CO 32 [.d (DS q26 x0)] [] (.d (I r)) []:=by
 unfold F32 at h
 refine co 27 Tryz.func32 λ C hC=>?_
 refine ws Rc 28 [] [pl q26 x0] [] 0 [] (Mx x0 0 0) (P3 0 0) hC [] ?_
 obtain⟨w0,hm0,hret0,hnext0⟩:=Aj h
 clear h
 refine wc w0 (Wo) (X6) ?_ λ z0 hs0=>?_
 ·refine wb ?_
  refine C5 6 rfl λ hl0=>?_
  refine wl (Mx x0) (P3) hm0 (λ z0 hn0=>?_) λ n0 a0 z0 w0b hi0 hx0 h hb0 hr0=>?_
  ·clear hm0
   exact wx w0 (Wo) (X6) Rc 26 [false] [] [] 0 [] _ hC [pq (Bl hl0)] hn0
  ·unfold J7 at h
   obtain⟨y1,h2,h⟩:=Ah h
   rcases cB h with⟨h3,h⟩ | ⟨h3,h⟩
   ·obtain⟨y4,h5,h⟩:=Ah h
    exact wx w0b (Mx x0 (n0+1)) (P3 (n0+1)) Rc 36 [true,true] [pt hx0 hl0,pw e13 (λ hg=>k13 a0 _ (Av h2 hg)) [],pr pI h5] [] 0 [] _ hC [pq (Al hi0 hl0),pq h3] (sI h).symm
   ·exact wx w0b (Mx x0 (n0+1)) (P3 (n0+1)) Rc 36 [true,false] [pt hx0 hl0,pw e13 (λ hg=>k13 a0 _ (Av h2 hg)) []] [] 0 [] _ hC [pq (Al hi0 hl0),pq h3] (sI h).symm
 ·have h:=hnext0 _ hs0
  replace h:=sI h
  subst h
  exact wr Rc 23 [] [] [] 0 [] hC []
theorem e32:EN 32:=en Tryz.func32
theorem k39 (x0:api_Command) (r:Bool) (h:F39 x0=some r):CO 39 [.agg (d26 x0)] [] (.d (Bo r)) []:=by
 unfold F39 at h
 refine co 6 Tryz.func39 λ C hC=>?_
 obtain⟨y1,h2,h⟩:=Ah h
 replace h:=sI h
 subst h
 exact wr n3_ 25 [] [pc e13 (k13 x0 _ h2) []] [] 0 [] hC []
theorem e39:EN 39:=en Tryz.func39
def Qg  (z0:Int×(List Int)×Int×(List Int)):St:=[(0,dO 0 0),(2,dO 1 0),(3,dO 2 0),(4,dI z0.1)]
def Vr (y1:Int×Ad) (z0:Int×(List Int)×Int×(List Int)):List Res:=[.box 62 [DS pI z0.2.1,I z0.2.2.1],.box 26 [I 0,.os 3],.box 26 [I y1.1,.os 4],v1_ ([]:List Int),v1_ (Of z0)]
def Wu  (z0:Int×(List Int)×Int×(List Int)):St:=[(0,dO 0 0),(2,dO 1 0),(3,dO 2 0)]
def Ya (y1:Int×Ad) (z0:Int×(List Int)×Int×(List Int)):List Res:=[.box 62 [DS pI z0.2.1,I z0.2.2.1],.box 26 [I 0,.os 3],.box 26 [I y1.1,.os 4],v1_ ([]:List Int),v1_ (Of z0)]
theorem k23 (x0:Ad) (r:api_Command×Ad) (h:F23 x0=some r):CO 23 [.d (.o 0 0)] [.box 62 (d62 x0)] (.agg [I r.1.Kind,.os 1]) [.box 62 (d62 r.2),v1_ r.1.Numbers]:=by
 unfold F23 at h
 refine co 35 Tryz.func23 λ C hC=>?_
 obtain⟨y1,h2,y3,h4,h⟩:=Ay h
 refine ws [0,2,3,4,14,27] 28 [] [pc e9 (k9 x0 1 8 _ h2) [0],pr pI h4] [.ownb 1 1 3 1,.ownb 2 1 3 1] 1 n5_ (Qg (y3,y1.2.L,y1.2.At,([]:List Int))) (Vr y1 (y3,y1.2.L,y1.2.At,([]:List Int))) hC [] ?_
 obtain⟨w0,hm0,hret0,hnext0⟩:=Aj h
 clear h
 refine wc w0 (Wu) (Ya y1) ?_ λ z0 hs0=>?_
 ·refine wb ?_
  refine ww (Qg) (Vr y1) hm0 λ z0 w0b h hb0 hr0=>?_
  unfold Ny at h
  rcases cB h with⟨h5,h⟩ | ⟨h5,h⟩
  ·obtain⟨y6,h7,y8,h9,h⟩:=Ay h
   exact wx w0b (Qg) (Vr y1) [0,2,3,4,14,27] 31 [true] [pc e10 (k10 (⟨z0.2.1,z0.2.2.1⟩:Ad) [0,1,2,3,5,100,(-7),1000000000,(-1000000000)] _ h7) [0],pa pI 1 h9] [] 1 [0,1,2,3,5] _ hC [pq h5] (sI h).symm
  ·exact wx w0 (Wu) (Ya y1) [0,2,3,4,14,27] 26 [false] [] [] 1 n5_ (z0.1,z0.2.1,z0.2.2.1,(Of z0)) hC [pq h5] (hb0 _ (sI h).symm)
 ·have h:=hnext0 _ hs0
  rcases cB h with⟨h10,h⟩ | ⟨h10,h⟩
  ·obtain⟨y11,h12,y13,h14,y15,h16,h⟩:=A9 h
   replace h:=sI h
   subst h
   exact wr [0,2,3,4,14,27] 28 [true] [pc e10 (k10 (⟨z0.2.1,z0.2.2.1⟩:Ad) [1,2,3,20,60] _ h12) [0],pr pI h14,pu pI h14 h16] [] 1 [0,4] hC [pq h10]
  ·replace h:=sI h
   subst h
   exact wr [0,2,3,4,14,27] 28 [false] [] [] 1 [0,4] hC [pq h10]
theorem e23:EN 23:=en Tryz.func23
def Jq:List Nat:=[0,1,4,5,7,8,9,16]
def L3 (x0:List api_Command) (n0:Nat) (z0:Unit):St:=[(0,.d (DS q26 x0)),(1,.d (.fn (.func 39) [] [])),(4,dI 0),(7,dI (ln x0)),(8,dI (cnt 0 n0))]
def Ou  (n0:Nat) (z0:Unit):List Res:=[]
def Qw  (z0:Unit):St:=[(4,dI 0)]
def Sy  (z0:Unit):List Res:=[]
theorem zD (x0:List api_Command) (r:Int) (h:P5 x0=some r):CO 52 [.d (DS q26 x0),.d (.fn (.func 39) [] [])] [] (.d (I r)) []:=by
 unfold P5 at h
 refine co 19 Tryz.func52 λ C hC=>?_
 refine ws Jq 26 [] [pl q26 x0] [] 0 [] (L3 x0 0 ()) (Ou 0 ()) hC [] ?_
 obtain⟨w0,hm0,hret0,hnext0⟩:=Aj h
 clear h
 refine wc w0 (Qw) (Sy) ?_ λ z0 hs0=>?_
 ·refine wb ?_
  refine C5 0 rfl λ hl0=>?_
  refine wl (L3 x0) (Ou) hm0 (λ z0 hn0=>?_) λ n0 a0 z0 w0b hi0 hx0 h hb0 hr0=>?_
  ·clear hm0
   exact wx w0 (Qw) (Sy) Jq 26 [false] [] [] 0 [] _ hC [pq (Bl hl0)] hn0
  ·unfold Mn at h
   obtain⟨y1,h2,h⟩:=Ah h
   rcases cB h with⟨h3,h⟩ | ⟨h3,h⟩
   ·have hq:=hret0 _ (hr0 _ (sI h).symm)
    replace hq:=sI hq
    subst hq
    exact wr Jq 35 [true,true] [pt hx0 hl0,pc e39 (k39 a0 _ h2) []] [] 0 [] hC [pq (Al hi0 hl0),pq h3]
   ·exact wx w0b (L3 x0 (n0+1)) (Ou (n0+1)) Jq 36 [true,false] [pt hx0 hl0,pc e39 (k39 a0 _ h2) []] [] 0 [] _ hC [pq (Al hi0 hl0),pq h3] (sI h).symm
 ·have h:=hnext0 _ hs0
  replace h:=sI h
  subst h
  exact wr Jq 23 [] [] [] 0 [] hC []
theorem zI:EN 52:=en Tryz.func52
def Ud  (z0:Sg1):St:=[(0,dO 0 0),(4,.d (DS q26 [])),(5,dS 1),(6,dI z0.1)]
def Zq  (z0:Sg1):List Res:=[.box 62 [DS pI z0.2.1,I z0.2.2.1],v5_ (Of z0)]
def Z1  (z0:Sg1):St:=[(4,.d (DS q26 [])),(5,dS 1)]
def qA  (z0:Sg1):List Res:=[.box 62 [DS pI z0.2.1,I z0.2.2.1],v5_ (Of z0)]
theorem k7 (x0:Ad) (x1:Int) (r:(List api_Command)×Ad) (h:F7 x0 x1=some r):CO 7 [.d (.o 0 0),.d (I x1)] [.box 62 (d62 x0)] (.d (.os 1)) [.box 62 (d62 r.2),v5_ r.1]:=by
 unfold F7 at h
 refine co 21 Tryz.func7 λ C hC=>?_
 obtain⟨y1,h2,h⟩:=Ah h
 refine ws [0,1,4,5,6,12] 28 [] [pc e8 (k8 x0 (w64 (x1+1)) _ h2) [0]] [.own 5 26 2] 1 [0,1] (Ud (y1.1,y1.2.L,y1.2.At,([]:List api_Command))) (Zq (y1.1,y1.2.L,y1.2.At,([]:List api_Command))) hC [] ?_
 obtain⟨w0,hm0,hret0,hnext0⟩:=Aj h
 clear h
 refine wc w0 (Z1) (qA) ?_ λ z0 hs0=>?_
 ·refine wb ?_
  refine ww (Ud) (Zq) hm0 λ z0 w0b h hb0 hr0=>?_
  unfold V4 at h
  rcases cB h with⟨h3,h⟩ | ⟨h3,h⟩
  ·obtain⟨y6,h7,y8,h9,h⟩:=Ay h
   exact wx w0b (Ud) (Zq) [0,1,4,5,6,12] 31 [true] [⟨.call 23 [dO 0 0] [.box 62 [DS pI z0.2.1,I z0.2.2.1]] (.agg (d26 y6.1)) [.box 62 (d62 y6.2),.non] [0],⟨e23,(CallOk.frzAll [1] (show CO 23 [dO 0 0] [.box 62 [DS pI z0.2.1,I z0.2.2.1]] (.agg [I y6.1.Kind,.os 1]) [.box 62 (d62 y6.2),v1_ y6.1.Numbers] from (k23 (⟨z0.2.1,z0.2.2.1⟩:Ad) _ h7)) (by kernel_rfl))⟩⟩,pa q26 2 h9] [] 1 [0,3] _ hC [pq h3] (sI h).symm
  ·exact wx w0 (Z1) (qA) [0,1,4,5,6,12] 26 [false] [] [] 1 [0,1] (z0.1,z0.2.1,z0.2.2.1,(Of z0)) hC [pq h3] (hb0 _ (sI h).symm)
 ·have h:=hnext0 _ hs0
  replace h:=sI h
  subst h
  exact wr [0,1,4,5,6,12] 23 [] [] [] 1 [0,1] hC []
theorem e7:EN 7:=en Tryz.func7
theorem zE (x0:List api_Command) (r:Bool) (h:P7 x0=some r):CO 38 [.d (DS q26 x0),.d (.fn (.func 39) [] [])] [] (.d (Bo r)) []:=by
 unfold P7 at h
 refine co 9 Tryz.func38 λ C hC=>?_
 obtain⟨y1,h2,h⟩:=Ah h
 replace h:=sI h
 subst h
 exact wr [0,1,4] 25 [] [pc zI (zD x0 _ h2) []] [] 0 [] hC []
theorem zJ:EN 38:=en Tryz.func38
theorem k24 (x0:List api_Command) (r:Bool) (h:F24 x0=some r):CO 24 [.d (DS q26 x0)] [] (.d (Bo r)) []:=by
 unfold F24 at h
 refine co 5 Tryz.func24 λ C hC=>?_
 obtain⟨y1,h2,h⟩:=Ah h
 replace h:=sI h
 subst h
 exact wr [0,2] 25 [] [pc zJ (zE x0 _ h2) []] [] 0 [] hC []
theorem e24:EN 24:=en Tryz.func24
def Es:List Nat:=[0,1,4,5,6,8,9,18,19,22,32,33,34,35]
def Ei (x0:List api_Command) (n0:Nat) (z0:Sg4):St:=[(4,.d (DS q60 [])),(5,dI 0),(6,dO 0 0),(32,.d (DS q26 x0)),(33,dI (ln x0)),(34,dI (cnt 0 n0))]
def Fv  (n0:Nat) (z0:Sg4):List Res:=[.box 85 [I z0.1,I z0.2.1,I z0.2.2.1,I (g3_ z0),I (g4_ z0),I (g5_ z0),I (g6_ z0),I (g7_ z0),I (g8_ z0),I (g9_ z0),I (Bq z0),I (Bp z0),I (Cb z0),I (Di z0),I (Dh z0),.os 1,.os 2,.os 3,I (Dg z0),.os 4,.os 5],v2_ (Df z0),v3_ (De z0),v4_ (Dd z0),v1_ (Dc z0),v0_ (B8 z0)]
def W7  (z0:Sg4):St:=[(4,.d (DS q60 [])),(5,dI 0),(6,dO 0 0)]
def Yk  (z0:Sg4):List Res:=[.box 85 [I z0.1,I z0.2.1,I z0.2.2.1,I (g3_ z0),I (g4_ z0),I (g5_ z0),I (g6_ z0),I (g7_ z0),I (g8_ z0),I (g9_ z0),I (Bq z0),I (Bp z0),I (Cb z0),I (Di z0),I (Dh z0),.os 1,.os 2,.os 3,I (Dg z0),.os 4,.os 5],v2_ (Df z0),v3_ (De z0),v4_ (Dd z0),v1_ (Dc z0),v0_ (B8 z0)]
set_option maxHeartbeats 4000000 in
theorem k15 (x0 : List api_Command) (x1 : Int) (r : (List Aa) × Int) (h : F15 x0 x1 = some r) : CO 15 [.d (DS q26 x0), .d (I x1)] [] (.tup [.d (.os 0), .d (I r.2)]) [v0_ r.1] := by
 unfold F15 at h
 refine co 55 Tryz.func15 λ C hC=>?_
 obtain⟨y1,h2,h⟩:=Ah h
 rcases cB h with⟨h3,h⟩ | ⟨h3,h⟩
 ·replace h:=sI h
  subst h
  exact wr Es 29 [true] [pl q26 x0,pw e32 (λ hg=>k32 x0 _ (Av h2 hg)) []] [.own 4 60 12] 0 [0] hC [pq h3]
 ·obtain ⟨y4, h5, h⟩ := Ah h
  refine wn Es 32 [false] [pl q26 x0,pw e32 (λ hg=>k32 x0 _ (Av h2 hg)) [],pc e24 (k24 x0 _ h5) []] [] 0 [] [0,1,4,5,19] hC [pq h3] ?_
  rcases cB h with⟨h6,h⟩ | ⟨h6,h⟩
  ·replace h:=sI h
   subst h
   exact wr Es 24 [true] [] [.own 4 60 12] 0 [0] hC [pq h6]
  ·rcases cB h with ⟨h7, h⟩ | ⟨h7, h⟩
   ·replace h:=sI h
    subst h
    exact wr Es 27 [false,true] [] [.own 4 60 12] 0 [0] hC [pq h6,pq h7]
   ·refine ws Es 32 [false, false] [pl q26 x0] [.ownb 0 15 95 5, .ownb 0 16 87 3, .ownb 0 17 91 4, .ownb 0 19 3 1, .ownb 0 20 60 12] 0 n6_ (Ei x0 0 (x1, 0, 0, 0, 0, 0, 0, 0, 0, 0, 0, 0, 0, 0, 0, 0, ([] : List Ag), ([] : List An), ([] : List Ai), ([] : List Int), ([] : List Aa))) (Fv 0 (x1, 0, 0, 0, 0, 0, 0, 0, 0, 0, 0, 0, 0, 0, 0, 0, ([] : List Ag), ([] : List An), ([] : List Ai), ([] : List Int), ([] : List Aa))) hC [pq h6, pq h7] ?_
    obtain⟨w0,hm0,hret0,hnext0⟩:=Aj h
    clear h
    refine wc w0 (W7) (Yk) ?_ λ z0 hs0=>?_
    ·refine wb ?_
     refine C5 32 rfl λ hl0=>?_
     refine wl (Ei x0) (Fv) hm0 (λ z0 hn0=>?_) λ n0 a0 z0 w0b hi0 hx0 h hb0 hr0=>?_
     ·clear hm0
      exact wx w0 (W7) (Yk) Es 26 [false] [] [] 0 n6_ _ hC [pq (Bl hl0)] hn0
     ·unfold Ie at h
      rcases cB h with⟨h8,h⟩ | ⟨h8,h⟩
      ·cases h
      ·obtain ⟨y9, h10, h⟩ := Ah h
       rcases cB h with⟨h32,h⟩ | ⟨h32,h⟩
       ·obtain⟨y33,h34,h⟩:=Ah h
        exact wx w0b (Ei x0 (n0+1)) (Fv (n0+1)) Es 35 [true] [pt hx0 hl0,pc e29 (Dz a0.Kind y9 h8 h10) [],⟨.fnv (.func (.func y9.say) #[] #[]) 56,B0 h32⟩,pc jT (jI (⟨z0.1,(⟨(⟨z0.2.1,z0.2.2.1⟩:Ab),(⟨(g3_ z0),(g4_ z0)⟩:Ab),(⟨(g5_ z0),(g6_ z0)⟩:Ab)⟩:Ae),(g7_ z0),(⟨(⟨(⟨(g8_ z0),(g9_ z0)⟩:Ab),(⟨(Bq z0),(Bp z0)⟩:Ab),(⟨(Cb z0),(Di z0)⟩:Ab)⟩:Ae),(Dh z0),(Df z0),(De z0),(Dd z0),(Dg z0),(Dc z0)⟩:Aa),(B8 z0)⟩:Ac) a0.Numbers _ h34) n6_] [] 0 [0,1,8,3,4,5] _ hC [pq (Al hi0 hl0)] (sI h).symm
       ·rcases cB h with ⟨h29, h⟩ | ⟨h29, h⟩
        ·obtain⟨y30,h31,h⟩:=Ah h
         exact wx w0b (Ei x0 (n0+1)) (Fv (n0+1)) Es 35 [true] [pt hx0 hl0,pc e29 (Dz a0.Kind y9 h8 h10) [],⟨.fnv (.func (.func y9.say) #[] #[]) 57,B0 h29⟩,pc jS (jH (⟨z0.1,(⟨(⟨z0.2.1,z0.2.2.1⟩:Ab),(⟨(g3_ z0),(g4_ z0)⟩:Ab),(⟨(g5_ z0),(g6_ z0)⟩:Ab)⟩:Ae),(g7_ z0),(⟨(⟨(⟨(g8_ z0),(g9_ z0)⟩:Ab),(⟨(Bq z0),(Bp z0)⟩:Ab),(⟨(Cb z0),(Di z0)⟩:Ab)⟩:Ae),(Dh z0),(Df z0),(De z0),(Dd z0),(Dg z0),(Dc z0)⟩:Aa),(B8 z0)⟩:Ac) a0.Numbers _ h31) n6_] [] 0 [0,1,2,8,4,5] _ hC [pq (Al hi0 hl0)] (sI h).symm
        ·rcases cB h with⟨h26,h⟩ | ⟨h26,h⟩
         ·obtain⟨y27,h28,h⟩:=Ah h
          exact wx w0b (Ei x0 (n0+1)) (Fv (n0+1)) Es 35 [true] [pt hx0 hl0,pc e29 (Dz a0.Kind y9 h8 h10) [],⟨.fnv (.func (.func y9.say) #[] #[]) 59,B0 h26⟩,pc jQ (jF (⟨z0.1,(⟨(⟨z0.2.1,z0.2.2.1⟩:Ab),(⟨(g3_ z0),(g4_ z0)⟩:Ab),(⟨(g5_ z0),(g6_ z0)⟩:Ab)⟩:Ae),(g7_ z0),(⟨(⟨(⟨(g8_ z0),(g9_ z0)⟩:Ab),(⟨(Bq z0),(Bp z0)⟩:Ab),(⟨(Cb z0),(Di z0)⟩:Ab)⟩:Ae),(Dh z0),(Df z0),(De z0),(Dd z0),(Dg z0),(Dc z0)⟩:Aa),(B8 z0)⟩:Ac) a0.Numbers _ h28) n6_] [] 0 [0,1,2,8,4,5] _ hC [pq (Al hi0 hl0)] (sI h).symm
         ·rcases cB h with⟨h23,h⟩ | ⟨h23,h⟩
          ·obtain⟨y24,h25,h⟩:=Ah h
           exact wx w0b (Ei x0 (n0+1)) (Fv (n0+1)) Es 35 [true] [pt hx0 hl0,pc e29 (Dz a0.Kind y9 h8 h10) [],⟨.fnv (.func (.func y9.say) #[] #[]) 60,B0 h23⟩,pc jP (jE (⟨z0.1,(⟨(⟨z0.2.1,z0.2.2.1⟩:Ab),(⟨(g3_ z0),(g4_ z0)⟩:Ab),(⟨(g5_ z0),(g6_ z0)⟩:Ab)⟩:Ae),(g7_ z0),(⟨(⟨(⟨(g8_ z0),(g9_ z0)⟩:Ab),(⟨(Bq z0),(Bp z0)⟩:Ab),(⟨(Cb z0),(Di z0)⟩:Ab)⟩:Ae),(Dh z0),(Df z0),(De z0),(Dd z0),(Dg z0),(Dc z0)⟩:Aa),(B8 z0)⟩:Ac) a0.Numbers _ h25) n6_] [] 0 n6_ _ hC [pq (Al hi0 hl0)] (sI h).symm
          ·rcases cB h with⟨h20,h⟩ | ⟨h20,h⟩
           ·obtain⟨y21,h22,h⟩:=Ah h
            exact wx w0b (Ei x0 (n0+1)) (Fv (n0+1)) Es 35 [true] [pt hx0 hl0,pc e29 (Dz a0.Kind y9 h8 h10) [],⟨.fnv (.func (.func y9.say) #[] #[]) 61,B0 h20⟩,pc jO (jD (⟨z0.1,(⟨(⟨z0.2.1,z0.2.2.1⟩:Ab),(⟨(g3_ z0),(g4_ z0)⟩:Ab),(⟨(g5_ z0),(g6_ z0)⟩:Ab)⟩:Ae),(g7_ z0),(⟨(⟨(⟨(g8_ z0),(g9_ z0)⟩:Ab),(⟨(Bq z0),(Bp z0)⟩:Ab),(⟨(Cb z0),(Di z0)⟩:Ab)⟩:Ae),(Dh z0),(Df z0),(De z0),(Dd z0),(Dg z0),(Dc z0)⟩:Aa),(B8 z0)⟩:Ac) a0.Numbers _ h22) n6_] [] 0 [0,8,2,3,4,5] _ hC [pq (Al hi0 hl0)] (sI h).symm
           ·rcases cB h with⟨h17,h⟩ | ⟨h17,h⟩
            ·obtain⟨y18,h19,h⟩:=Ah h
             exact wx w0b (Ei x0 (n0+1)) (Fv (n0+1)) Es 35 [true] [pt hx0 hl0,pc e29 (Dz a0.Kind y9 h8 h10) [],⟨.fnv (.func (.func y9.say) #[] #[]) 62,B0 h17⟩,pc jN (jC (⟨z0.1,(⟨(⟨z0.2.1,z0.2.2.1⟩:Ab),(⟨(g3_ z0),(g4_ z0)⟩:Ab),(⟨(g5_ z0),(g6_ z0)⟩:Ab)⟩:Ae),(g7_ z0),(⟨(⟨(⟨(g8_ z0),(g9_ z0)⟩:Ab),(⟨(Bq z0),(Bp z0)⟩:Ab),(⟨(Cb z0),(Di z0)⟩:Ab)⟩:Ae),(Dh z0),(Df z0),(De z0),(Dd z0),(Dg z0),(Dc z0)⟩:Aa),(B8 z0)⟩:Ac) a0.Numbers _ h19) n6_] [] 0 n6_ _ hC [pq (Al hi0 hl0)] (sI h).symm
            ·rcases cB h with⟨h14,h⟩ | ⟨h14,h⟩
             ·obtain⟨y15,h16,h⟩:=Ah h
              exact wx w0b (Ei x0 (n0+1)) (Fv (n0+1)) Es 35 [true] [pt hx0 hl0,pc e29 (Dz a0.Kind y9 h8 h10) [],⟨.fnv (.func (.func y9.say) #[] #[]) 63,B0 h14⟩,pc jM (jB (⟨z0.1,(⟨(⟨z0.2.1,z0.2.2.1⟩:Ab),(⟨(g3_ z0),(g4_ z0)⟩:Ab),(⟨(g5_ z0),(g6_ z0)⟩:Ab)⟩:Ae),(g7_ z0),(⟨(⟨(⟨(g8_ z0),(g9_ z0)⟩:Ab),(⟨(Bq z0),(Bp z0)⟩:Ab),(⟨(Cb z0),(Di z0)⟩:Ab)⟩:Ae),(Dh z0),(Df z0),(De z0),(Dd z0),(Dg z0),(Dc z0)⟩:Aa),(B8 z0)⟩:Ac) a0.Numbers _ h16) n6_] [] 0 [0,1,2,3,8,5] _ hC [pq (Al hi0 hl0)] (sI h).symm
             ·rcases cB h with⟨h11,h⟩ | ⟨h11,h⟩
              ·obtain⟨y12,h13,h⟩:=Ah h
               exact wx w0b (Ei x0 (n0+1)) (Fv (n0+1)) Es 35 [true] [pt hx0 hl0,pc e29 (Dz a0.Kind y9 h8 h10) [],⟨.fnv (.func (.func y9.say) #[] #[]) 64,B0 h11⟩,pc jL (jA (⟨z0.1,(⟨(⟨z0.2.1,z0.2.2.1⟩:Ab),(⟨(g3_ z0),(g4_ z0)⟩:Ab),(⟨(g5_ z0),(g6_ z0)⟩:Ab)⟩:Ae),(g7_ z0),(⟨(⟨(⟨(g8_ z0),(g9_ z0)⟩:Ab),(⟨(Bq z0),(Bp z0)⟩:Ab),(⟨(Cb z0),(Di z0)⟩:Ab)⟩:Ae),(Dh z0),(Df z0),(De z0),(Dd z0),(Dg z0),(Dc z0)⟩:Aa),(B8 z0)⟩:Ac) a0.Numbers _ h13) n6_] [] 0 [0,8,9,10,11,12] _ hC [pq (Al hi0 hl0)] (sI h).symm
              ·cases h
    ·have h:=hnext0 _ hs0
     replace h:=sI h
     subst h
     exact wr Es 23 [] [] [] 0 [5] hC []
theorem e15:EN 15:=en Tryz.func15
theorem k11 (x0:List api_Command) (r:ByteArray×Int) (h:F11 x0=some r):CO 11 [.d (DS q26 x0)] [] (.tup [.d (.p (.v (.string r.1))),.d (I r.2)]) []:=qZ F24 F26 k24 k26 x0 r h
theorem e11:EN 11:=en Tryz.func11
def Cs:List Nat:=[0,1,4,5,6,8,9,18,19,22,32,33,34,35]
def C7 (x0:List api_Command) (n0:Nat) (z0:Sg4):St:=[(4,.d (DS q60 [])),(5,dI 0),(6,dO 1 0),(32,dS 0),(33,dI (ln x0)),(34,dI (cnt 0 n0))]
def Dy (x0:List api_Command) (n0:Nat) (z0:Sg4):List Res:=[v5_ x0,.box 85 [I z0.1,I z0.2.1,I z0.2.2.1,I (g3_ z0),I (g4_ z0),I (g5_ z0),I (g6_ z0),I (g7_ z0),I (g8_ z0),I (g9_ z0),I (Bq z0),I (Bp z0),I (Cb z0),I (Di z0),I (Dh z0),.os 2,.os 3,.os 4,I (Dg z0),.os 5,.os 6],v2_ (Df z0),v3_ (De z0),v4_ (Dd z0),v1_ (Dc z0),v0_ (B8 z0)]
def Q1  (z0:Sg4):St:=[(4,.d (DS q60 [])),(5,dI 0),(6,dO 1 0)]
def S5 (x0:List api_Command) (z0:Sg4):List Res:=[v5_ x0,.box 85 [I z0.1,I z0.2.1,I z0.2.2.1,I (g3_ z0),I (g4_ z0),I (g5_ z0),I (g6_ z0),I (g7_ z0),I (g8_ z0),I (g9_ z0),I (Bq z0),I (Bp z0),I (Cb z0),I (Di z0),I (Dh z0),.os 2,.os 3,.os 4,I (Dg z0),.os 5,.os 6],v2_ (Df z0),v3_ (De z0),v4_ (Dd z0),v1_ (Dc z0),v0_ (B8 z0)]
set_option maxHeartbeats 4000000 in
theorem Kq (x0 : List api_Command) (x1 : Int) (r : (List Aa) × Int) (h : Fx x0 x1 = some r) : CO 15 [.d (.os 0), .d (I x1)] [v5_ x0] (.tup [.d (.os 1), .d (I r.2)]) [v5_ x0, v0_ r.1] := by
 unfold Fx at h
 refine co 55 Tryz.func15 λ C hC=>?_
 obtain⟨y1,h2,h⟩:=Ah h
 rcases cB h with⟨h3,h⟩ | ⟨h3,h⟩
 ·replace h:=sI h
  subst h
  exact wr Cs 29 [true] [pl q26 x0,pv e32 (λ hg=>k32 x0 _ (Av h2 hg))] [.own 4 60 12] 1 [0,1] hC [pq h3]
 ·obtain ⟨y4, h5, h⟩ := Ah h
  refine wn Cs 32 [false] [pl q26 x0,pv e32 (λ hg=>k32 x0 _ (Av h2 hg)),pb e24 (k24 x0 _ h5)] [] 1 [0] [0,1,4,5,19] hC [pq h3] ?_
  rcases cB h with⟨h6,h⟩ | ⟨h6,h⟩
  ·replace h:=sI h
   subst h
   exact wr Cs 24 [true] [] [.own 4 60 12] 1 [0,1] hC [pq h6]
  ·rcases cB h with ⟨h7, h⟩ | ⟨h7, h⟩
   ·replace h:=sI h
    subst h
    exact wr Cs 27 [false,true] [] [.own 4 60 12] 1 [0,1] hC [pq h6,pq h7]
   ·refine ws Cs 32 [false, false] [pl q26 x0] [.ownb 1 15 95 5, .ownb 1 16 87 3, .ownb 1 17 91 4, .ownb 1 19 3 1, .ownb 1 20 60 12] 1 n7_ (C7 x0 0 (x1, 0, 0, 0, 0, 0, 0, 0, 0, 0, 0, 0, 0, 0, 0, 0, ([] : List Ag), ([] : List An), ([] : List Ai), ([] : List Int), ([] : List Aa))) (Dy x0 0 (x1, 0, 0, 0, 0, 0, 0, 0, 0, 0, 0, 0, 0, 0, 0, 0, ([] : List Ag), ([] : List An), ([] : List Ai), ([] : List Int), ([] : List Aa))) hC [pq h6, pq h7] ?_
    obtain⟨w0,hm0,hret0,hnext0⟩:=Aj h
    clear h
    refine wc w0 (Q1) (S5 x0) ?_ λ z0 hs0=>?_
    ·refine wb ?_
     refine Kz 32 0 rfl rfl λ hl0=>?_
     refine wl (C7 x0) (Dy x0) hm0 (λ z0 hn0=>?_) λ n0 a0 z0 w0b hi0 hx0 h hb0 hr0=>?_
     ·clear hm0
      exact wx w0 (Q1) (S5 x0) Cs 26 [false] [] [] 1 n7_ _ hC [pq (Bl hl0)] hn0
     ·unfold Tb at h
      rcases cB h with⟨h8,h⟩ | ⟨h8,h⟩
      ·cases h
      ·obtain ⟨y9, h10, h⟩ := Ah h
       rcases cB h with⟨h32,h⟩ | ⟨h32,h⟩
       ·obtain⟨y33,h34,h⟩:=Ah h
        exact wx w0b (C7 x0 (n0+1)) (Dy x0 (n0+1)) Cs 35 [true] [pr q26 (Ap hx0 hl0),pn q26 (Ap hx0 hl0),pc e29 (Dz a0.Kind y9 h8 h10) [],⟨.fnv (.func (.func y9.say) #[] #[]) 56,B0 h32⟩,pc jT (jI (⟨z0.1,(⟨(⟨z0.2.1,z0.2.2.1⟩:Ab),(⟨(g3_ z0),(g4_ z0)⟩:Ab),(⟨(g5_ z0),(g6_ z0)⟩:Ab)⟩:Ae),(g7_ z0),(⟨(⟨(⟨(g8_ z0),(g9_ z0)⟩:Ab),(⟨(Bq z0),(Bp z0)⟩:Ab),(⟨(Cb z0),(Di z0)⟩:Ab)⟩:Ae),(Dh z0),(Df z0),(De z0),(Dd z0),(Dg z0),(Dc z0)⟩:Aa),(B8 z0)⟩:Ac) a0.Numbers _ h34) [1,2,3,4,5,6]] [] 1 [0,1,2,9,4,5,6] _ hC [pq (Al hi0 hl0)] (sI h).symm
       ·rcases cB h with ⟨h29, h⟩ | ⟨h29, h⟩
        ·obtain⟨y30,h31,h⟩:=Ah h
         exact wx w0b (C7 x0 (n0+1)) (Dy x0 (n0+1)) Cs 35 [true] [pr q26 (Ap hx0 hl0),pn q26 (Ap hx0 hl0),pc e29 (Dz a0.Kind y9 h8 h10) [],⟨.fnv (.func (.func y9.say) #[] #[]) 57,B0 h29⟩,pc jS (jH (⟨z0.1,(⟨(⟨z0.2.1,z0.2.2.1⟩:Ab),(⟨(g3_ z0),(g4_ z0)⟩:Ab),(⟨(g5_ z0),(g6_ z0)⟩:Ab)⟩:Ae),(g7_ z0),(⟨(⟨(⟨(g8_ z0),(g9_ z0)⟩:Ab),(⟨(Bq z0),(Bp z0)⟩:Ab),(⟨(Cb z0),(Di z0)⟩:Ab)⟩:Ae),(Dh z0),(Df z0),(De z0),(Dd z0),(Dg z0),(Dc z0)⟩:Aa),(B8 z0)⟩:Ac) a0.Numbers _ h31) [1,2,3,4,5,6]] [] 1 [0,1,2,3,9,5,6] _ hC [pq (Al hi0 hl0)] (sI h).symm
        ·rcases cB h with⟨h26,h⟩ | ⟨h26,h⟩
         ·obtain⟨y27,h28,h⟩:=Ah h
          exact wx w0b (C7 x0 (n0+1)) (Dy x0 (n0+1)) Cs 35 [true] [pr q26 (Ap hx0 hl0),pn q26 (Ap hx0 hl0),pc e29 (Dz a0.Kind y9 h8 h10) [],⟨.fnv (.func (.func y9.say) #[] #[]) 59,B0 h26⟩,pc jQ (jF (⟨z0.1,(⟨(⟨z0.2.1,z0.2.2.1⟩:Ab),(⟨(g3_ z0),(g4_ z0)⟩:Ab),(⟨(g5_ z0),(g6_ z0)⟩:Ab)⟩:Ae),(g7_ z0),(⟨(⟨(⟨(g8_ z0),(g9_ z0)⟩:Ab),(⟨(Bq z0),(Bp z0)⟩:Ab),(⟨(Cb z0),(Di z0)⟩:Ab)⟩:Ae),(Dh z0),(Df z0),(De z0),(Dd z0),(Dg z0),(Dc z0)⟩:Aa),(B8 z0)⟩:Ac) a0.Numbers _ h28) [1,2,3,4,5,6]] [] 1 [0,1,2,3,9,5,6] _ hC [pq (Al hi0 hl0)] (sI h).symm
         ·rcases cB h with⟨h23,h⟩ | ⟨h23,h⟩
          ·obtain⟨y24,h25,h⟩:=Ah h
           exact wx w0b (C7 x0 (n0+1)) (Dy x0 (n0+1)) Cs 35 [true] [pr q26 (Ap hx0 hl0),pn q26 (Ap hx0 hl0),pc e29 (Dz a0.Kind y9 h8 h10) [],⟨.fnv (.func (.func y9.say) #[] #[]) 60,B0 h23⟩,pc jP (jE (⟨z0.1,(⟨(⟨z0.2.1,z0.2.2.1⟩:Ab),(⟨(g3_ z0),(g4_ z0)⟩:Ab),(⟨(g5_ z0),(g6_ z0)⟩:Ab)⟩:Ae),(g7_ z0),(⟨(⟨(⟨(g8_ z0),(g9_ z0)⟩:Ab),(⟨(Bq z0),(Bp z0)⟩:Ab),(⟨(Cb z0),(Di z0)⟩:Ab)⟩:Ae),(Dh z0),(Df z0),(De z0),(Dd z0),(Dg z0),(Dc z0)⟩:Aa),(B8 z0)⟩:Ac) a0.Numbers _ h25) [1,2,3,4,5,6]] [] 1 n7_ _ hC [pq (Al hi0 hl0)] (sI h).symm
          ·rcases cB h with⟨h20,h⟩ | ⟨h20,h⟩
           ·obtain⟨y21,h22,h⟩:=Ah h
            exact wx w0b (C7 x0 (n0+1)) (Dy x0 (n0+1)) Cs 35 [true] [pr q26 (Ap hx0 hl0),pn q26 (Ap hx0 hl0),pc e29 (Dz a0.Kind y9 h8 h10) [],⟨.fnv (.func (.func y9.say) #[] #[]) 61,B0 h20⟩,pc jO (jD (⟨z0.1,(⟨(⟨z0.2.1,z0.2.2.1⟩:Ab),(⟨(g3_ z0),(g4_ z0)⟩:Ab),(⟨(g5_ z0),(g6_ z0)⟩:Ab)⟩:Ae),(g7_ z0),(⟨(⟨(⟨(g8_ z0),(g9_ z0)⟩:Ab),(⟨(Bq z0),(Bp z0)⟩:Ab),(⟨(Cb z0),(Di z0)⟩:Ab)⟩:Ae),(Dh z0),(Df z0),(De z0),(Dd z0),(Dg z0),(Dc z0)⟩:Aa),(B8 z0)⟩:Ac) a0.Numbers _ h22) [1,2,3,4,5,6]] [] 1 [0,1,9,3,4,5,6] _ hC [pq (Al hi0 hl0)] (sI h).symm
           ·rcases cB h with⟨h17,h⟩ | ⟨h17,h⟩
            ·obtain⟨y18,h19,h⟩:=Ah h
             exact wx w0b (C7 x0 (n0+1)) (Dy x0 (n0+1)) Cs 35 [true] [pr q26 (Ap hx0 hl0),pn q26 (Ap hx0 hl0),pc e29 (Dz a0.Kind y9 h8 h10) [],⟨.fnv (.func (.func y9.say) #[] #[]) 62,B0 h17⟩,pc jN (jC (⟨z0.1,(⟨(⟨z0.2.1,z0.2.2.1⟩:Ab),(⟨(g3_ z0),(g4_ z0)⟩:Ab),(⟨(g5_ z0),(g6_ z0)⟩:Ab)⟩:Ae),(g7_ z0),(⟨(⟨(⟨(g8_ z0),(g9_ z0)⟩:Ab),(⟨(Bq z0),(Bp z0)⟩:Ab),(⟨(Cb z0),(Di z0)⟩:Ab)⟩:Ae),(Dh z0),(Df z0),(De z0),(Dd z0),(Dg z0),(Dc z0)⟩:Aa),(B8 z0)⟩:Ac) a0.Numbers _ h19) [1,2,3,4,5,6]] [] 1 n7_ _ hC [pq (Al hi0 hl0)] (sI h).symm
            ·rcases cB h with⟨h14,h⟩ | ⟨h14,h⟩
             ·obtain⟨y15,h16,h⟩:=Ah h
              exact wx w0b (C7 x0 (n0+1)) (Dy x0 (n0+1)) Cs 35 [true] [pr q26 (Ap hx0 hl0),pn q26 (Ap hx0 hl0),pc e29 (Dz a0.Kind y9 h8 h10) [],⟨.fnv (.func (.func y9.say) #[] #[]) 63,B0 h14⟩,pc jM (jB (⟨z0.1,(⟨(⟨z0.2.1,z0.2.2.1⟩:Ab),(⟨(g3_ z0),(g4_ z0)⟩:Ab),(⟨(g5_ z0),(g6_ z0)⟩:Ab)⟩:Ae),(g7_ z0),(⟨(⟨(⟨(g8_ z0),(g9_ z0)⟩:Ab),(⟨(Bq z0),(Bp z0)⟩:Ab),(⟨(Cb z0),(Di z0)⟩:Ab)⟩:Ae),(Dh z0),(Df z0),(De z0),(Dd z0),(Dg z0),(Dc z0)⟩:Aa),(B8 z0)⟩:Ac) a0.Numbers _ h16) [1,2,3,4,5,6]] [] 1 [0,1,2,3,4,9,6] _ hC [pq (Al hi0 hl0)] (sI h).symm
             ·rcases cB h with⟨h11,h⟩ | ⟨h11,h⟩
              ·obtain⟨y12,h13,h⟩:=Ah h
               exact wx w0b (C7 x0 (n0+1)) (Dy x0 (n0+1)) Cs 35 [true] [pr q26 (Ap hx0 hl0),pn q26 (Ap hx0 hl0),pc e29 (Dz a0.Kind y9 h8 h10) [],⟨.fnv (.func (.func y9.say) #[] #[]) 64,B0 h11⟩,pc jL (jA (⟨z0.1,(⟨(⟨z0.2.1,z0.2.2.1⟩:Ab),(⟨(g3_ z0),(g4_ z0)⟩:Ab),(⟨(g5_ z0),(g6_ z0)⟩:Ab)⟩:Ae),(g7_ z0),(⟨(⟨(⟨(g8_ z0),(g9_ z0)⟩:Ab),(⟨(Bq z0),(Bp z0)⟩:Ab),(⟨(Cb z0),(Di z0)⟩:Ab)⟩:Ae),(Dh z0),(Df z0),(De z0),(Dd z0),(Dg z0),(Dc z0)⟩:Aa),(B8 z0)⟩:Ac) a0.Numbers _ h13) [1,2,3,4,5,6]] [] 1 [0,1,9,10,11,12,13] _ hC [pq (Al hi0 hl0)] (sI h).symm
              ·cases h
    ·have h:=hnext0 _ hs0
     replace h:=sI h
     subst h
     exact wr Cs 23 [] [] [] 1 [0,6] hC []
theorem Kw:EN 15:=en Tryz.func15
theorem k5  (r:Bool) (h:F5  = some r):CO 5 [] [] (.d (Bo r)) []:=by
 unfold F5 at h
 refine co 78 Tryz.func5 λ C hC=>?_
 obtain⟨y1,h2,y3,h4,y5,h6,y7,h8,h⟩:=Dq h
 obtain⟨y9,h10,y11,h12,h⟩:=Ay h
 replace h:=sI h
 subst h
 exact wr [0,1,2,3,4,5,6,7,9,10] 33 [] [pc e20 (k20 (⟨#[98,114,101,97,107,32,49,32,48,10,116,105,99,107,32,50,10]⟩:ByteArray) _ h2) [],pc e15 (k15 y1.1 5 _ h4) [],pc e11 (k11 y1.1 _ h6) [],pc e20 (k20 (⟨#[116,105,99,107,32,49,10,116,105,99,107,32,48,49,10]⟩:ByteArray) _ h8) [],pL_ [(((((y1.2.2==0)&&(y1.2.1==0))&&(y3.2==0))&&(y5.2==0)),true)] q60 y3.1,pR q60 h10,pN q60 h10,pL_ [((((((y1.2.2==0)&&(y1.2.1==0))&&(y3.2==0))&&(y5.2==0))&&((ln y3.1)==2)),true)] q91 y9.Faults,pR q60 h12,pN q60 h12,pL_ [(((((((y1.2.2==0)&&(y1.2.1==0))&&(y3.2==0))&&(y5.2==0))&&((ln y3.1)==2))&&((ln y9.Faults)==1)),true)] q91 y11.Faults] [] 0 [] hC []
theorem e5:EN 5:=en Tryz.func5
def L_:List Nat:=[0,1,2,4,23,25,26,27,28,36]
def Qo (x0:api_Command) (n0:Nat) (z0:Unit):St:=[(1,dO 0 0),(2,dB false),(25,.d (DS pI x0.Numbers)),(26,dI (ln x0.Numbers)),(27,dI (cnt 0 n0))]
def Vz (x0:api_Command) (n0:Nat) (z0:Unit):List Res:=[.box 26 (d26 x0)]
def W8  (z0:Unit):St:=[(1,dO 0 0),(2,dB false)]
def Yl (x0:api_Command) (z0:Unit):List Res:=[.box 26 (d26 x0)]
theorem k14 (x0:api_Command) (r:Bool) (h:F14 x0=some r):CO 14 [.agg (d26 x0)] [] (.d (Bo r)) []:=by
 unfold F14 at h
 refine co 55 Tryz.func14 λ C hC=>?_
 obtain⟨y1,h2,h⟩:=Ah h
 refine wn L_ 26 [] [pL_ [(((decide (x0.Kind<1)) || (decide (x0.Kind>8))),false)] pI x0.Numbers,⟨.when [(((decide (x0.Kind<1)) || (decide (x0.Kind>8))),false)] (.call 31 [] [] (.agg (d80 F31)) [] []),λ hg=>⟨e31,(k31  _ rfl)⟩⟩,⟨.when [(((decide (x0.Kind<1)) || (decide (x0.Kind>8))),false)] (.idx (([F31.e0,F31.e1,F31.e2,F31.e3,F31.e4,F31.e5,F31.e6,F31.e7]:List Int).map pI) (w64 (x0.Kind-1)) (pI y1)),λ hg=>T5 (Av h2 hg)⟩] [] 0 [0] [1,2,23] hC [] ?_
 rcases cB h with⟨h3,h⟩ | ⟨h3,h⟩
 ·replace h:=sI h
  subst h
  exact wr L_ 24 [true] [] [] 0 [] hC [pq h3]
 ·refine ws L_ 26 [false] [pl pI x0.Numbers] [] 0 [0] (Qo x0 0 ()) (Vz x0 0 ()) hC [pq h3] ?_
  obtain⟨w0,hm0,hret0,hnext0⟩:=Aj h
  clear h
  refine wc w0 (W8) (Yl x0) ?_ λ z0 hs0=>?_
  ·refine wb ?_
   refine C5 25 rfl λ hl0=>?_
   refine wl (Qo x0) (Vz x0) hm0 (λ z0 hn0=>?_) λ n0 a0 z0 w0b hi0 hx0 h hb0 hr0=>?_
   ·clear hm0
    exact wx w0 (W8) (Yl x0) L_ 26 [false] [] [] 0 [0] _ hC [pq (Bl hl0)] hn0
   ·unfold Kg at h
    rcases cB h with⟨h4,h⟩ | ⟨h4,h⟩
    ·have hq:=hret0 _ (hr0 _ (sI h).symm)
     replace hq:=sI hq
     subst hq
     exact wr L_ 35 [true,true] [pt hx0 hl0] [] 0 [] hC [pq (Al hi0 hl0),pq h4]
    ·exact wx w0b (Qo x0 (n0+1)) (Vz x0 (n0+1)) L_ 36 [true,false] [pt hx0 hl0] [] 0 [0] _ hC [pq (Al hi0 hl0),pq h4] (sI h).symm
  ·have h:=hnext0 _ hs0
   obtain⟨y5,h6,y7,h8,h⟩:=Ay h
   replace h:=sI h
   subst h
   exact wr L_ 23 [] [pR pI h6,pR pI h8] [] 0 [] hC []
theorem e14:EN 14:=en Tryz.func14
def Uv:List Nat:=[0,1,2,3,5,12,13,14,15]
def Qd (x0:api_Command) (n0:Nat) (z0:ByteArray):St:=[(2,.d (.p (.v (.string (⟨#[]⟩:ByteArray))))),(3,.d (.p (.v (.string z0)))),(12,.d (DS pI x0.Numbers)),(13,dI (ln x0.Numbers)),(14,dI (cnt 0 n0))]
def Vo  (n0:Nat) (z0:ByteArray):List Res:=[]
def Wq  (z0:ByteArray):St:=[(2,.d (.p (.v (.string (⟨#[]⟩:ByteArray))))),(3,.d (.p (.v (.string z0))))]
def X8  (z0:ByteArray):List Res:=[]
theorem k28 (x0:api_Command) (r:ByteArray) (h:F28 x0=some r):CO 28 [.agg (d26 x0)] [] (.d (.p (.v (.string r)))) []:=by
 unfold F28 at h
 refine co 26 Tryz.func28 λ C hC=>?_
 obtain⟨y1,h2,h⟩:=Ah h
 refine ws Uv 28 [] [pc e43 (k43  _ rfl) [],⟨.idx (([F43.e0,F43.e1,F43.e2,F43.e3,F43.e4,F43.e5,F43.e6,F43.e7]:List ByteArray).map pS) (w64 (x0.Kind-1)) (pS y1),T5 h2⟩,pl pI x0.Numbers] [] 0 [] (Qd x0 0 y1) (Vo 0 y1) hC [] ?_
 obtain⟨w0,hm0,hret0,hnext0⟩:=Aj h
 clear h
 refine wc w0 (Wq) (X8) ?_ λ z0 hs0=>?_
 ·refine wb ?_
  refine C5 12 rfl λ hl0=>?_
  refine wl (Qd x0) (Vo) hm0 (λ z0 hn0=>?_) λ n0 a0 z0 w0b hi0 hx0 h hb0 hr0=>?_
  ·clear hm0
   exact wx w0 (Wq) (X8) Uv 26 [false] [] [] 0 [] _ hC [pq (Bl hl0)] hn0
  ·unfold J9 at h
   obtain⟨y3,h4,u6,h5,u8,h7,h⟩:=A9 h
   exact wx w0b (Qd x0 (n0+1)) (Vo (n0+1)) Uv 33 [true] [pt hx0 hl0,pc e41 (k41 a0 _ h4) [],⟨.nz (Dn (⟨#[32]⟩:ByteArray) y3),Fz h5⟩,⟨.nz (Dn z0 ((⟨#[32]⟩:ByteArray)++y3)),Fz h7⟩] [] 0 [] _ hC [pq (Al hi0 hl0)] (sI h).symm
 ·have h:=hnext0 _ hs0
  obtain⟨u10,h9,h⟩:=Ah h
  replace h:=sI h
  subst h
  exact wr Uv 23 [] [⟨.nz (Dn z0 (⟨#[10]⟩:ByteArray)),Fz h9⟩] [] 0 [] hC []
theorem e28:EN 28:=en Tryz.func28
def N8:List Nat:=[0,2,3,4,6,9,10,11,12,13,18]
def Qp (x0:List api_Command) (n0:Nat) (z0:ByteArray):St:=[(2,.d (.p (.v (.string (⟨#[]⟩:ByteArray))))),(3,dI 0),(4,.d (.p (.v (.string z0)))),(10,.d (DS q26 x0)),(11,dI (ln x0)),(12,dI (cnt 0 n0))]
def V0  (n0:Nat) (z0:ByteArray):List Res:=[]
def W9  (z0:ByteArray):St:=[(2,.d (.p (.v (.string (⟨#[]⟩:ByteArray))))),(3,dI 0),(4,.d (.p (.v (.string z0))))]
def Ym  (z0:ByteArray):List Res:=[]
theorem k12 (x0:List api_Command) (r:ByteArray×Int) (h:F12 x0=some r):CO 12 [.d (DS q26 x0)] [] (.tup [.d (.p (.v (.string r.1))),.d (I r.2)]) []:=by
 unfold F12 at h
 refine co 25 Tryz.func12 λ C hC=>?_
 rcases cB h with⟨h1,h⟩ | ⟨h1,h⟩
 ·replace h:=sI h
  subst h
  exact wr N8 29 [true] [pl q26 x0] [] 0 [] hC [pq h1]
 ·refine ws N8 33 [false] [pl q26 x0,pl q26 x0] [] 0 [] (Qp x0 0 (⟨#[]⟩:ByteArray)) (V0 0 (⟨#[]⟩:ByteArray)) hC [pq h1] ?_
  obtain⟨w0,hm0,hret0,hnext0⟩:=Aj h
  clear h
  refine wc w0 (W9) (Ym) ?_ λ z0 hs0=>?_
  ·refine wb ?_
   refine C5 10 rfl λ hl0=>?_
   refine wl (Qp x0) (V0) hm0 (λ z0 hn0=>?_) λ n0 a0 z0 w0b hi0 hx0 h hb0 hr0=>?_
   ·clear hm0
    exact wx w0 (W9) (Ym) N8 26 [false] [] [] 0 [] _ hC [pq (Bl hl0)] hn0
   ·unfold G_ at h
    obtain⟨y2,h3,h⟩:=Ah h
    rcases cB h with⟨h4,h⟩ | ⟨h4,h⟩
    ·have hq:=hret0 _ (hr0 _ (sI h).symm)
     replace hq:=sI hq
     subst hq
     exact wr N8 36 [true,true] [pt hx0 hl0,pc e14 (k14 a0 _ h3) []] [] 0 [] hC [pq (Al hi0 hl0),pq h4]
    ·obtain⟨y5,h6,u8,h7,h⟩:=Ay h
     exact wx w0b (Qp x0 (n0+1)) (V0 (n0+1)) N8 38 [true,false] [pt hx0 hl0,pc e14 (k14 a0 _ h3) [],pc e28 (k28 a0 _ h6) [],⟨.nz (Dn z0 y5),Fz h7⟩] [] 0 [] _ hC [pq (Al hi0 hl0),pq h4] (sI h).symm
  ·have h:=hnext0 _ hs0
   replace h:=sI h
   subst h
   exact wr N8 23 [] [] [] 0 [] hC []
theorem e12:EN 12:=en Tryz.func12
def Bv:List Nat:=[0,1,4,5,6,8,10,11,12,13,15,16,17,18,21,22,23,24,25,34,43,44,45,46,47,52,59,60,61,62,63,69,70,87,102,117,146,172,178,188,194]
def My (x0:List api_Command) (x1:Int) (n0:Nat) (z0:Int):St:=[(0,.d (DS q26 x0)),(1,dI x1),(4,.d (DS q60 [])),(5,dI 0),(6,dI z0),(22,.d (DS q26 x0)),(23,dI (ln x0)),(24,dI (cnt 0 n0))]
def P4  (n0:Nat) (z0:Int):List Res:=[]
def W6 (x0:List api_Command) (x1:Int) (z0:Int):St:=[(0,.d (DS q26 x0)),(1,dI x1),(4,.d (DS q60 [])),(5,dI 0),(6,dI z0)]
def Yj  (z0:Int):List Res:=[]
def Qn (x0:List api_Command) (x1:Int) (n1:Nat) (z1:Unit):St:=[(0,.d (DS q26 x0)),(1,dI x1),(4,.d (DS q60 [])),(5,dI 0),(44,.d (DS q26 x0)),(45,dI (ln x0)),(46,dI (cnt 0 n1))]
def Vy  (n1:Nat) (z1:Unit):List Res:=[]
def W5 (x0:List api_Command) (x1:Int) (z1:Unit):St:=[(0,.d (DS q26 x0)),(1,dI x1),(4,.d (DS q60 [])),(5,dI 0)]
def Yi  (z1:Unit):List Res:=[]
def D3 (x0:List api_Command) (x1:Int) (n2:Nat) (z2:Sg0):St:=[(1,dI x1),(4,.d (DS q60 [])),(5,dI 0),(11,dS 2),(12,dO 0 0),(13,dO 1 0),(60,.d (DS q26 x0)),(61,dI (ln x0)),(62,dI (cnt 0 n2))]
def Fc  (n2:Nat) (z2:Sg0):List Res:=[.box 60 [I z2.2.2.1,I (g3_ z2),I (g4_ z2),I (g5_ z2),I (g6_ z2),I (g7_ z2),I (g8_ z2),.os 3,.os 4,.os 5,I 0,.os 6],.box 60 [I 0,I 0,I 0,I 0,I 0,I 0,I 0,.os 7,.os 8,.os 9,I (Bq z2),.os 10],v0_ (Ft z2),v2_ ([]:List Ag),v3_ ([]:List An),v4_ ([]:List Ai),v1_ ([]:List Int),v2_ (g9_ z2),v3_ z2.1,v4_ z2.2.1,v1_ (Bp z2)]
def W4  (z2:Sg0):St:=[(4,.d (DS q60 [])),(5,dI 0),(11,dS 0)]
def Yh  (z2:Sg0):List Res:=[v0_ (Ft z2)]
def Qm (x0:List api_Command) (x1:Int) (n2:Nat) (a2:api_Command) (z3:Sg2):St:=[(1,dI x1),(4,.d (DS q60 [])),(5,dI 0),(11,dS 2),(12,dO 0 0),(13,dO 1 0),(16,.d (DS pI a2.Numbers)),(17,dI z3.1),(60,.d (DS q26 x0)),(61,dI (ln x0)),(62,dI (cnt 0 n2))]
def Vx (z2:Sg0) (z3:Sg2):List Res:=[.box 60 [I z2.2.2.1,I (g3_ z2),I (g4_ z2),I (g5_ z2),I (g6_ z2),I (g7_ z2),I (g8_ z2),.os 3,.os 4,.os 5,I 0,.os 6],.box 60 [I 0,I 0,I 0,I 0,I 0,I 0,I 0,.os 7,.os 8,.os 9,I z3.2.1,.os 10],v0_ z3.2.2.1,v2_ ([]:List Ag),v3_ ([]:List An),v4_ ([]:List Ai),v1_ ([]:List Int),v2_ (g3_ z3),v3_ (g4_ z3),v4_ (g5_ z3),v1_ (Oe z3)]
def W0 (x0:List api_Command) (x1:Int) (n2:Nat) (z3:Sg2):St:=[(1,dI x1),(4,.d (DS q60 [])),(5,dI 0),(11,dS 2),(12,dO 0 0),(13,dO 1 0),(60,.d (DS q26 x0)),(61,dI (ln x0)),(62,dI (cnt 0 n2))]
def Yg (z2:Sg0) (z3:Sg2):List Res:=[.box 60 [I z2.2.2.1,I (g3_ z2),I (g4_ z2),I (g5_ z2),I (g6_ z2),I (g7_ z2),I (g8_ z2),.os 3,.os 4,.os 5,I 0,.os 6],.box 60 [I 0,I 0,I 0,I 0,I 0,I 0,I 0,.os 7,.os 8,.os 9,I z3.2.1,.os 10],v0_ z3.2.2.1,v2_ ([]:List Ag),v3_ ([]:List An),v4_ ([]:List Ai),v1_ ([]:List Int),v2_ (g3_ z3),v3_ (g4_ z3),v4_ (g5_ z3),v1_ (Oe z3)]
set_option maxHeartbeats 4000000 in
theorem k16 (x0 : List api_Command) (x1 : Int) (r : (List Aa) × Int) (h : F16 x0 x1 = some r) : CO 16 [.d (DS q26 x0), .d (I x1)] [] (.tup [.d (.os 0), .d (I r.2)]) [v0_ r.1] := by
 unfold F16 at h
 refine co 211 Tryz.func16 λ C hC=>?_
 rcases cB h with⟨h1,h⟩ | ⟨h1,h⟩
 ·replace h:=sI h
  subst h
  exact wr Bv 29 [true] [pl q26 x0] [.own 4 60 12] 0 [0] hC [pq h1]
 ·refine ws Bv 33 [false] [pl q26 x0, pl q26 x0] [] 0 [] (My x0 x1 0 0) (P4 0 0) hC [pq h1] ?_
  obtain⟨w0,hm0,hret0,hnext0⟩:=Aj h
  clear h
  refine wc w0 (W6 x0 x1) (Yj) ?_ λ z0 hs0=>?_
  ·refine wb ?_
   refine C5 22 rfl λ hl0=>?_
   refine wl (My x0 x1) (P4) hm0 (λ z0 hn0=>?_) λ n0 a0 z0 w0b hi0 hx0 h hb0 hr0=>?_
   ·clear hm0
    exact wx w0 (W6 x0 x1) (Yj) Bv 26 [false] [] [] 0 [] _ hC [pq (Bl hl0)] hn0
   ·unfold Kf at h
    obtain⟨y2,h3,h⟩:=Ah h
    rcases cB h with⟨h4,h⟩ | ⟨h4,h⟩
    ·obtain⟨y5,h6,h⟩:=Ah h
     exact wx w0b (My x0 x1 (n0+1)) (P4 (n0+1)) Bv 36 [true,true] [pt hx0 hl0,pc e14 (k14 a0 _ h3) [],pr pI h6] [] 0 [] _ hC [pq (Al hi0 hl0),pq h4] (sI h).symm
    ·exact wx w0b (My x0 x1 (n0+1)) (P4 (n0+1)) Bv 36 [true,false] [pt hx0 hl0,pc e14 (k14 a0 _ h3) []] [] 0 [] _ hC [pq (Al hi0 hl0),pq h4] (sI h).symm
  ·have h := hnext0 _ hs0
   rcases cB h with⟨h7,h⟩ | ⟨h7,h⟩
   ·replace h:=sI h
    subst h
    exact wr Bv 27 [true] [] [.own 4 60 12] 0 [0] hC [pq h7]
   ·refine ws Bv 29 [false] [pl q26 x0] [] 0 [] (Qn x0 x1 0 ()) (Vy 0 ()) hC [pq h7] ?_
    obtain⟨w1,hm1,hret1,hnext1⟩:=Aj h
    clear h
    refine wc w1 (W5 x0 x1) (Yi) ?_ λ z1 hs1=>?_
    ·refine wb ?_
     refine C5 44 rfl λ hl1=>?_
     refine wl (Qn x0 x1) (Vy) hm1 (λ z1 hn1=>?_) λ n1 a1 z1 w1b hi1 hx1 h hb1 hr1=>?_
     ·clear hm1
      exact wx w1 (W5 x0 x1) (Yi) Bv 26 [false] [] [] 0 [] _ hC [pq (Bl hl1)] hn1
     ·unfold Ke at h
      obtain⟨y8,h9,h⟩:=Ah h
      rcases cB h with⟨h10,h⟩ | ⟨h10,h⟩
      ·have hq:=hret1 _ (hr1 _ (sI h).symm)
       replace hq:=sI hq
       subst hq
       exact wr Bv 35 [true,true] [pt hx1 hl1,pc e14 (k14 a1 _ h9) []] [.own 4 60 12] 0 [1] hC [pq (Al hi1 hl1),pq h10]
      ·exact wx w1b (Qn x0 x1 (n1+1)) (Vy (n1+1)) Bv 36 [true,false] [pt hx1 hl1,pc e14 (k14 a1 _ h9) []] [] 0 [] _ hC [pq (Al hi1 hl1),pq h10] (sI h).symm
    ·have h := hnext1 _ hs1
     rcases cB h with⟨h11,h⟩ | ⟨h11,h⟩
     ·replace h:=sI h
      subst h
      exact wr Bv 27 [true] [] [.own 4 60 12] 0 [0] hC [pq h11]
     ·refine ws Bv 33 [false] [pl q26 x0] [.own 11 60 12, .ownb 0 7 95 5, .ownb 0 8 87 3, .ownb 0 9 91 4, .ownb 0 11 3 1, .ownb 1 7 95 5, .ownb 1 8 87 3, .ownb 1 9 91 4, .ownb 1 11 3 1] 0 Hn (D3 x0 x1 0 (([] : List An), ([] : List Ai), 0, 0, 0, 0, 0, 0, 0, ([] : List Ag), 0, ([] : List Int), ([] : List Aa))) (Fc 0 (([] : List An), ([] : List Ai), 0, 0, 0, 0, 0, 0, 0, ([] : List Ag), 0, ([] : List Int), ([] : List Aa))) hC [pq h11] ?_
      obtain⟨w2,hm2,hret2,hnext2⟩:=Aj h
      clear h
      refine wc w2 (W4) (Yh) ?_ λ z2 hs2=>?_
      ·refine wb ?_
       refine C5 60 rfl λ hl2=>?_
       refine wl (D3 x0 x1) (Fc) hm2 (λ z2 hn2=>?_) λ n2 a2 z2 w2b hi2 hx2 h hb2 hr2=>?_
       ·clear hm2
        exact wx w2 (W4) (Yh) Bv 26 [false] [] [] 0 [2] _ hC [pq (Bl hl2)] hn2
       ·unfold Ic at h
        rcases cB h with⟨h12,h⟩ | ⟨h12,h⟩
        ·obtain⟨y13,h14,y15,h16,y17,h18,y19,h20,h⟩:=Dq h
         exact wx w2b (D3 x0 x1 (n2+1)) (Fc (n2+1)) Bv 42 [true,true] [pt hx2 hl2,pr pI h14,pr pI h16,pr pI h18,pa q87 3 h20] [] 0 [0,1,2,3,4,5,6,7,12,9,10] _ hC [pq (Al hi2 hl2),pq h12] (sI h).symm
        ·rcases cB h with ⟨h21, h⟩ | ⟨h21, h⟩
         ·obtain⟨y22,h23,y24,h25,y26,h27,h⟩:=A9 h
          exact wx w2b (D3 x0 x1 (n2+1)) (Fc (n2+1)) Bv 45 [true,false,true] [pt hx2 hl2,pr pI h23,pr pI h25,pa q91 4 h27] [] 0 [0,1,2,3,4,5,6,7,8,12,10] _ hC [pq (Al hi2 hl2),pq h12,pq h21] (sI h).symm
         ·rcases cB h with ⟨h28, h⟩ | ⟨h28, h⟩
          ·obtain⟨y29,h30,y31,h32,y33,h34,h⟩:=A9 h
           exact wx w2b (D3 x0 x1 (n2+1)) (Fc (n2+1)) Bv 48 [true,false,false,true] [pt hx2 hl2,pr pI h30,pr pI h32,pa q91 4 h34] [] 0 [0,1,2,3,4,5,6,7,8,12,10] _ hC [pq (Al hi2 hl2),pq h12,pq h21,pq h28] (sI h).symm
          ·rcases cB h with ⟨h35, h⟩ | ⟨h35, h⟩
           ·obtain⟨y36,h37,y38,h39,y40,h41,y42,h43,h⟩:=Dq h
            obtain⟨y44,h45,y46,h47,y48,h49,h⟩:=A9 h
            exact wx w2b (D3 x0 x1 (n2+1)) (Fc (n2+1)) Bv 53 [true,false,false,false,true] [pt hx2 hl2,pr pI h37,pr pI h39,pr pI h41,pr pI h43,pr pI h45,pr pI h47,pr pI h49] [] 0 Hn _ hC [pq (Al hi2 hl2),pq h12,pq h21,pq h28,pq h35] (sI h).symm
           ·rcases cB h with⟨h50,h⟩ | ⟨h50,h⟩
            ·obtain⟨y51,h52,y53,h54,y55,h56,h⟩:=A9 h
             obtain⟨y57,h58,y59,h60,h⟩:=Ay h
             exact wx w2b (D3 x0 x1 (n2+1)) (Fc (n2+1)) Bv 54 [true,false,false,false,false,true] [pt hx2 hl2,pr pI h52,pl q60 (Ft z2),pr pI h54,pr pI h56,pr pI h58,pa q95 5 h60] [] 0 [0,1,2,3,4,5,6,12,8,9,10] _ hC [pq (Al hi2 hl2),pq h12,pq h21,pq h28,pq h35,pq h50] (sI h).symm
            ·rcases cB h with⟨h61,h⟩ | ⟨h61,h⟩
             ·obtain⟨y62,h63,h⟩:=Ah h
              exact wx w2b (D3 x0 x1 (n2+1)) (Fc (n2+1)) Bv 57 [true,false,false,false,false,false,true] [pt hx2 hl2,pr pI h63] [] 0 Hn _ hC [pq (Al hi2 hl2),pq h12,pq h21,pq h28,pq h35,pq h50,pq h61] (sI h).symm
             ·rcases cB h with⟨h64,h⟩ | ⟨h64,h⟩
              ·obtain⟨y65,h66,y67,h68,h⟩:=Ay h
               exact wx w2b (D3 x0 x1 (n2+1)) (Fc (n2+1)) Bv 60 [true,false,false,false,false,false,false,true] [pt hx2 hl2,pr pI h66,pa pI 1 h68] [] 0 [0,1,2,3,4,5,6,7,8,9,12] _ hC [pq (Al hi2 hl2),pq h12,pq h21,pq h28,pq h35,pq h50,pq h61,pq h64] (sI h).symm
              ·rcases cB h with⟨h69,h⟩ | ⟨h69,h⟩
               ·refine ws Bv 61 [true,false,false,false,false,false,false,false,true] [pt hx2 hl2] [] 0 Hn (Qm x0 x1 n2 a2 (0,(Bq z2),(Ft z2),(g9_ z2),z2.1,z2.2.1,(Bp z2))) (Vx z2 (0,(Bq z2),(Ft z2),(g9_ z2),z2.1,z2.2.1,(Bp z2))) hC [pq (Al hi2 hl2),pq h12,pq h21,pq h28,pq h35,pq h50,pq h61,pq h64,pq h69] ?_
                obtain⟨w3,hm3,hret3,hnext3⟩:=Aj h
                clear h
                refine wc w3 (W0 x0 x1 n2) (Yg z2) ?_ λ z3 hs3=>?_
                ·refine wb ?_
                 refine ww (Qm x0 x1 n2 a2) (Vx z2) hm3 λ z3 w3b h hb3 hr3=>?_
                 unfold Gc at h
                 obtain⟨y72,h73,h⟩:=Ah h
                 rcases cB h with⟨h74,h⟩ | ⟨h74,h⟩
                 ·refine wn Bv 12 [true] [pr pI h73] [.frz 7] 0 [0,1,2,3,4,5,6,8,9,10,11] [1,4,5,11,12,13,16,17,18,60,61,62] hC [pq h74] ?_
                  refine wn Bv 0 [] [] [.frz 7] 0 [0,1,2,3,4,5,6,8,9,10] [1,4,5,11,12,13,16,17,18,60,61,62] hC [] ?_
                  refine wn Bv 0 [] [] [.frz 7] 0 [0,1,2,3,4,5,6,8,9] [1,4,5,11,12,13,16,17,18,60,61,62] hC [] ?_
                  refine wn Bv 0 [] [] [.frz 7] 0 [0,1,2,3,4,5,6,8] [1,4,5,11,12,13,16,17,18,60,61,62] hC [] ?_
                  obtain⟨y75,h76,h⟩:=Ah h
                  exact wx w3b (Qm x0 x1 n2 a2) (Vx z2) Bv 25 [] [pa q60 12 h76] [.ownb 1 7 95 5,.ownb 1 8 87 3,.ownb 1 9 91 4,.ownb 1 11 3 1] 0 [0,1,8,3,4,5,6,9,10,11,12] _ hC [] (sI h).symm
                 ·exact wx w3 (W0 x0 x1 n2) (Yg z2) Bv 26 [false] [pr pI h73] [] 0 Hn (z3.1,z3.2.1,z3.2.2.1,(g3_ z3),(g4_ z3),(g5_ z3),(Oe z3)) hC [pq h74] (hb3 _ (sI h).symm)
                ·have h:=hnext3 _ hs3
                 exact wx w2b (D3 x0 x1 (n2+1)) (Fc (n2+1)) Bv 24 [] [] [] 0 Hn _ hC [] (sI h).symm
               ·exact wx w2b (D3 x0 x1 (n2+1)) (Fc (n2+1)) Bv 63 [true,false,false,false,false,false,false,false,false] [pt hx2 hl2] [] 0 Hn _ hC [pq (Al hi2 hl2),pq h12,pq h21,pq h28,pq h35,pq h50,pq h61,pq h64,pq h69] (sI h).symm
      ·have h:=hnext2 _ hs2
       replace h:=sI h
       subst h
       exact wr Bv 23 [] [] [] 0 [0] hC []
theorem e16:EN 16:=en Tryz.func16
def Ax:List Nat:=[0,1,4,5,6,8,10,11,12,13,15,16,17,18,21,22,23,24,25,34,43,44,45,46,47,52,59,60,61,62,63,69,70,87,102,117,146,172,178,188,194]
def Ik (x0:List api_Command) (x1:Int) (n0:Nat) (z0:Int):St:=[(0,dS 0),(1,dI x1),(4,.d (DS q60 [])),(5,dI 0),(6,dI z0),(22,dS 0),(23,dI (ln x0)),(24,dI (cnt 0 n0))]
def K0 (x0:List api_Command) (n0:Nat) (z0:Int):List Res:=[v5_ x0]
def Q0 (x1:Int) (z0:Int):St:=[(0,dS 0),(1,dI x1),(4,.d (DS q60 [])),(5,dI 0),(6,dI z0)]
def S4 (x0:List api_Command) (z0:Int):List Res:=[v5_ x0]
def L5 (x0:List api_Command) (x1:Int) (n1:Nat) (z1:Unit):St:=[(0,dS 0),(1,dI x1),(4,.d (DS q60 [])),(5,dI 0),(44,dS 0),(45,dI (ln x0)),(46,dI (cnt 0 n1))]
def Ow (x0:List api_Command) (n1:Nat) (z1:Unit):List Res:=[v5_ x0]
def Qz (x1:Int) (z1:Unit):St:=[(0,dS 0),(1,dI x1),(4,.d (DS q60 [])),(5,dI 0)]
def S3 (x0:List api_Command) (z1:Unit):List Res:=[v5_ x0]
def Cp (x0:List api_Command) (x1:Int) (n2:Nat) (z2:Sg0):St:=[(1,dI x1),(4,.d (DS q60 [])),(5,dI 0),(11,dS 3),(12,dO 1 0),(13,dO 2 0),(60,dS 0),(61,dI (ln x0)),(62,dI (cnt 0 n2))]
def Dk (x0:List api_Command) (n2:Nat) (z2:Sg0):List Res:=[v5_ x0,.box 60 [I z2.2.2.1,I (g3_ z2),I (g4_ z2),I (g5_ z2),I (g6_ z2),I (g7_ z2),I (g8_ z2),.os 4,.os 5,.os 6,I 0,.os 7],.box 60 [I 0,I 0,I 0,I 0,I 0,I 0,I 0,.os 8,.os 9,.os 10,I (Bq z2),.os 11],v0_ (Ft z2),v2_ ([]:List Ag),v3_ ([]:List An),v4_ ([]:List Ai),v1_ ([]:List Int),v2_ (g9_ z2),v3_ z2.1,v4_ z2.2.1,v1_ (Bp z2)]
def Qy  (z2:Sg0):St:=[(4,.d (DS q60 [])),(5,dI 0),(11,dS 1)]
def S0 (x0:List api_Command) (z2:Sg0):List Res:=[v5_ x0,v0_ (Ft z2)]
def L4 (x0:List api_Command) (x1:Int) (n2:Nat) (a2:api_Command) (z3:Sg2):St:=[(1,dI x1),(4,.d (DS q60 [])),(5,dI 0),(11,dS 3),(12,dO 1 0),(13,dO 2 0),(16,.d (DS pI a2.Numbers)),(17,dI z3.1),(60,dS 0),(61,dI (ln x0)),(62,dI (cnt 0 n2))]
def Ov (x0:List api_Command) (z2:Sg0) (z3:Sg2):List Res:=[v5_ x0,.box 60 [I z2.2.2.1,I (g3_ z2),I (g4_ z2),I (g5_ z2),I (g6_ z2),I (g7_ z2),I (g8_ z2),.os 4,.os 5,.os 6,I 0,.os 7],.box 60 [I 0,I 0,I 0,I 0,I 0,I 0,I 0,.os 8,.os 9,.os 10,I z3.2.1,.os 11],v0_ z3.2.2.1,v2_ ([]:List Ag),v3_ ([]:List An),v4_ ([]:List Ai),v1_ ([]:List Int),v2_ (g3_ z3),v3_ (g4_ z3),v4_ (g5_ z3),v1_ (Oe z3)]
def Qx (x0:List api_Command) (x1:Int) (n2:Nat) (z3:Sg2):St:=[(1,dI x1),(4,.d (DS q60 [])),(5,dI 0),(11,dS 3),(12,dO 1 0),(13,dO 2 0),(60,dS 0),(61,dI (ln x0)),(62,dI (cnt 0 n2))]
def Sz (x0:List api_Command) (z2:Sg0) (z3:Sg2):List Res:=[v5_ x0,.box 60 [I z2.2.2.1,I (g3_ z2),I (g4_ z2),I (g5_ z2),I (g6_ z2),I (g7_ z2),I (g8_ z2),.os 4,.os 5,.os 6,I 0,.os 7],.box 60 [I 0,I 0,I 0,I 0,I 0,I 0,I 0,.os 8,.os 9,.os 10,I z3.2.1,.os 11],v0_ z3.2.2.1,v2_ ([]:List Ag),v3_ ([]:List An),v4_ ([]:List Ai),v1_ ([]:List Int),v2_ (g3_ z3),v3_ (g4_ z3),v4_ (g5_ z3),v1_ (Oe z3)]
set_option maxHeartbeats 4000000 in
theorem Kp (x0 : List api_Command) (x1 : Int) (r : (List Aa) × Int) (h : Fw x0 x1 = some r) : CO 16 [.d (.os 0), .d (I x1)] [v5_ x0] (.tup [.d (.os 1), .d (I r.2)]) [v5_ x0, v0_ r.1] := by
 unfold Fw at h
 refine co 211 Tryz.func16 λ C hC=>?_
 rcases cB h with⟨h1,h⟩ | ⟨h1,h⟩
 ·replace h:=sI h
  subst h
  exact wr Ax 29 [true] [pl q26 x0] [.own 4 60 12] 1 [0,1] hC [pq h1]
 ·refine ws Ax 33 [false] [pl q26 x0, pl q26 x0] [] 1 [0] (Ik x0 x1 0 0) (K0 x0 0 0) hC [pq h1] ?_
  obtain⟨w0,hm0,hret0,hnext0⟩:=Aj h
  clear h
  refine wc w0 (Q0 x1) (S4 x0) ?_ λ z0 hs0=>?_
  ·refine wb ?_
   refine Kz 22 0 rfl rfl λ hl0=>?_
   refine wl (Ik x0 x1) (K0 x0) hm0 (λ z0 hn0=>?_) λ n0 a0 z0 w0b hi0 hx0 h hb0 hr0=>?_
   ·clear hm0
    exact wx w0 (Q0 x1) (S4 x0) Ax 26 [false] [] [] 1 [0] _ hC [pq (Bl hl0)] hn0
   ·unfold Ta at h
    obtain⟨y2,h3,h⟩:=Ah h
    refine wn Ax 32 [true] [pr q26 (Ap hx0 hl0),pn q26 (Ap hx0 hl0),pc e14 (k14 a0 _ h3) []] [] 1 [0,1] [0,1,4,5,6,8,22,23,24,34] hC [pq (Al hi0 hl0)] ?_
    rcases cB h with⟨h4,h⟩ | ⟨h4,h⟩
    ·obtain⟨y5,h6,h⟩:=Ah h
     exact wx w0b (Ik x0 x1 (n0+1)) (K0 x0 (n0+1)) Ax 25 [true] [pr pI h6] [] 1 [0] _ hC [pq h4] (sI h).symm
    ·exact wx w0b (Ik x0 x1 (n0+1)) (K0 x0 (n0+1)) Ax 25 [false] [] [] 1 [0] _ hC [pq h4] (sI h).symm
  ·have h := hnext0 _ hs0
   rcases cB h with⟨h7,h⟩ | ⟨h7,h⟩
   ·replace h:=sI h
    subst h
    exact wr Ax 27 [true] [] [.own 4 60 12] 1 [0,1] hC [pq h7]
   ·refine ws Ax 29 [false] [pl q26 x0] [] 1 [0] (L5 x0 x1 0 ()) (Ow x0 0 ()) hC [pq h7] ?_
    obtain⟨w1,hm1,hret1,hnext1⟩:=Aj h
    clear h
    refine wc w1 (Qz x1) (S3 x0) ?_ λ z1 hs1=>?_
    ·refine wb ?_
     refine Kz 44 0 rfl rfl λ hl1=>?_
     refine wl (L5 x0 x1) (Ow x0) hm1 (λ z1 hn1=>?_) λ n1 a1 z1 w1b hi1 hx1 h hb1 hr1=>?_
     ·clear hm1
      exact wx w1 (Qz x1) (S3 x0) Ax 26 [false] [] [] 1 [0] _ hC [pq (Bl hl1)] hn1
     ·unfold S_ at h
      obtain⟨y8,h9,h⟩:=Ah h
      refine wn Ax 32 [true] [pr q26 (Ap hx1 hl1),pn q26 (Ap hx1 hl1),pc e14 (k14 a1 _ h9) []] [] 1 [0] [0,1,4,5,44,45,46,52] hC [pq (Al hi1 hl1)] ?_
      rcases cB h with⟨h10,h⟩ | ⟨h10,h⟩
      ·have hq:=hret1 _ (hr1 _ (sI h).symm)
       replace hq:=sI hq
       subst hq
       exact wr Ax 24 [true] [] [.own 4 60 12] 1 [0,1] hC [pq h10]
      ·exact wx w1b (L5 x0 x1 (n1+1)) (Ow x0 (n1+1)) Ax 25 [false] [] [] 1 [0] _ hC [pq h10] (sI h).symm
    ·have h := hnext1 _ hs1
     rcases cB h with⟨h11,h⟩ | ⟨h11,h⟩
     ·replace h:=sI h
      subst h
      exact wr Ax 27 [true] [] [.own 4 60 12] 1 [0,1] hC [pq h11]
     ·refine ws Ax 33 [false] [pl q26 x0] [.own 11 60 12, .ownb 1 7 95 5, .ownb 1 8 87 3, .ownb 1 9 91 4, .ownb 1 11 3 1, .ownb 2 7 95 5, .ownb 2 8 87 3, .ownb 2 9 91 4, .ownb 2 11 3 1] 1 Hm (Cp x0 x1 0 (([] : List An), ([] : List Ai), 0, 0, 0, 0, 0, 0, 0, ([] : List Ag), 0, ([] : List Int), ([] : List Aa))) (Dk x0 0 (([] : List An), ([] : List Ai), 0, 0, 0, 0, 0, 0, 0, ([] : List Ag), 0, ([] : List Int), ([] : List Aa))) hC [pq h11] ?_
      obtain⟨w2,hm2,hret2,hnext2⟩:=Aj h
      clear h
      refine wc w2 (Qy) (S0 x0) ?_ λ z2 hs2=>?_
      ·refine wb ?_
       refine Kz 60 0 rfl rfl λ hl2=>?_
       refine wl (Cp x0 x1) (Dk x0) hm2 (λ z2 hn2=>?_) λ n2 a2 z2 w2b hi2 hx2 h hb2 hr2=>?_
       ·clear hm2
        exact wx w2 (Qy) (S0 x0) Ax 26 [false] [] [] 1 [0,3] _ hC [pq (Bl hl2)] hn2
       ·unfold S9 at h
        rcases cB h with⟨h12,h⟩ | ⟨h12,h⟩
        ·obtain⟨y13,h14,y15,h16,y17,h18,y19,h20,h⟩:=Dq h
         exact wx w2b (Cp x0 x1 (n2+1)) (Dk x0 (n2+1)) Ax 42 [true,true] [pr q26 (Ap hx2 hl2),pn q26 (Ap hx2 hl2),pr pI h14,pr pI h16,pr pI h18,pa q87 3 h20] [] 1 [0,1,2,3,4,5,6,7,8,13,10,11] _ hC [pq (Al hi2 hl2),pq h12] (sI h).symm
        ·rcases cB h with ⟨h21, h⟩ | ⟨h21, h⟩
         ·obtain⟨y22,h23,y24,h25,y26,h27,h⟩:=A9 h
          exact wx w2b (Cp x0 x1 (n2+1)) (Dk x0 (n2+1)) Ax 45 [true,false,true] [pr q26 (Ap hx2 hl2),pn q26 (Ap hx2 hl2),pr pI h23,pr pI h25,pa q91 4 h27] [] 1 [0,1,2,3,4,5,6,7,8,9,13,11] _ hC [pq (Al hi2 hl2),pq h12,pq h21] (sI h).symm
         ·rcases cB h with ⟨h28, h⟩ | ⟨h28, h⟩
          ·obtain⟨y29,h30,y31,h32,y33,h34,h⟩:=A9 h
           exact wx w2b (Cp x0 x1 (n2+1)) (Dk x0 (n2+1)) Ax 48 [true,false,false,true] [pr q26 (Ap hx2 hl2),pn q26 (Ap hx2 hl2),pr pI h30,pr pI h32,pa q91 4 h34] [] 1 [0,1,2,3,4,5,6,7,8,9,13,11] _ hC [pq (Al hi2 hl2),pq h12,pq h21,pq h28] (sI h).symm
          ·rcases cB h with ⟨h35, h⟩ | ⟨h35, h⟩
           ·obtain⟨y36,h37,y38,h39,y40,h41,y42,h43,h⟩:=Dq h
            obtain⟨y44,h45,y46,h47,y48,h49,h⟩:=A9 h
            exact wx w2b (Cp x0 x1 (n2+1)) (Dk x0 (n2+1)) Ax 53 [true,false,false,false,true] [pr q26 (Ap hx2 hl2),pn q26 (Ap hx2 hl2),pr pI h37,pr pI h39,pr pI h41,pr pI h43,pr pI h45,pr pI h47,pr pI h49] [] 1 Hm _ hC [pq (Al hi2 hl2),pq h12,pq h21,pq h28,pq h35] (sI h).symm
           ·rcases cB h with⟨h50,h⟩ | ⟨h50,h⟩
            ·obtain⟨y51,h52,y53,h54,y55,h56,h⟩:=A9 h
             obtain⟨y57,h58,y59,h60,h⟩:=Ay h
             exact wx w2b (Cp x0 x1 (n2+1)) (Dk x0 (n2+1)) Ax 54 [true,false,false,false,false,true] [pr q26 (Ap hx2 hl2),pn q26 (Ap hx2 hl2),pr pI h52,pl q60 (Ft z2),pr pI h54,pr pI h56,pr pI h58,pa q95 5 h60] [] 1 [0,1,2,3,4,5,6,7,13,9,10,11] _ hC [pq (Al hi2 hl2),pq h12,pq h21,pq h28,pq h35,pq h50] (sI h).symm
            ·rcases cB h with⟨h61,h⟩ | ⟨h61,h⟩
             ·obtain⟨y62,h63,h⟩:=Ah h
              exact wx w2b (Cp x0 x1 (n2+1)) (Dk x0 (n2+1)) Ax 57 [true,false,false,false,false,false,true] [pr q26 (Ap hx2 hl2),pn q26 (Ap hx2 hl2),pr pI h63] [] 1 Hm _ hC [pq (Al hi2 hl2),pq h12,pq h21,pq h28,pq h35,pq h50,pq h61] (sI h).symm
             ·rcases cB h with⟨h64,h⟩ | ⟨h64,h⟩
              ·obtain⟨y65,h66,y67,h68,h⟩:=Ay h
               exact wx w2b (Cp x0 x1 (n2+1)) (Dk x0 (n2+1)) Ax 60 [true,false,false,false,false,false,false,true] [pr q26 (Ap hx2 hl2),pn q26 (Ap hx2 hl2),pr pI h66,pa pI 1 h68] [] 1 [0,1,2,3,4,5,6,7,8,9,10,13] _ hC [pq (Al hi2 hl2),pq h12,pq h21,pq h28,pq h35,pq h50,pq h61,pq h64] (sI h).symm
              ·rcases cB h with⟨h69,h⟩ | ⟨h69,h⟩
               ·refine ws Ax 61 [true,false,false,false,false,false,false,false,true] [pr q26 (Ap hx2 hl2),pn q26 (Ap hx2 hl2)] [] 1 Hm (L4 x0 x1 n2 a2 (0,(Bq z2),(Ft z2),(g9_ z2),z2.1,z2.2.1,(Bp z2))) (Ov x0 z2 (0,(Bq z2),(Ft z2),(g9_ z2),z2.1,z2.2.1,(Bp z2))) hC [pq (Al hi2 hl2),pq h12,pq h21,pq h28,pq h35,pq h50,pq h61,pq h64,pq h69] ?_
                obtain⟨w3,hm3,hret3,hnext3⟩:=Aj h
                clear h
                refine wc w3 (Qx x0 x1 n2) (Sz x0 z2) ?_ λ z3 hs3=>?_
                ·refine wb ?_
                 refine ww (L4 x0 x1 n2 a2) (Ov x0 z2) hm3 λ z3 w3b h hb3 hr3=>?_
                 unfold S8 at h
                 obtain⟨y72,h73,h⟩:=Ah h
                 rcases cB h with⟨h74,h⟩ | ⟨h74,h⟩
                 ·refine wn Ax 12 [true] [pr pI h73] [.frz 8] 1 [0,1,2,3,4,5,6,7,9,10,11,12] [1,4,5,11,12,13,16,17,18,60,61,62] hC [pq h74] ?_
                  refine wn Ax 0 [] [] [.frz 8] 1 [0,1,2,3,4,5,6,7,9,10,11] [1,4,5,11,12,13,16,17,18,60,61,62] hC [] ?_
                  refine wn Ax 0 [] [] [.frz 8] 1 [0,1,2,3,4,5,6,7,9,10] [1,4,5,11,12,13,16,17,18,60,61,62] hC [] ?_
                  refine wn Ax 0 [] [] [.frz 8] 1 [0,1,2,3,4,5,6,7,9] [1,4,5,11,12,13,16,17,18,60,61,62] hC [] ?_
                  obtain⟨y75,h76,h⟩:=Ah h
                  exact wx w3b (L4 x0 x1 n2 a2) (Ov x0 z2) Ax 25 [] [pa q60 12 h76] [.ownb 2 7 95 5,.ownb 2 8 87 3,.ownb 2 9 91 4,.ownb 2 11 3 1] 1 [0,1,2,9,4,5,6,7,10,11,12,13] _ hC [] (sI h).symm
                 ·exact wx w3 (Qx x0 x1 n2) (Sz x0 z2) Ax 26 [false] [pr pI h73] [] 1 Hm (z3.1,z3.2.1,z3.2.2.1,(g3_ z3),(g4_ z3),(g5_ z3),(Oe z3)) hC [pq h74] (hb3 _ (sI h).symm)
                ·have h:=hnext3 _ hs3
                 exact wx w2b (Cp x0 x1 (n2+1)) (Dk x0 (n2+1)) Ax 24 [] [] [] 1 Hm _ hC [] (sI h).symm
               ·exact wx w2b (Cp x0 x1 (n2+1)) (Dk x0 (n2+1)) Ax 63 [true,false,false,false,false,false,false,false,false] [pr q26 (Ap hx2 hl2),pn q26 (Ap hx2 hl2)] [] 1 Hm _ hC [pq (Al hi2 hl2),pq h12,pq h21,pq h28,pq h35,pq h50,pq h61,pq h64,pq h69] (sI h).symm
      ·have h:=hnext2 _ hs2
       replace h:=sI h
       subst h
       exact wr Ax 23 [] [] [] 1 [0,1] hC []
theorem Kv:EN 16:=en Tryz.func16
end Go.Proofs.YtaplakgdkkmpfaaGreatDoor
