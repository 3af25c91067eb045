import Derived.Test.YtaplakgdkkmpfaaDoorRows
import Derived.Test.YtaplakgdkkmpfaaDoorMo
import Derived.Test.YtaplakgdkkmpfaaDoorFo
set_option linter.unusedVariables false
set_option maxHeartbeats 4000000
namespace Go.Proofs.YtaplakgdkkmpfaaDoor
open Go.SL
abbrev v0_ (l:List Int):Res:=.sl 3 1 (l.map pI)
abbrev v1_ (l:List Ah):Res:=.sl 50 12 (l.map q50)
abbrev v2_ (l:List As):Res:=.sl 88 5 (l.map q88)
abbrev v3_ (l:List Cu):Res:=.sl 90 3 (l.map q90)
abbrev v4_ (l:List Bw):Res:=.sl 94 4 (l.map q94)
abbrev CO:=CallOk Tryd.prog
abbrev EN:=Cy Tryd.prog
abbrev Q4 {α0 α1 α2 α3:Type} (z:α0×α1×α2×α3):α3:=z.2.2.2
abbrev g3_ {α0 α1 α2 α3 α4:Type} (z:α0×α1×α2×α3×α4):α3:=z.2.2.2.1
abbrev g4_ {α0 α1 α2 α3 α4 α5:Type} (z:α0×α1×α2×α3×α4×α5):α4:=z.2.2.2.2.1
abbrev g5_ {α0 α1 α2 α3 α4 α5 α6:Type} (z:α0×α1×α2×α3×α4×α5×α6):α5:=z.2.2.2.2.2.1
abbrev g6_ {α0 α1 α2 α3 α4 α5 α6 α7:Type} (z:α0×α1×α2×α3×α4×α5×α6×α7):α6:=z.2.2.2.2.2.2.1
abbrev g7_ {α0 α1 α2 α3 α4 α5 α6 α7 α8:Type} (z:α0×α1×α2×α3×α4×α5×α6×α7×α8):α7:=z.2.2.2.2.2.2.2.1
abbrev g8_ {α0 α1 α2 α3 α4 α5 α6 α7 α8 α9:Type} (z:α0×α1×α2×α3×α4×α5×α6×α7×α8×α9):α8:=z.2.2.2.2.2.2.2.2.1
abbrev g9_ {α0 α1 α2 α3 α4 α5 α6 α7 α8 α9 α10:Type} (z:α0×α1×α2×α3×α4×α5×α6×α7×α8×α9×α10):α9:=z.2.2.2.2.2.2.2.2.2.1
abbrev Dv {α0 α1 α2 α3 α4 α5 α6 α7 α8 α9 α10 α11:Type} (z:α0×α1×α2×α3×α4×α5×α6×α7×α8×α9×α10×α11):α10:=z.2.2.2.2.2.2.2.2.2.2.1
abbrev Du {α0 α1 α2 α3 α4 α5 α6 α7 α8 α9 α10 α11 α12:Type} (z:α0×α1×α2×α3×α4×α5×α6×α7×α8×α9×α10×α11×α12):α11:=z.2.2.2.2.2.2.2.2.2.2.2.1
abbrev Dt {α0 α1 α2 α3 α4 α5 α6 α7 α8 α9 α10 α11 α12 α13:Type} (z:α0×α1×α2×α3×α4×α5×α6×α7×α8×α9×α10×α11×α12×α13):α12:=z.2.2.2.2.2.2.2.2.2.2.2.2.1
abbrev Jb {α0 α1 α2 α3 α4 α5 α6 α7 α8 α9 α10 α11 α12 α13:Type} (z:α0×α1×α2×α3×α4×α5×α6×α7×α8×α9×α10×α11×α12×α13):α13:=z.2.2.2.2.2.2.2.2.2.2.2.2.2
abbrev Gk {α0 α1 α2 α3 α4 α5 α6 α7 α8 α9 α10 α11 α12 α13 α14:Type} (z:α0×α1×α2×α3×α4×α5×α6×α7×α8×α9×α10×α11×α12×α13×α14):α13:=z.2.2.2.2.2.2.2.2.2.2.2.2.2.1
abbrev Gj {α0 α1 α2 α3 α4 α5 α6 α7 α8 α9 α10 α11 α12 α13 α14 α15:Type} (z:α0×α1×α2×α3×α4×α5×α6×α7×α8×α9×α10×α11×α12×α13×α14×α15):α14:=z.2.2.2.2.2.2.2.2.2.2.2.2.2.2.1
abbrev Gi {α0 α1 α2 α3 α4 α5 α6 α7 α8 α9 α10 α11 α12 α13 α14 α15 α16:Type} (z:α0×α1×α2×α3×α4×α5×α6×α7×α8×α9×α10×α11×α12×α13×α14×α15×α16):α15:=z.2.2.2.2.2.2.2.2.2.2.2.2.2.2.2.1
abbrev Gh {α0 α1 α2 α3 α4 α5 α6 α7 α8 α9 α10 α11 α12 α13 α14 α15 α16 α17:Type} (z:α0×α1×α2×α3×α4×α5×α6×α7×α8×α9×α10×α11×α12×α13×α14×α15×α16×α17):α16:=z.2.2.2.2.2.2.2.2.2.2.2.2.2.2.2.2.1
abbrev Gg {α0 α1 α2 α3 α4 α5 α6 α7 α8 α9 α10 α11 α12 α13 α14 α15 α16 α17 α18:Type} (z:α0×α1×α2×α3×α4×α5×α6×α7×α8×α9×α10×α11×α12×α13×α14×α15×α16×α17×α18):α17:=z.2.2.2.2.2.2.2.2.2.2.2.2.2.2.2.2.2.1
abbrev Gf {α0 α1 α2 α3 α4 α5 α6 α7 α8 α9 α10 α11 α12 α13 α14 α15 α16 α17 α18 α19:Type} (z:α0×α1×α2×α3×α4×α5×α6×α7×α8×α9×α10×α11×α12×α13×α14×α15×α16×α17×α18×α19):α18:=z.2.2.2.2.2.2.2.2.2.2.2.2.2.2.2.2.2.2.1
abbrev Ge {α0 α1 α2 α3 α4 α5 α6 α7 α8 α9 α10 α11 α12 α13 α14 α15 α16 α17 α18 α19 α20:Type} (z:α0×α1×α2×α3×α4×α5×α6×α7×α8×α9×α10×α11×α12×α13×α14×α15×α16×α17×α18×α19×α20):α19:=z.2.2.2.2.2.2.2.2.2.2.2.2.2.2.2.2.2.2.2.1
abbrev Ep {α0 α1 α2 α3 α4 α5 α6 α7 α8 α9 α10 α11 α12 α13 α14 α15 α16 α17 α18 α19 α20:Type} (z:α0×α1×α2×α3×α4×α5×α6×α7×α8×α9×α10×α11×α12×α13×α14×α15×α16×α17×α18×α19×α20):α20:=z.2.2.2.2.2.2.2.2.2.2.2.2.2.2.2.2.2.2.2.2
theorem sI {α:Type} {a b:α} (h:some a=some b):a=b:=aN h
abbrev n3_:List Nat:=[0,1,2]
abbrev n5_:List Nat:=[0,1,2,3,4]
abbrev n6_:List Nat:=[0,1,2,3,4,5]
abbrev n7_:List Nat:=[0,1,2,3,4,5,6]
abbrev Uj:List Nat:=[0,1,2,3,4,5,6,7,8,9,10]
abbrev Ui:List Nat:=[0,1,2,3,4,5,6,7,8,9,10,11]
theorem mixed:Tryd.prog.follows .mixedOrders=true:=by kernel_rfl
abbrev PC:={c:Cl // Cl.ok Tryd.prog c}
abbrev PB:={p:Bool×Bool // p.1=p.2}
theorem okP:∀ l:List PC,Bm Tryd.prog (l.map (·.1))
 | []=>trivial
 | c::l=>⟨c.2,okP l⟩
theorem okB:∀ l:List PB,Ch (l.map (·.1))
 | []=>trivial
 | ⟨(_,_),h⟩::l=>⟨h,okB l⟩
def pq {a b:Bool} (h:a=b):PB:=⟨(a,b),h⟩
def pc {f:FuncId} {args:List AV} {R R2:List Res} {res:AV} (e:Cy Tryd.prog f) (k:CallOk Tryd.prog f args R res R2) (pi:List Nat):PC:=⟨.call f args R res R2 pi,e,k⟩
def pb {f:FuncId} {args:List AV} {res:AV} (e:Cy Tryd.prog f) (k:CallOk Tryd.prog f args [] res []):PC:=⟨.callB f args res [[]] 0 [],Mx ⟨e,k⟩⟩
def pw {g:List (Bool×Bool)} {f:FuncId} {args:List AV} {R R2:List Res} {res:AV} (e:Cy Tryd.prog f) (k:Ch g->CallOk Tryd.prog f args R res R2) (pi:List Nat):PC:=⟨.when g (.call f args R res R2 pi),λ h=>⟨e,k h⟩⟩
def pv {g:List (Bool×Bool)} {f:FuncId} {args:List AV} {res:AV} (e:Cy Tryd.prog f) (k:Ch g->CallOk Tryd.prog f args [] res []):PC:=⟨.when g (.callB f args res [[]] 0 []),λ h=>Mx ⟨e,k h⟩⟩
section
variable {α:Type}
def pl (q:α->List Pd) (l:List α):PC:=⟨.len ((l.map q).length:Int) (l.length:Int),Qc l q⟩
def pL_ (g:List (Bool×Bool)) (q:α->List Pd) (l:List α):PC:=⟨.when g (.len ((l.map q).length:Int) (l.length:Int)),λ _=>Qc l q⟩
def pr (q:α->List Pd) {l:List α} {n:Int} {x:α} (h:getI l n=some x):PC:=⟨.row (l.map q) n (q x),I8 h⟩
def pn (q:α->List Pd) {l:List α} {n:Int} {x:α} (h:getI l n=some x):PC:=⟨.row (l.map q) ((n.toNat:Nat):Int) (q x),N2 h⟩
def pt {q:α->List Pd} {l:List α} {i:Nat} {x:α} (hx:l[i]? = some x) (hl:(l.map q).length<=maxLen):PC:=⟨.row (l.map q) (cnt 0 i) (q x),P8 hx hl⟩
def pR (q:α->List Pd) {g:List (Bool×Bool)} {l:List α} {n:Int} {x d:α} (h:Bg g (getI l n) d=some x):PC:=⟨.when g (.row (l.map q) n (q x)),λ hg=>I8 (B4 h hg)⟩
def pN (q:α->List Pd) {g:List (Bool×Bool)} {l:List α} {n:Int} {x d:α} (h:Bg g (getI l n) d=some x):PC:=⟨.when g (.row (l.map q) ((n.toNat:Nat):Int) (q x)),λ hg=>N2 (B4 h hg)⟩
def pa (q:α->List Pd) (size:Nat) {B:Nat} {l m y:List α} (h:appI (B+1) l m=some y) (hs:∀ x,(q x).length=size:=by exact λ _=>rfl):PC:=⟨.app (l.map q) (m.map q) size (((l.map q).length+(m.map q).length)*(B+1)) (y.map q),Wf q size hs h⟩
def pu (q:α->List Pd) {l y:List α} {n:Int} {x x':α} (hx:getI l n=some x) (h:setI l n x'=some y):PC:=⟨.upd (l.map q) n.toNat (q x) (q x') (y.map q),Vp hx h⟩
end
theorem ws {ro:Option Nat} {n:Nat} {C:Ctx} {Q:Exit->Act->World->Prop} {st:St} {R:List Res} {items:List It} (lv:List Nat) (fuel:Nat) (ds:List Bool) (cls:List PC) (adj:List Adj) (k:Nat) (pi:List Nat) (st':St) (R':List Res) (hk:C.h.length<=k) (bs:List PB) (hW:WI ro Tryd.prog n C Q (Ar fuel items ds) st' R') (h:Cz Tryd.prog n lv fuel items st R ds (cls.map (·.1)) adj k pi (Kc st')=some (st',R',cls.map (·.1),bs.map (·.1)):=by kernel_rfl):WI ro Tryd.prog n C Q items st R:=Md mixed lv fuel ds (cls.map (·.1)) adj k pi st' R' hk (okP cls) (okB bs) h hW
def wo (o:Option (St×List Res×List Cl×List (Bool×Bool))):St×List Res:=match o with
 | some (s,r,_,_)=>(s,r)
 | none=>([],[])
theorem wn {ro:Option Nat} {n:Nat} {C:Ctx} {Q:Exit->Act->World->Prop} {st:St} {R:List Res} {items:List It} (lv:List Nat) (fuel:Nat) (ds:List Bool) (cls:List PC) (adj:List Adj) (k:Nat) (pi:List Nat) (ks:List Nat) (hk:C.h.length<=k) (bs:List PB) (hW:WI ro Tryd.prog n C Q (Ar fuel items ds) (wo (Cz Tryd.prog n lv fuel items st R ds (cls.map (·.1)) adj k pi ks)).1 (wo (Cz Tryd.prog n lv fuel items st R ds (cls.map (·.1)) adj k pi ks)).2) (h:(Cz Tryd.prog n lv fuel items st R ds (cls.map (·.1)) adj k pi ks).map (λ x=>(Kc x.1,x.2.2.1,x.2.2.2))=some (ks,cls.map (·.1),bs.map (·.1)):=by kernel_rfl):WI ro Tryd.prog n C Q items st R:=by
 cases e:Cz Tryd.prog n lv fuel items st R ds (cls.map (·.1)) adj k pi ks with
 | none=>rw [e] at h;cases h
 | some x=>
  obtain⟨s,r,c,b⟩:=x
  rw [e] at h hW
  simp only [bC,ag,au] at h
  obtain⟨h1,h2,h3⟩:=h
  subst h1;subst h2;subst h3
  exact Md mixed lv fuel ds _ adj k pi s r hk (okP cls) (okB bs) e hW
theorem we {ro:Option Nat} {n:Nat} {C:Ctx} {Q:Exit->Act->World->Prop} {st:St} {R:List Res} {items:List It} {σ:Type} {φ:σ->Prop} {st':σ->St} {R':σ->List Res} (lv:List Nat) (fuel:Nat) (ds:List Bool) (cls:List PC) (adj:List Adj) (k:Nat) (pi:List Nat) (s:σ) (hk:C.h.length<=k) (bs:List PB) (h1:φ s) (hi:hdK (Ar fuel items ds)=Ex n C φ st' R':=by kernel_rfl) (h:Cz Tryd.prog n lv fuel items st R ds (cls.map (·.1)) adj k pi (Kc (st' s))=some (st' s,R' s,cls.map (·.1),bs.map (·.1)):=by kernel_rfl):WI ro Tryd.prog n C Q items st R:=Tr mixed lv fuel ds (cls.map (·.1)) adj k pi s hk (okP cls) (okB bs) hi h h1
theorem wx {σ:Type} {τ:Type} (w:Ctl σ τ) (st':σ->St) (R':σ->List Res) {ro:Option Nat} {n:Nat} {C:Ctx} {Q:Exit->Act->World->Prop} {st:St} {R:List Res} {items:List It} (lv:List Nat) (fuel:Nat) (ds:List Bool) (cls:List PC) (adj:List Adj) (k:Nat) (pi:List Nat) (s:σ) (hk:C.h.length<=k) (bs:List PB) (h1:w = .next s) (hi:hdK (Ar fuel items ds)=Ex n C (λ s'=>w = .next s') st' R':=by kernel_rfl) (h:Cz Tryd.prog n lv fuel items st R ds (cls.map (·.1)) adj k pi (Kc (st' s))=some (st' s,R' s,cls.map (·.1),bs.map (·.1)):=by kernel_rfl):WI ro Tryd.prog n C Q items st R:=Tr mixed lv fuel ds (cls.map (·.1)) adj k pi s hk (okP cls) (okB bs) hi h h1
theorem wc {ro:Option Nat} {n:Nat} {C:Ctx} {Q:Exit->Act->World->Prop} {st:St} {R:List Res} {items:List It} {σ τ:Type} (w:Ctl σ τ) (st':σ->St) (R':σ->List Res) (h:WI ro Tryd.prog n C Q (.c (hdC items) :: .k (Ex n C (λ s=>w = .next s) st' R')::tlI items) st R) (hK:∀ s,w = .next s->WI ro Tryd.prog n C Q (tlI items) (st' s) (R' s)) (hi:isC items=true:=by kernel_rfl):WI ro Tryd.prog n C Q items st R:=Xs hi _ st' R' h hK
theorem Bl {α β γ:Type} {o:Option α} {f:α->Option β} {g:α->β->Option γ} {r:γ} (h:(o.bind λ a=>(f a).bind λ b=>g a b)=some r):∃ a,o=some a/\∃ b,f a=some b/\g a b=some r:=by
 obtain⟨a,h1,h⟩:=Al h
 obtain⟨b,h2,h⟩:=Al h
 exact⟨a,h1,b,h2,h⟩
theorem G2 {α β γ δ:Type} {o:Option α} {f:α->Option β} {g:α->β->Option γ} {k:α->β->γ->Option δ} {r:δ} (h:(o.bind λ a=>(f a).bind λ b=>(g a b).bind λ c=>k a b c)=some r):∃ a,o=some a/\∃ b,f a=some b/\∃ c,g a b=some c/\k a b c=some r:=by
 obtain⟨a,h1,h⟩:=Al h
 obtain⟨b,h2,c,h3,h⟩:=Bl h
 exact⟨a,h1,b,h2,c,h3,h⟩
theorem Ln {α β γ δ ε:Type} {o:Option α} {f:α->Option β} {g:α->β->Option γ} {k:α->β->γ->Option δ} {l:α->β->γ->δ->Option ε} {r:ε} (h:(o.bind λ a=>(f a).bind λ b=>(g a b).bind λ c=>(k a b c).bind λ d=>l a b c d)=some r):∃ a,o=some a/\∃ b,f a=some b/\∃ c,g a b=some c/\∃ d,k a b c=some d/\l a b c d=some r:=by
 obtain⟨a,h1,h⟩:=Al h
 obtain⟨b,h2,c,h3,d,h4,h⟩:=G2 h
 exact⟨a,h1,b,h2,c,h3,d,h4,h⟩
theorem wl {ro:Option Nat} {n:Nat} {C:Ctx} {Q:Exit->Act->World->Prop} {st:St} {R:List Res} {α σ τ:Type} {items:List It} {f:Nat->α->σ->Option (Ctl σ τ)} (stF:Nat->σ->St) (RF:Nat->σ->List Res) {r:Ctl σ τ} {xs:List α} {s:σ} (hm:Bj f xs 0 s=some r) (hnil:∀ s,r = .next s->WI ro Tryd.prog n C Q (.c (lpC items) :: .k (λ _ _=>False)::tlI items) (stF xs.length s) (RF xs.length s)) (hcons:∀ i x s k,i<xs.length->xs[i]? = some x->f i x s=some k->(∀ s',k = .brk s'->r = .next s')->(∀ v,k = .ret v->r = .ret v)->WI ro Tryd.prog n C Q (.c (lpC items) :: .k (Ex n C (λ s'=>k = .next s') (stF (i+1)) (RF (i+1)))::tlI items) (stF i s) (RF i s)) (hi:isL items=true:=by kernel_rfl) (h0:st=stF 0 s:=by rfl) (h1:R=RF 0 s:=by rfl):WI ro Tryd.prog n C Q items st R:=U6 hi f stF RF r xs s hm h0 h1 hnil hcons
theorem ww {ro:Option Nat} {n:Nat} {C:Ctx} {Q:Exit->Act->World->Prop} {st:St} {R:List Res} {σ τ:Type} {items:List It} {f:σ->Option (Ctl σ τ)} (stF:σ->St) (RF:σ->List Res) {r:Ctl σ τ} {fuel:Nat} {s:σ} (hm:whileN f fuel s=some r) (h:∀ s k,f s=some k->(∀ s',k = .brk s'->r = .next s')->(∀ v,k = .ret v->r = .ret v)->WI ro Tryd.prog n C Q (.c (lpC items) :: .k (Ex n C (λ s'=>k = .next s') stF RF)::tlI items) (stF s) (RF s)) (hi:isL items=true:=by kernel_rfl) (h0:st=stF s:=by rfl) (h1:R=RF s:=by rfl):WI ro Tryd.prog n C Q items st R:=U5 hi f stF RF r fuel s hm h0 h1 h
theorem cB {α:Type} {c:Bool} {x y z:α} (h:(bif c then x else y)=z):(c=true/\x=z)\/(c=false/\y=z):=by cases c;exact .inr ⟨rfl,h⟩;exact .inl ⟨rfl,h⟩
theorem wb {ro:Option Nat} {n:Nat} {C:Ctx} {Q:Exit->Act->World->Prop} {st:St} {R:List Res} {items:List It} (h:WI ro Tryd.prog n C Q (.c (Xk items) :: .b (Xj items)::tlI items) st R) (hi:isB items=true:=by kernel_rfl):WI ro Tryd.prog n C Q items st R:=Xt hi h
theorem co {f:FuncId} {fn:Func} {c:Code} {args:List AV} {res:AV} {R R2:List Res} (n:Nat) (hf:Tryd.prog.funcs[f]? = some fn) (h:∀ C:Ctx,C.h.length<=R.length->WI none Tryd.prog n C.z (Gn Tryd.prog fn C.z res R2) [.c c] (Lp 0 args) R) (hb:fn.body=some c:=by rfl) (hn:fn.ntmps=n:=by rfl) (hl:Nat.ble args.length n=true:=by rfl):CallOk Tryd.prog f args R res R2:=Tm n hf hb hn hl h
theorem wr {ro:Option Nat} {n:Nat} {C:Ctx} {st:St} {R:List Res} {fn:Func} {res:AV} {R2:List Res} {items:List It} (lv:List Nat) (fuel:Nat) (ds:List Bool) (cls:List PC) (adj:List Adj) (k:Nat) (pi:List Nat) (hk:C.h.length<=k) (bs:List PB) (h:Ko Tryd.prog n lv fuel items st R ds (cls.map (·.1)) adj fn.results.toList k pi=some (res,R2,cls.map (·.1),bs.map (·.1)):=by kernel_rfl):WI ro Tryd.prog n C.z (Gn Tryd.prog fn C.z res R2) items st R:=Xq mixed lv fuel ds (cls.map (·.1)) adj _ k pi rfl hk (okP cls) (okB bs) h
theorem wf {ro:Option Nat} {n:Nat} {C:Ctx} {st:St} {R:List Res} {fn:Func} {res:AV} {R2:List Res} {items:List It} (lv:List Nat) (fuel:Nat) (ds:List Bool) (cls:List PC) (adj:List Adj) (k:Nat) (pi:List Nat) (hk:C.h.length<=k) (bs:List PB) (hn:Uh (Ar fuel items ds)=true:=by kernel_rfl) (h:Kp Tryd.prog n lv fuel items st R ds (cls.map (·.1)) adj fn.results.toList k pi=some (res,R2,cls.map (·.1),bs.map (·.1)):=by kernel_rfl):WI ro Tryd.prog n C.z (Gn Tryd.prog fn C.z res R2) items st R:=Wj mixed lv fuel ds (cls.map (·.1)) adj _ k pi rfl hk (okP cls) (okB bs) hn h
theorem en {f : FuncId} {fn : Func} (hf : Tryd.prog.funcs[f]? = some fn) (hb : fn.body.isNone = false := by kernel_rfl) (hn : (fn.name == "runtime.NumGoroutine") = false := by kernel_rfl) : Cy Tryd.prog f := Go.SL.Ux hf hb hn
abbrev ln {α:Type} (l:List α):Int:=(l.length:Int)
abbrev dI (x:Int):AV:=.d (I x)
abbrev dB (x:Bool):AV:=.d (Bo x)
abbrev dO (a b:Nat):AV:=.d (.o a b)
abbrev dS (a:Nat):AV:=.d (.os a)
theorem k38  (r:(List Ao)) (h:F38  = r):CO 38 [] [] (.d (DS q82 r)) []:=by
 unfold F38 at h
 refine co 10 Tryd.func38 λ C hC=>?_
 subst h
 exact wr [0] 25 [] [] [] 0 [] hC []
theorem e38:EN 38:=en Tryd.func38
def Ob:List Nat:=[0,1,4,6,7,8,9,10,21]
def Nr (x0:Int) (x1:List Int) (n0:Nat) (z0:Unit):St:=[(0,dI x0),(4,dB false),(7,.d (DS pI x1)),(8,dI (ln x1)),(9,dI (cnt 0 n0))]
def Ro  (n0:Nat) (z0:Unit):List Res:=[]
def Sl  (z0:Unit):St:=[(4,dB false)]
def Tt  (z0:Unit):List Res:=[]
theorem k43 (x0:Int) (x1:List Int) (r:Bool) (h:F43 x0 x1=some r):CO 43 [.d (I x0),.d (DS pI x1)] [] (.d (Bo r)) []:=by
 unfold F43 at h
 refine co 23 Tryd.func43 λ C hC=>?_
 refine ws Ob 26 [] [pl pI x1] [] 0 [] (Nr x0 x1 0 ()) (Ro 0 ()) hC [] ?_
 obtain⟨w0,hm0,hret0,hnext0⟩:=A6 h
 clear h
 refine wc w0 (Sl) (Tt) ?_ λ z0 hs0=>?_
 ·refine wb ?_
  refine Fz 7 rfl λ hl0=>?_
  refine wl (Nr x0 x1) (Ro) hm0 (λ z0 hn0=>?_) λ n0 a0 z0 w0b hi0 hx0 h hb0 hr0=>?_
  ·clear hm0
   exact wx w0 (Sl) (Tt) Ob 26 [false] [] [] 0 [] _ hC [pq (Eo hl0)] hn0
  ·unfold I0 at h
   rcases cB h with⟨h1,h⟩ | ⟨h1,h⟩
   ·have hq:=hret0 _ (hr0 _ (sI h).symm)
    replace hq:=sI hq
    subst hq
    exact wr Ob 35 [true,true] [pt hx0 hl0] [] 0 [] hC [pq (Bv hi0 hl0),pq h1]
   ·exact wx w0b (Nr x0 x1 (n0+1)) (Ro (n0+1)) Ob 36 [true,false] [pt hx0 hl0] [] 0 [] _ hC [pq (Bv hi0 hl0),pq h1] (sI h).symm
 ·have h:=hnext0 _ hs0
  replace h:=sI h
  subst h
  exact wr Ob 23 [] [] [] 0 [] hC []
theorem e43:EN 43:=en Tryd.func43
theorem k33 (x0:Int) (r:ByteArray) (h:F33 x0=some r):CO 33 [.d (I x0)] [] (.d (.p (.v (.string r)))) []:=Yj x0 r h
theorem e33:EN 33:=en Tryd.func33
theorem k34 (x0:List ByteArray) (x1:ByteArray) (r:ByteArray) (h:F34 x0 x1=some r):CO 34 [.d (DS pS x0),.d (.p (.v (.string x1)))] [] (.d (.p (.v (.string r)))) []:=Yi x0 x1 r h
theorem e34:EN 34:=en Tryd.func34
def C8:List Nat:=[0,1,4,5,8,9,10,27,28,29]
def J8 (y1:Int) (z0:Sg1):St:=[(0,dO 0 0),(8,dI y1),(9,dI z0.1)]
def Mg (x0:Ab) (z0:Sg1):List Res:=[.box 79 [I x0.time,I x0.weather.Wind.From,I x0.weather.Wind.Speed,I x0.weather.Current.From,I x0.weather.Current.Speed,I x0.weather.Wave.From,I x0.weather.Wave.Speed,I x0.heading,I z0.2.1,I z0.2.2.1,I (g3_ z0),I (g4_ z0),I (g5_ z0),I (g6_ z0),I (g7_ z0),.os 6,.os 7,.os 8,I (g8_ z0),.os 9,.os 10],.non,.non,.non,.non,.non,v2_ (g9_ z0),v3_ (Dv z0),v4_ (Du z0),v0_ (Dt z0),v1_ (Jb z0)]
def Nz  (z0:Sg1):St:=[]
def Pe (x0:Ab) (z0:Sg1):List Res:=[.box 79 [I x0.time,I x0.weather.Wind.From,I x0.weather.Wind.Speed,I x0.weather.Current.From,I x0.weather.Current.Speed,I x0.weather.Wave.From,I x0.weather.Wave.Speed,I x0.heading,I z0.2.1,I z0.2.2.1,I (g3_ z0),I (g4_ z0),I (g5_ z0),I (g6_ z0),I (g7_ z0),.os 6,.os 7,.os 8,I (g8_ z0),.os 9,.os 10],.non,.non,.non,.non,.non,v2_ (g9_ z0),v3_ (Dv z0),v4_ (Du z0),v0_ (Dt z0),v1_ (Jb z0)]
def J7 (y1:Int) (z0:Sg1) (z1:Int×(List As)):St:=[(0,dO 0 0),(4,dO 11 0),(8,dI y1),(9,dI z0.1),(27,dI (ln (g9_ z0))),(28,dI z1.1)]
def Mf (x0:Ab) (z0:Sg1) (z1:Int×(List As)):List Res:=[.box 79 [I x0.time,I x0.weather.Wind.From,I x0.weather.Wind.Speed,I x0.weather.Current.From,I x0.weather.Current.Speed,I x0.weather.Wave.From,I x0.weather.Wave.Speed,I x0.heading,I z0.2.1,I z0.2.2.1,I (g3_ z0),I (g4_ z0),I (g5_ z0),I (g6_ z0),I (g7_ z0),.os 6,.os 7,.os 8,I (g8_ z0),.os 9,.os 10],.non,.non,.non,.non,.non,v2_ z1.2,v3_ (Dv z0),v4_ (Du z0),v0_ (Dt z0),v1_ (Jb z0),.box 50 [I x0.weather.Wind.From,I x0.weather.Wind.Speed,I x0.weather.Current.From,I x0.weather.Current.Speed,I x0.weather.Wave.From,I x0.weather.Wave.Speed,I x0.heading,.os 6,.os 7,.os 8,I (g8_ z0),.os 9]]
def Ny (y1:Int) (z0:Sg1) (z1:Int×(List As)):St:=[(0,dO 0 0),(4,dO 11 0),(8,dI y1),(9,dI z0.1)]
def Pb (x0:Ab) (z0:Sg1) (z1:Int×(List As)):List Res:=[.box 79 [I x0.time,I x0.weather.Wind.From,I x0.weather.Wind.Speed,I x0.weather.Current.From,I x0.weather.Current.Speed,I x0.weather.Wave.From,I x0.weather.Wave.Speed,I x0.heading,I z0.2.1,I z0.2.2.1,I (g3_ z0),I (g4_ z0),I (g5_ z0),I (g6_ z0),I (g7_ z0),.os 6,.os 7,.os 8,I (g8_ z0),.os 9,.os 10],.non,.non,.non,.non,.non,v2_ z1.2,v3_ (Dv z0),v4_ (Du z0),v0_ (Dt z0),v1_ (Jb z0),.box 50 [I x0.weather.Wind.From,I x0.weather.Wind.Speed,I x0.weather.Current.From,I x0.weather.Current.Speed,I x0.weather.Wave.From,I x0.weather.Wave.Speed,I x0.heading,.os 6,.os 7,.os 8,I (g8_ z0),.os 9]]
theorem X9 (x0:Ab) (x1:List Int) (r:Ab) (h:Rz x0 x1=some r):CO 56 [.d (.o 0 0),.d (DS pI x1)] [.box 79 [I x0.time,I x0.weather.Wind.From,I x0.weather.Wind.Speed,I x0.weather.Current.From,I x0.weather.Current.Speed,I x0.weather.Wave.From,I x0.weather.Wave.Speed,I x0.heading,I x0.next.Weather.Wind.From,I x0.next.Weather.Wind.Speed,I x0.next.Weather.Current.From,I x0.next.Weather.Current.Speed,I x0.next.Weather.Wave.From,I x0.next.Weather.Wave.Speed,I x0.next.Heading,.os 1,.os 2,.os 3,I x0.next.Request,.os 4,.os 5],v2_ x0.next.Sights,v3_ x0.next.Acts,v4_ x0.next.Faults,v0_ x0.next.Seen,v1_ x0.out] (.tup []) [.box 79 [I r.time,I r.weather.Wind.From,I r.weather.Wind.Speed,I r.weather.Current.From,I r.weather.Current.Speed,I r.weather.Wave.From,I r.weather.Wave.Speed,I r.heading,I r.next.Weather.Wind.From,I r.next.Weather.Wind.Speed,I r.next.Weather.Current.From,I r.next.Weather.Current.Speed,I r.next.Weather.Wave.From,I r.next.Weather.Wave.Speed,I r.next.Heading,.os 6,.os 7,.os 8,I r.next.Request,.os 9,.os 10],.non,.non,.non,.non,.non,v2_ r.next.Sights,v3_ r.next.Acts,v4_ r.next.Faults,v0_ r.next.Seen,v1_ r.out]:=by
 unfold Rz at h
 refine co 64 Tryd.func56 λ C hC=>?_
 obtain⟨y1,h2,h⟩:=Al h
 refine ws C8 23 [] [pr pI h2] [.mv 1,.mv 2,.mv 3,.mv 4,.mv 5] 6 Uj (J8 y1 (0,x0.next.Weather.Wind.From,x0.next.Weather.Wind.Speed,x0.next.Weather.Current.From,x0.next.Weather.Current.Speed,x0.next.Weather.Wave.From,x0.next.Weather.Wave.Speed,x0.next.Heading,x0.next.Request,x0.next.Sights,x0.next.Acts,x0.next.Faults,x0.next.Seen,x0.out)) (Mg x0 (0,x0.next.Weather.Wind.From,x0.next.Weather.Wind.Speed,x0.next.Weather.Current.From,x0.next.Weather.Current.Speed,x0.next.Weather.Wave.From,x0.next.Weather.Wave.Speed,x0.next.Heading,x0.next.Request,x0.next.Sights,x0.next.Acts,x0.next.Faults,x0.next.Seen,x0.out)) hC [] ?_
 obtain⟨w0,hm0,hret0,hnext0⟩:=A6 h
 clear h
 refine wc w0 (Nz) (Pe x0) ?_ λ z0 hs0=>?_
 ·refine wb ?_
  refine ww (J8 y1) (Mg x0) hm0 λ z0 w0b h hb0 hr0=>?_
  unfold Pj at h
  rcases cB h with⟨h3,h⟩ | ⟨h3,h⟩
  ·refine ws C8 35 [true] [pl q88 (g9_ z0)] [] 6 Ui (J7 y1 z0 (0,(g9_ z0))) (Mf x0 z0 (0,(g9_ z0))) hC [pq h3] ?_
   obtain⟨w1,hm1,hret1,hnext1⟩:=A6 h
   clear h
   refine wc w1 (Ny y1 z0) (Pb x0 z0) ?_ λ z1 hs1=>?_
   ·refine wb ?_
    refine ww (J7 y1 z0) (Mf x0 z0) hm1 λ z1 w1b h hb1 hr1=>?_
    unfold Pi at h
    rcases cB h with⟨h4,h⟩ | ⟨h4,h⟩
    ·obtain⟨y5,h6,y7,h8,h⟩:=Bl h
     exact wx w1b (J7 y1 z0) (Mf x0 z0) C8 33 [true] [pl q50 (Jb z0),pr q88 h6,pu q88 h6 h8] [] 6 Ui _ hC [pq h4] (sI h).symm
    ·exact wx w1 (Ny y1 z0) (Pb x0 z0) C8 26 [false] [] [] 6 Ui (z1.1,z1.2) hC [pq h4] (hb1 _ (sI h).symm)
   ·have h:=hnext1 _ hs1
    refine wn C8 0 [] [] [.frz 6] 6 [0,1,2,3,4,5,7,8,9,10,11] [0,4,8,9] hC [] ?_
    refine wn C8 0 [] [] [.frz 6] 6 [0,1,2,3,4,5,7,8,9,10] [0,4,8,9] hC [] ?_
    refine wn C8 0 [] [] [.frz 6] 6 [0,1,2,3,4,5,7,8,9] [0,4,8,9] hC [] ?_
    refine wn C8 0 [] [] [.frz 6] 6 [0,1,2,3,4,5,7,8] [0,4,8,9] hC [] ?_
    obtain⟨y9,h10,h⟩:=Al h
    exact wx w0b (J8 y1) (Mg x0) C8 24 [] [pa q50 12 h10] [.ownb 0 15 88 5,.ownb 0 16 90 3,.ownb 0 17 94 4,.ownb 0 19 3 1] 6 [0,1,2,3,4,5,9,10,11,12,8] _ hC [] (sI h).symm
  ·exact wx w0 (Nz) (Pe x0) C8 26 [false] [] [] 6 Uj (z0.1,z0.2.1,z0.2.2.1,(g3_ z0),(g4_ z0),(g5_ z0),(g6_ z0),(g7_ z0),(g8_ z0),(g9_ z0),(Dv z0),(Du z0),(Dt z0),(Jb z0)) hC [pq h3] (hb0 _ (sI h).symm)
 ·have h:=hnext0 _ hs0
  replace h:=sI h
  subst h
  exact wf C8 20 [] [] [] 6 Uj hC []
theorem Yl:EN 56:=en Tryd.func56
theorem X_ (x0:Ab) (x1:List Int) (r:Ab) (h:R5 x0 x1=some r):CO 55 [.d (.o 0 0),.d (DS pI x1)] [.box 79 [I x0.time,I x0.weather.Wind.From,I x0.weather.Wind.Speed,I x0.weather.Current.From,I x0.weather.Current.Speed,I x0.weather.Wave.From,I x0.weather.Wave.Speed,I x0.heading,I x0.next.Weather.Wind.From,I x0.next.Weather.Wind.Speed,I x0.next.Weather.Current.From,I x0.next.Weather.Current.Speed,I x0.next.Weather.Wave.From,I x0.next.Weather.Wave.Speed,I x0.next.Heading,.os 1,.os 2,.os 3,I x0.next.Request,.os 4,.os 5],v2_ x0.next.Sights,v3_ x0.next.Acts,v4_ x0.next.Faults,v0_ x0.next.Seen,v1_ x0.out] (.tup []) [.box 79 [I r.time,I r.weather.Wind.From,I r.weather.Wind.Speed,I r.weather.Current.From,I r.weather.Current.Speed,I r.weather.Wave.From,I r.weather.Wave.Speed,I r.heading,I r.next.Weather.Wind.From,I r.next.Weather.Wind.Speed,I r.next.Weather.Current.From,I r.next.Weather.Current.Speed,I r.next.Weather.Wave.From,I r.next.Weather.Wave.Speed,I r.next.Heading,.os 1,.os 2,.os 3,I r.next.Request,.os 6,.os 5],v2_ r.next.Sights,v3_ r.next.Acts,v4_ r.next.Faults,.non,v1_ r.out,v0_ r.next.Seen]:=by
 unfold R5 at h
 refine co 18 Tryd.func55 λ C hC=>?_
 obtain⟨y1,h2,y3,h4,h⟩:=Bl h
 replace h:=sI h
 subst h
 exact wf [0,1] 21 [] [pr pI h2,pa pI 1 h4] [] 6 n7_ hC []
theorem Ym:EN 55:=en Tryd.func55
theorem Ya (x0:Ab) (x1:List Int) (r:Ab) (h:R6 x0 x1=some r):CO 54 [.d (.o 0 0),.d (DS pI x1)] [.box 79 [I x0.time,I x0.weather.Wind.From,I x0.weather.Wind.Speed,I x0.weather.Current.From,I x0.weather.Current.Speed,I x0.weather.Wave.From,I x0.weather.Wave.Speed,I x0.heading,I x0.next.Weather.Wind.From,I x0.next.Weather.Wind.Speed,I x0.next.Weather.Current.From,I x0.next.Weather.Current.Speed,I x0.next.Weather.Wave.From,I x0.next.Weather.Wave.Speed,I x0.next.Heading,.os 1,.os 2,.os 3,I x0.next.Request,.os 4,.os 5],v2_ x0.next.Sights,v3_ x0.next.Acts,v4_ x0.next.Faults,v0_ x0.next.Seen,v1_ x0.out] (.tup []) [.box 79 [I r.time,I r.weather.Wind.From,I r.weather.Wind.Speed,I r.weather.Current.From,I r.weather.Current.Speed,I r.weather.Wave.From,I r.weather.Wave.Speed,I r.heading,I r.next.Weather.Wind.From,I r.next.Weather.Wind.Speed,I r.next.Weather.Current.From,I r.next.Weather.Current.Speed,I r.next.Weather.Wave.From,I r.next.Weather.Wave.Speed,I r.next.Heading,.os 1,.os 2,.os 3,I r.next.Request,.os 4,.os 5],v2_ r.next.Sights,v3_ r.next.Acts,v4_ r.next.Faults,v0_ r.next.Seen,v1_ r.out]:=by
 unfold R6 at h
 refine co 11 Tryd.func54 λ C hC=>?_
 obtain⟨y1,h2,h⟩:=Al h
 replace h:=sI h
 subst h
 exact wf [0,1] 21 [] [pr pI h2] [] 6 n6_ hC []
theorem Yn:EN 54:=en Tryd.func54
theorem Yb (x0:Ab) (x1:List Int) (r:Ab) (h:R7 x0 x1=some r):CO 53 [.d (.o 0 0),.d (DS pI x1)] [.box 79 [I x0.time,I x0.weather.Wind.From,I x0.weather.Wind.Speed,I x0.weather.Current.From,I x0.weather.Current.Speed,I x0.weather.Wave.From,I x0.weather.Wave.Speed,I x0.heading,I x0.next.Weather.Wind.From,I x0.next.Weather.Wind.Speed,I x0.next.Weather.Current.From,I x0.next.Weather.Current.Speed,I x0.next.Weather.Wave.From,I x0.next.Weather.Wave.Speed,I x0.next.Heading,.os 1,.os 2,.os 3,I x0.next.Request,.os 4,.os 5],v2_ x0.next.Sights,v3_ x0.next.Acts,v4_ x0.next.Faults,v0_ x0.next.Seen,v1_ x0.out] (.tup []) [.box 79 [I r.time,I r.weather.Wind.From,I r.weather.Wind.Speed,I r.weather.Current.From,I r.weather.Current.Speed,I r.weather.Wave.From,I r.weather.Wave.Speed,I r.heading,I r.next.Weather.Wind.From,I r.next.Weather.Wind.Speed,I r.next.Weather.Current.From,I r.next.Weather.Current.Speed,I r.next.Weather.Wave.From,I r.next.Weather.Wave.Speed,I r.next.Heading,.os 6,.os 2,.os 3,I r.next.Request,.os 4,.os 5],.non,v3_ r.next.Acts,v4_ r.next.Faults,v0_ r.next.Seen,v1_ r.out,v2_ r.next.Sights]:=by
 unfold R7 at h
 refine co 29 Tryd.func53 λ C hC=>?_
 obtain⟨y1,h2,y3,h4,y5,h6,h⟩:=G2 h
 obtain⟨y7,h8,y9,h10,h⟩:=Bl h
 replace h:=sI h
 subst h
 exact wf [0,1] 21 [] [pr pI h2,pr pI h4,pr pI h6,pr pI h8,pa q88 5 h10] [] 6 n7_ hC []
theorem Yo:EN 53:=en Tryd.func53
theorem Yc (x0:Ab) (x1:List Int) (r:Ab) (h:R8 x0 x1=some r):CO 52 [.d (.o 0 0),.d (DS pI x1)] [.box 79 [I x0.time,I x0.weather.Wind.From,I x0.weather.Wind.Speed,I x0.weather.Current.From,I x0.weather.Current.Speed,I x0.weather.Wave.From,I x0.weather.Wave.Speed,I x0.heading,I x0.next.Weather.Wind.From,I x0.next.Weather.Wind.Speed,I x0.next.Weather.Current.From,I x0.next.Weather.Current.Speed,I x0.next.Weather.Wave.From,I x0.next.Weather.Wave.Speed,I x0.next.Heading,.os 1,.os 2,.os 3,I x0.next.Request,.os 4,.os 5],v2_ x0.next.Sights,v3_ x0.next.Acts,v4_ x0.next.Faults,v0_ x0.next.Seen,v1_ x0.out] (.tup []) [.box 79 [I r.time,I r.weather.Wind.From,I r.weather.Wind.Speed,I r.weather.Current.From,I r.weather.Current.Speed,I r.weather.Wave.From,I r.weather.Wave.Speed,I r.heading,I r.next.Weather.Wind.From,I r.next.Weather.Wind.Speed,I r.next.Weather.Current.From,I r.next.Weather.Current.Speed,I r.next.Weather.Wave.From,I r.next.Weather.Wave.Speed,I r.next.Heading,.os 1,.os 2,.os 3,I r.next.Request,.os 4,.os 5],v2_ r.next.Sights,v3_ r.next.Acts,v4_ r.next.Faults,v0_ r.next.Seen,v1_ r.out]:=by
 unfold R8 at h
 refine co 35 Tryd.func52 λ C hC=>?_
 obtain⟨y1,h2,y3,h4,y5,h6,y7,h8,h⟩:=Ln h
 obtain⟨y9,h10,y11,h12,y13,h14,h⟩:=G2 h
 replace h:=sI h
 subst h
 exact wf [0,1] 23 [] [pr pI h2,pr pI h4,pr pI h6,pr pI h8,pr pI h10,pr pI h12,pr pI h14] [] 6 n6_ hC []
theorem Yp:EN 52:=en Tryd.func52
theorem Vj (x0:Ab) (x1:Int) (x2:List Int) (r:Ab) (h:Nk x0 x1 x2=some r):CO 50 [.d (.o 0 0),.d (I x1),.d (DS pI x2)] [.box 79 [I x0.time,I x0.weather.Wind.From,I x0.weather.Wind.Speed,I x0.weather.Current.From,I x0.weather.Current.Speed,I x0.weather.Wave.From,I x0.weather.Wave.Speed,I x0.heading,I x0.next.Weather.Wind.From,I x0.next.Weather.Wind.Speed,I x0.next.Weather.Current.From,I x0.next.Weather.Current.Speed,I x0.next.Weather.Wave.From,I x0.next.Weather.Wave.Speed,I x0.next.Heading,.os 1,.os 2,.os 3,I x0.next.Request,.os 4,.os 5],v2_ x0.next.Sights,v3_ x0.next.Acts,v4_ x0.next.Faults,v0_ x0.next.Seen,v1_ x0.out] (.tup []) [.box 79 [I r.time,I r.weather.Wind.From,I r.weather.Wind.Speed,I r.weather.Current.From,I r.weather.Current.Speed,I r.weather.Wave.From,I r.weather.Wave.Speed,I r.heading,I r.next.Weather.Wind.From,I r.next.Weather.Wind.Speed,I r.next.Weather.Current.From,I r.next.Weather.Current.Speed,I r.next.Weather.Wave.From,I r.next.Weather.Wave.Speed,I r.next.Heading,.os 1,.os 2,.os 6,I r.next.Request,.os 4,.os 5],v2_ r.next.Sights,v3_ r.next.Acts,.non,v0_ r.next.Seen,v1_ r.out,v4_ r.next.Faults]:=by
 unfold Nk at h
 refine co 26 Tryd.func50 λ C hC=>?_
 obtain⟨y1,h2,y3,h4,y5,h6,h⟩:=G2 h
 replace h:=sI h
 subst h
 exact wf n3_ 21 [] [pr pI h2,pr pI h4,pa q94 4 h6] [] 6 n7_ hC []
theorem Vl:EN 50:=en Tryd.func50
theorem Yf (x0:Ab) (x1:List Int) (r:Ab) (h:Sa x0 x1=some r):CO 48 [.d (.o 0 0),.d (DS pI x1)] [.box 79 [I x0.time,I x0.weather.Wind.From,I x0.weather.Wind.Speed,I x0.weather.Current.From,I x0.weather.Current.Speed,I x0.weather.Wave.From,I x0.weather.Wave.Speed,I x0.heading,I x0.next.Weather.Wind.From,I x0.next.Weather.Wind.Speed,I x0.next.Weather.Current.From,I x0.next.Weather.Current.Speed,I x0.next.Weather.Wave.From,I x0.next.Weather.Wave.Speed,I x0.next.Heading,.os 1,.os 2,.os 3,I x0.next.Request,.os 4,.os 5],v2_ x0.next.Sights,v3_ x0.next.Acts,v4_ x0.next.Faults,v0_ x0.next.Seen,v1_ x0.out] (.tup []) [.box 79 [I r.time,I r.weather.Wind.From,I r.weather.Wind.Speed,I r.weather.Current.From,I r.weather.Current.Speed,I r.weather.Wave.From,I r.weather.Wave.Speed,I r.heading,I r.next.Weather.Wind.From,I r.next.Weather.Wind.Speed,I r.next.Weather.Current.From,I r.next.Weather.Current.Speed,I r.next.Weather.Wave.From,I r.next.Weather.Wave.Speed,I r.next.Heading,.os 1,.os 6,.os 3,I r.next.Request,.os 4,.os 5],v2_ r.next.Sights,.non,v4_ r.next.Faults,v0_ r.next.Seen,v1_ r.out,v3_ r.next.Acts]:=by
 unfold Sa at h
 refine co 25 Tryd.func48 λ C hC=>?_
 obtain⟨y1,h2,y3,h4,y5,h6,y7,h8,h⟩:=Ln h
 replace h:=sI h
 subst h
 exact wf [0,1] 21 [] [pr pI h2,pr pI h4,pr pI h6,pa q90 3 h8] [] 6 n7_ hC []
theorem Ys:EN 48:=en Tryd.func48
theorem k7 (x0:List Int) (r:Ad) (h:F7 x0=some r):CO 7 [.d (DS pI x0)] [] (.d (.o 0 0)) [.box 53 (d53 r)]:=by
 unfold F7 at h
 refine co 10 Tryd.func7 λ C hC=>?_
 obtain⟨y2,h1,h⟩:=Al h
 replace h:=sI h
 subst h
 exact wr [0,2] 25 [] [pl pI x0,⟨.cut (x0.map pI) 1 0 (min (ln x0) 600) (y2.map pI),V5 pI 1 (λ _=>rfl) h1⟩] [] 0 [0] hC []
theorem e7:EN 7:=en Tryd.func7
theorem k24 (x0:Int) (x1:Int) (r:Int) (h:F24 x0 x1=some r):CO 24 [.d (I x0),.d (I x1)] [] (.d (I r)) []:=by
 unfold F24 at h
 refine co 14 Tryd.func24 λ C hC=>?_
 rcases cB h with⟨h1,h⟩ | ⟨h1,h⟩
 ·replace h:=sI h
  subst h
  exact wr [0,1,4,6] 29 [true] [] [] 0 [] hC [pq h1]
 ·obtain⟨u3,h2,u5,h4,h⟩:=Bl h
  replace h:=sI h
  subst h
  exact wr [0,1,4,6] 30 [false] [⟨.nz x1,Kz h2⟩,⟨.nz x1,Kz h4⟩] [] 0 [] hC [pq h1]
theorem e24:EN 24:=en Tryd.func24
theorem W_ (x0:Int) (h1:Hp x0=true):CO 26 [.d (I x0)] [] (.tup [.agg [.p (.v (.string ByteArray.empty)),I 0,.p (.v .nilFunc)],.d (Bo false)]) []:=by
 refine co 20 Tryd.func26 λ C hC=>?_
 exact wr [0,2,3,4,13] 31 [true] [pc e38 (k38 _ rfl) [],pL_ [(decide (x0<1),false)] q82 F38] [] 0 [] hC [pq h1]
theorem Gd (x0:Int) (r:Ao) (h1:Hp x0=false) (h:getI F38 (w64 (x0-1))=some r):CO 26 [.d (I x0)] [] (.tup [.agg (d82 r),.d (Bo true)]) []:=by
 refine co 20 Tryd.func26 λ C hC=>?_
 exact wr [0,2,3,4,13] 32 [false] [pc e38 (k38 _ rfl) [],pL_ [(decide (x0<1),false)] q82 F38,pr q82 h] [] 0 [] hC [pq h1]
theorem e26:EN 26:=en Tryd.func26
theorem Yd (x0:Ab) (x1:List Int) (r:Ab) (h:R9 x0 x1=some r):CO 51 [.d (.o 0 0),.d (DS pI x1)] [.box 79 [I x0.time,I x0.weather.Wind.From,I x0.weather.Wind.Speed,I x0.weather.Current.From,I x0.weather.Current.Speed,I x0.weather.Wave.From,I x0.weather.Wave.Speed,I x0.heading,I x0.next.Weather.Wind.From,I x0.next.Weather.Wind.Speed,I x0.next.Weather.Current.From,I x0.next.Weather.Current.Speed,I x0.next.Weather.Wave.From,I x0.next.Weather.Wave.Speed,I x0.next.Heading,.os 1,.os 2,.os 3,I x0.next.Request,.os 4,.os 5],v2_ x0.next.Sights,v3_ x0.next.Acts,v4_ x0.next.Faults,v0_ x0.next.Seen,v1_ x0.out] (.tup []) [.box 79 [I r.time,I r.weather.Wind.From,I r.weather.Wind.Speed,I r.weather.Current.From,I r.weather.Current.Speed,I r.weather.Wave.From,I r.weather.Wave.Speed,I r.heading,I r.next.Weather.Wind.From,I r.next.Weather.Wind.Speed,I r.next.Weather.Current.From,I r.next.Weather.Current.Speed,I r.next.Weather.Wave.From,I r.next.Weather.Wave.Speed,I r.next.Heading,.os 1,.os 2,.os 6,I r.next.Request,.os 4,.os 5],v2_ r.next.Sights,v3_ r.next.Acts,.non,v0_ r.next.Seen,v1_ r.out,v4_ r.next.Faults]:=by
 unfold R9 at h
 refine co 7 Tryd.func51 λ C hC=>?_
 obtain⟨y1,h2,h⟩:=Al h
 replace h:=sI h
 subst h
 exact wf [0,1] 21 [] [pc Vl (Vj x0 2 x1 _ h2) n6_] [] 6 n7_ hC []
theorem Yq:EN 51:=en Tryd.func51
theorem Ye (x0:Ab) (x1:List Int) (r:Ab) (h:R_ x0 x1=some r):CO 49 [.d (.o 0 0),.d (DS pI x1)] [.box 79 [I x0.time,I x0.weather.Wind.From,I x0.weather.Wind.Speed,I x0.weather.Current.From,I x0.weather.Current.Speed,I x0.weather.Wave.From,I x0.weather.Wave.Speed,I x0.heading,I x0.next.Weather.Wind.From,I x0.next.Weather.Wind.Speed,I x0.next.Weather.Current.From,I x0.next.Weather.Current.Speed,I x0.next.Weather.Wave.From,I x0.next.Weather.Wave.Speed,I x0.next.Heading,.os 1,.os 2,.os 3,I x0.next.Request,.os 4,.os 5],v2_ x0.next.Sights,v3_ x0.next.Acts,v4_ x0.next.Faults,v0_ x0.next.Seen,v1_ x0.out] (.tup []) [.box 79 [I r.time,I r.weather.Wind.From,I r.weather.Wind.Speed,I r.weather.Current.From,I r.weather.Current.Speed,I r.weather.Wave.From,I r.weather.Wave.Speed,I r.heading,I r.next.Weather.Wind.From,I r.next.Weather.Wind.Speed,I r.next.Weather.Current.From,I r.next.Weather.Current.Speed,I r.next.Weather.Wave.From,I r.next.Weather.Wave.Speed,I r.next.Heading,.os 1,.os 2,.os 6,I r.next.Request,.os 4,.os 5],v2_ r.next.Sights,v3_ r.next.Acts,.non,v0_ r.next.Seen,v1_ r.out,v4_ r.next.Faults]:=by
 unfold R_ at h
 refine co 7 Tryd.func49 λ C hC=>?_
 obtain⟨y1,h2,h⟩:=Al h
 replace h:=sI h
 subst h
 exact wf [0,1] 21 [] [pc Vl (Vj x0 1 x1 _ h2) n6_] [] 6 n7_ hC []
theorem Yr:EN 49:=en Tryd.func49
def E4:List Nat:=[0,1,4,5,6,11,13,14,15,42,48,49,50,68]
def Nw (x0:List Aa) (x1:List Aa) (n0:Nat) (z0:Unit):St:=[(0,.d (DS q36 x0)),(1,.d (DS q36 x1)),(4,dB false),(13,dI (ln x0)),(14,dI (cnt 0 n0))]
def Rv  (n0:Nat) (z0:Unit):List Res:=[]
def Su  (z0:Unit):St:=[(4,dB false)]
def T0  (z0:Unit):List Res:=[]
def Nv (x0:List Aa) (x1:List Aa) (n0:Nat) (a0:Aa) (z1:Int):St:=[(0,.d (DS q36 x0)),(1,.d (DS q36 x1)),(4,dB false),(5,dI (cnt 0 n0)),(13,dI (ln x0)),(14,dI (cnt 0 n0)),(48,dI (ln a0.Numbers)),(49,dI z1)]
def Ru  (z1:Int):List Res:=[]
def Ss (x0:List Aa) (x1:List Aa) (n0:Nat) (z1:Int):St:=[(0,.d (DS q36 x0)),(1,.d (DS q36 x1)),(4,dB false),(13,dI (ln x0)),(14,dI (cnt 0 n0))]
def Tz  (z1:Int):List Res:=[]
theorem k11 (x0 : List Aa) (x1 : List Aa) (r : Bool) (h : F11 x0 x1 = some r) : CO 11 [.d (DS q36 x0), .d (DS q36 x1)] [] (.d (Bo r)) [] := by
 unfold F11 at h
 refine co 71 Tryd.func11 λ C hC=>?_
 rcases cB h with⟨h1,h⟩ | ⟨h1,h⟩
 ·replace h:=sI h
  subst h
  exact wr E4 29 [true] [pl q36 x0,pl q36 x1] [] 0 [] hC [pq h1]
 ·refine ws E4 31 [false] [pl q36 x0,pl q36 x1,pl q36 x0] [] 0 [] (Nw x0 x1 0 ()) (Rv 0 ()) hC [pq h1] ?_
  obtain⟨w0,hm0,hret0,hnext0⟩:=A6 h
  clear h
  refine wc w0 (Su) (T0) ?_ λ z0 hs0=>?_
  ·refine wb ?_
   refine Fz 0 rfl λ hl0=>?_
   refine wl (Nw x0 x1) (Rv) hm0 (λ z0 hn0=>?_) λ n0 a0 z0 w0b hi0 hx0 h hb0 hr0=>?_
   ·clear hm0
    exact wx w0 (Su) (T0) E4 26 [false] [] [] 0 [] _ hC [pq (Eo hl0)] hn0
   ·unfold Pk at h
    obtain⟨y2,h3,y4,h5,h⟩:=Bl h
    refine wn E4 33 [true] [pt hx0 hl0,pr q36 h3,⟨.when [((a0.Kind != y2.Kind),false)] (.row (x0.map q36) (cnt 0 n0) (q36 a0)),λ hg=>(P8 hx0 hl0)⟩,pL_ [((a0.Kind != y2.Kind),false)] pI a0.Numbers,pR q36 h5,pL_ [((a0.Kind != y2.Kind),false)] pI y4.Numbers] [] 0 [] [0,1,4,5,13,14,42] hC [pq (Bv hi0 hl0)] ?_
    rcases cB h with⟨h6,h⟩ | ⟨h6,h⟩
    ·have hq:=hret0 _ (hr0 _ (sI h).symm)
     replace hq:=sI hq
     subst hq
     exact wr E4 24 [true] [] [] 0 [] hC [pq h6]
    ·refine ws E4 25 [false] [pt hx0 hl0,pl pI a0.Numbers] [] 0 [] (Nv x0 x1 n0 a0 0) (Ru 0) hC [pq h6] ?_
     obtain⟨w1,hm1,hret1,hnext1⟩:=A6 h
     clear h
     refine wc w1 (Ss x0 x1 n0) (Tz) ?_ λ z1 hs1=>?_
     ·refine wb ?_
      refine ww (Nv x0 x1 n0 a0) (Ru) hm1 λ z1 w1b h hb1 hr1=>?_
      unfold I2 at h
      rcases cB h with⟨h7,h⟩ | ⟨h7,h⟩
      ·obtain⟨y8,h9,y10,h11,y12,h13,h⟩:=G2 h
       refine wn E4 32 [true] [pt hx0 hl0,pr pI h9,pr q36 h11,pr pI h13] [] 0 [] [0,1,4,5,13,14,48,49,68] hC [pq h7] ?_
       rcases cB h with⟨h14,h⟩ | ⟨h14,h⟩
       ·have hq:=hret1 _ (hr1 _ (sI h).symm)
        replace hq:=hret0 _ (hr0 _ (sI hq).symm)
        replace hq:=sI hq
        subst hq
        exact wr E4 24 [true] [] [] 0 [] hC [pq h14]
       ·exact wx w1b (Nv x0 x1 n0 a0) (Ru) E4 25 [false] [] [] 0 [] _ hC [pq h14] (sI h).symm
      ·exact wx w1 (Ss x0 x1 n0) (Tz) E4 26 [false] [] [] 0 [] z1 hC [pq h7] (hb1 _ (sI h).symm)
     ·have h:=hnext1 _ hs1
      exact wx w0b (Nw x0 x1 (n0+1)) (Rv (n0+1)) E4 23 [] [] [] 0 [] _ hC [] (sI h).symm
  ·have h:=hnext0 _ hs0
   replace h:=sI h
   subst h
   exact wr E4 23 [] [] [] 0 [] hC []
theorem e11:EN 11:=en Tryd.func11
theorem k31 (x0:Aa) (r:Bool) (h:F31 x0=some r):CO 31 [.agg (d36 x0)] [] (.d (Bo r)) []:=by
 unfold F31 at h
 refine co 44 Tryd.func31 λ C hC=>?_
 rcases cB h with⟨h1,h⟩ | ⟨h1,h⟩
 ·obtain⟨y2,h3,h⟩:=Al h
  replace h:=sI h
  subst h
  exact wr [0,1,2,3,4,26] 31 [true] [pc e26 (W_ x0.Kind h1) [],pL_ [(true,false)] pI x0.Numbers,pw e43 (λ hg=>k43 1000000000 x0.Numbers _ (B4 h3 hg)) []] [] 0 [] hC [⟨(true,true),rfl⟩]
 ·obtain⟨y4,h5,y6,h7,h⟩:=Bl h
  refine wn [0,1,2,3,4,26] 28 [] [pc e26 (Gd x0.Kind y4 h1 h5) [],pL_ [(false,false)] pI x0.Numbers,pw e43 (λ hg=>k43 1000000000 x0.Numbers _ (B4 h7 hg)) []] [] 0 [0] [1,2,26] hC [] ?_
  rcases cB h with⟨h8,h⟩ | ⟨h8,h⟩
  ·replace h:=sI h
   subst h
   exact wr [0,1,2,3,4,26] 24 [true] [] [] 0 [] hC [pq h8]
  ·obtain⟨y9,h10,y11,h12,h⟩:=Bl h
   replace h:=sI h
   subst h
   exact wr [0,1,2,3,4,26] 25 [false] [pR pI h10,pR pI h12] [] 0 [] hC [pq h8]
theorem e31:EN 31:=en Tryd.func31
def Ij:List Nat:=[0,1,2,3,5,7,18,19,20,21]
def Nt (x0:Aa) (n0:Nat) (z0:(List ByteArray)):St:=[(2,.d (.p (.v (.string (⟨#[]⟩:ByteArray))))),(5,dS 0),(18,.d (DS pI x0.Numbers)),(19,dI (ln x0.Numbers)),(20,dI (cnt 0 n0))]
def Rs  (n0:Nat) (z0:(List ByteArray)):List Res:=[.sl 9 1 (z0.map pS)]
def Sp  (z0:(List ByteArray)):St:=[(2,.d (.p (.v (.string (⟨#[]⟩:ByteArray))))),(5,dS 0)]
def Tw  (z0:(List ByteArray)):List Res:=[.sl 9 1 (z0.map pS)]
def Ns (x0:Aa) (n1:Nat) (z1:(List ByteArray)):St:=[(2,.d (.p (.v (.string (⟨#[]⟩:ByteArray))))),(5,dS 0),(18,.d (DS pI x0.Numbers)),(19,dI (ln x0.Numbers)),(20,dI (cnt 0 n1))]
def Rr  (n1:Nat) (z1:(List ByteArray)):List Res:=[.sl 9 1 (z1.map pS)]
def Sn  (z1:(List ByteArray)):St:=[(2,.d (.p (.v (.string (⟨#[]⟩:ByteArray))))),(5,dS 0)]
def Tv  (z1:(List ByteArray)):List Res:=[.sl 9 1 (z1.map pS)]
theorem k18 (x0:Aa) (r:ByteArray) (h:F18 x0=some r):CO 18 [.agg (d36 x0)] [] (.d (.p (.v (.string r)))) []:=by
 unfold F18 at h
 refine co 33 Tryd.func18 λ C hC=>?_
 rcases cB h with⟨h1,h⟩ | ⟨h1,h⟩
 ·refine ws Ij 30 [] [pc e26 (W_ x0.Kind h1) [],⟨.own,trivial⟩,pl pI x0.Numbers] [] 0 [2] (Nt x0 0 [ByteArray.empty]) (Rs 0 [ByteArray.empty]) hC [] ?_
  obtain⟨w0,hm0,hret0,hnext0⟩:=A6 h
  clear h
  refine wc w0 (Sp) (Tw) ?_ λ z0 hs0=>?_
  ·refine wb ?_
   refine Fz 18 rfl λ hl0=>?_
   refine wl (Nt x0) (Rs) hm0 (λ z0 hn0=>?_) λ n0 a0 z0 w0b hi0 hx0 h hb0 hr0=>?_
   ·clear hm0
    exact wx w0 (Sp) (Tw) Ij 26 [false] [] [] 0 [0] _ hC [pq (Eo hl0)] hn0
   ·unfold T3 at h
    obtain⟨y2,h3,y4,h5,h⟩:=Bl h
    exact wx w0b (Nt x0 (n0+1)) (Rs (n0+1)) Ij 33 [true] [pt hx0 hl0,pc e33 (k33 a0 _ h3) [],pa pS 1 h5] [] 0 [1] _ hC [pq (Bv hi0 hl0)] (sI h).symm
  ·have h:=hnext0 _ hs0
   obtain⟨y6,h7,u9,h8,h⟩:=Bl h
   replace h:=sI h
   subst h
   exact wr Ij 23 [] [pb e34 (k34 z0 (⟨#[32]⟩:ByteArray) _ h7),⟨.nz (Ho y6 (⟨#[10]⟩:ByteArray)),Kz h8⟩] [] 0 [] hC []
 ·obtain⟨y10,h11,h⟩:=Al h
  refine ws Ij 30 [] [pc e26 (Gd x0.Kind y10 h1 h11) [],⟨.own,trivial⟩,pl pI x0.Numbers] [] 0 [2] (Ns x0 0 [y10.word]) (Rr 0 [y10.word]) hC [] ?_
  obtain⟨w1,hm1,hret1,hnext1⟩:=A6 h
  clear h
  refine wc w1 (Sn) (Tv) ?_ λ z1 hs1=>?_
  ·refine wb ?_
   refine Fz 18 rfl λ hl1=>?_
   refine wl (Ns x0) (Rr) hm1 (λ z1 hn1=>?_) λ n1 a1 z1 w1b hi1 hx1 h hb1 hr1=>?_
   ·clear hm1
    exact wx w1 (Sn) (Tv) Ij 26 [false] [] [] 0 [0] _ hC [pq (Eo hl1)] hn1
   ·unfold I1 at h
    obtain⟨y12,h13,y14,h15,h⟩:=Bl h
    exact wx w1b (Ns x0 (n1+1)) (Rr (n1+1)) Ij 33 [true] [pt hx1 hl1,pc e33 (k33 a1 _ h13) [],pa pS 1 h15] [] 0 [1] _ hC [pq (Bv hi1 hl1)] (sI h).symm
  ·have h:=hnext1 _ hs1
   obtain⟨y16,h17,u19,h18,h⟩:=Bl h
   replace h:=sI h
   subst h
   exact wr Ij 23 [] [pb e34 (k34 z1 (⟨#[32]⟩:ByteArray) _ h17),⟨.nz (Ho y16 (⟨#[10]⟩:ByteArray)),Kz h18⟩] [] 0 [] hC []
theorem k12 (x0:Ad) (x1:Int) (r:Int×Ad) (h:F12 x0 x1=some r):CO 12 [.d (.o 0 0),.d (I x1)] [.box 53 (d53 x0)] (.d (I r.1)) [.box 53 (d53 r.2)]:=by
 unfold F12 at h
 refine co 35 Tryd.func12 λ C hC=>?_
 rcases cB h with⟨h1,h⟩ | ⟨h1,h⟩
 ·replace h:=sI h
  subst h
  exact wr [0,1,4,14] 29 [true] [pl pI x0.L] [] 1 [0] hC [pq h1]
 ·obtain⟨y2,h3,y4,h5,h⟩:=Bl h
  replace h:=sI h
  subst h
  exact wr [0,1,4,14] 32 [false] [pl pI x0.L,pr pI h3,pc e24 (k24 y2 x1 _ h5) []] [] 1 [0] hC [pq h1]
theorem e12:EN 12:=en Tryd.func12
theorem k10 (x0:ByteArray) (r:List Aa×Int×Int) (h:F10 x0=some r):CO 10 [.d (.p (.v (.string x0)))] [] (.tup [.d (DS q36 r.1),.d (I r.2.1),.d (I r.2.2)]) []:=W7 F31 F18 k31 k18 x0 r h
theorem e10:EN 10:=en Tryd.func10
def Oc:List Nat:=[0,2,3,5,6,7,8,9,18]
def Kt (x0:List Aa) (n0:Nat) (z0:Int):St:=[(2,dI 0),(3,dI z0),(6,.d (DS q36 x0)),(7,dI (ln x0)),(8,dI (cnt 0 n0))]
def Nj  (n0:Nat) (z0:Int):List Res:=[]
def Sm  (z0:Int):St:=[(2,dI 0),(3,dI z0)]
def Tu  (z0:Int):List Res:=[]
theorem k25 (x0:List Aa) (r:Int) (h:F25 x0=some r):CO 25 [.d (DS q36 x0)] [] (.d (I r)) []:=by
 unfold F25 at h
 refine co 27 Tryd.func25 λ C hC=>?_
 refine ws Oc 28 [] [pl q36 x0] [] 0 [] (Kt x0 0 0) (Nj 0 0) hC [] ?_
 obtain⟨w0,hm0,hret0,hnext0⟩:=A6 h
 clear h
 refine wc w0 (Sm) (Tu) ?_ λ z0 hs0=>?_
 ·refine wb ?_
  refine Fz 6 rfl λ hl0=>?_
  refine wl (Kt x0) (Nj) hm0 (λ z0 hn0=>?_) λ n0 a0 z0 w0b hi0 hx0 h hb0 hr0=>?_
  ·clear hm0
   exact wx w0 (Sm) (Tu) Oc 26 [false] [] [] 0 [] _ hC [pq (Eo hl0)] hn0
  ·unfold T2 at h
   obtain⟨y1,h2,h⟩:=Al h
   rcases cB h with⟨h3,h⟩ | ⟨h3,h⟩
   ·obtain⟨y4,h5,h⟩:=Al h
    exact wx w0b (Kt x0 (n0+1)) (Nj (n0+1)) Oc 36 [true,true] [pt hx0 hl0,pw e31 (λ hg=>k31 a0 _ (B4 h2 hg)) [],pr pI h5] [] 0 [] _ hC [pq (Bv hi0 hl0),pq h3] (sI h).symm
   ·exact wx w0b (Kt x0 (n0+1)) (Nj (n0+1)) Oc 36 [true,false] [pt hx0 hl0,pw e31 (λ hg=>k31 a0 _ (B4 h2 hg)) []] [] 0 [] _ hC [pq (Bv hi0 hl0),pq h3] (sI h).symm
 ·have h:=hnext0 _ hs0
  replace h:=sI h
  subst h
  exact wr Oc 23 [] [] [] 0 [] hC []
theorem e25:EN 25:=en Tryd.func25
theorem k30 (x0:Aa) (r:Bool) (h:F30 x0=some r):CO 30 [.agg (d36 x0)] [] (.d (Bo r)) []:=by
 unfold F30 at h
 refine co 6 Tryd.func30 λ C hC=>?_
 obtain⟨y1,h2,h⟩:=Al h
 replace h:=sI h
 subst h
 exact wr n3_ 25 [] [pc e31 (k31 x0 _ h2) []] [] 0 [] hC []
theorem e30:EN 30:=en Tryd.func30
theorem k27 (x0:Ad) (x1:Int) (x2:Int) (r:Int×Ad) (h:F27 x0 x1 x2=some r):CO 27 [.d (.o 0 0),.d (I x1),.d (I x2)] [.box 53 (d53 x0)] (.d (I r.1)) [.box 53 (d53 r.2)]:=by
 unfold F27 at h
 refine co 15 Tryd.func27 λ C hC=>?_
 obtain⟨y1,h2,h⟩:=Al h
 replace h:=sI h
 subst h
 exact wr [0,1,2,6] 25 [] [pc e12 (k12 x0 (w64 ((w64 (x2-x1))+1)) _ h2) [0]] [] 1 [0] hC []
theorem e27:EN 27:=en Tryd.func27
theorem k28 (x0:Ad) (x1:List Int) (r:Int×Ad) (h:F28 x0 x1=some r):CO 28 [.d (.o 0 0),.d (DS pI x1)] [.box 53 (d53 x0)] (.d (I r.1)) [.box 53 (d53 r.2)]:=by
 unfold F28 at h
 refine co 12 Tryd.func28 λ C hC=>?_
 obtain⟨y1,h2,y3,h4,h⟩:=Bl h
 replace h:=sI h
 subst h
 exact wr [0,1,4] 25 [] [pl pI x1,pc e12 (k12 x0 (ln x1) _ h2) [0],pr pI h4] [] 1 [0] hC []
theorem e28:EN 28:=en Tryd.func28
def Ii:List Nat:=[0,1,4,5,7,8,9,16]
def J9 (x0:List Aa) (n0:Nat) (z0:Unit):St:=[(0,.d (DS q36 x0)),(1,.d (.fn (.func 30) [] [])),(4,dI 0),(7,dI (ln x0)),(8,dI (cnt 0 n0))]
def Mh  (n0:Nat) (z0:Unit):List Res:=[]
def N0  (z0:Unit):St:=[(4,dI 0)]
def Pf  (z0:Unit):List Res:=[]
theorem Yg (x0:List Aa) (r:Int) (h:Nl x0=some r):CO 42 [.d (DS q36 x0),.d (.fn (.func 30) [] [])] [] (.d (I r)) []:=by
 unfold Nl at h
 refine co 19 Tryd.func42 λ C hC=>?_
 refine ws Ii 26 [] [pl q36 x0] [] 0 [] (J9 x0 0 ()) (Mh 0 ()) hC [] ?_
 obtain⟨w0,hm0,hret0,hnext0⟩:=A6 h
 clear h
 refine wc w0 (N0) (Pf) ?_ λ z0 hs0=>?_
 ·refine wb ?_
  refine Fz 0 rfl λ hl0=>?_
  refine wl (J9 x0) (Mh) hm0 (λ z0 hn0=>?_) λ n0 a0 z0 w0b hi0 hx0 h hb0 hr0=>?_
  ·clear hm0
   exact wx w0 (N0) (Pf) Ii 26 [false] [] [] 0 [] _ hC [pq (Eo hl0)] hn0
  ·unfold Km at h
   obtain⟨y1,h2,h⟩:=Al h
   rcases cB h with⟨h3,h⟩ | ⟨h3,h⟩
   ·have hq:=hret0 _ (hr0 _ (sI h).symm)
    replace hq:=sI hq
    subst hq
    exact wr Ii 35 [true,true] [pt hx0 hl0,pc e30 (k30 a0 _ h2) []] [] 0 [] hC [pq (Bv hi0 hl0),pq h3]
   ·exact wx w0b (J9 x0 (n0+1)) (Mh (n0+1)) Ii 36 [true,false] [pt hx0 hl0,pc e30 (k30 a0 _ h2) []] [] 0 [] _ hC [pq (Bv hi0 hl0),pq h3] (sI h).symm
 ·have h:=hnext0 _ hs0
  replace h:=sI h
  subst h
  exact wr Ii 23 [] [] [] 0 [] hC []
theorem Yt:EN 42:=en Tryd.func42
def Nu  (z0:Int×(List Int)×Int×(List Int)):St:=[(0,dO 0 0),(2,dO 1 0),(3,dO 2 0),(4,dI z0.1)]
def Rt (y1:Int×Ad) (z0:Int×(List Int)×Int×(List Int)):List Res:=[.box 53 [DS pI z0.2.1,I z0.2.2.1],.box 36 [I 0,.os 3],.box 36 [I y1.1,.os 4],v0_ ([]:List Int),v0_ (Q4 z0)]
def Sq  (z0:Int×(List Int)×Int×(List Int)):St:=[(0,dO 0 0),(2,dO 1 0),(3,dO 2 0)]
def Tx (y1:Int×Ad) (z0:Int×(List Int)×Int×(List Int)):List Res:=[.box 53 [DS pI z0.2.1,I z0.2.2.1],.box 36 [I 0,.os 3],.box 36 [I y1.1,.os 4],v0_ ([]:List Int),v0_ (Q4 z0)]
theorem k15 (x0:Ad) (r:Aa×Ad) (h:F15 x0=some r):CO 15 [.d (.o 0 0)] [.box 53 (d53 x0)] (.agg [I r.1.Kind,.os 1]) [.box 53 (d53 r.2),v0_ r.1.Numbers]:=by
 unfold F15 at h
 refine co 35 Tryd.func15 λ C hC=>?_
 obtain⟨y1,h2,y3,h4,h⟩:=Bl h
 refine ws [0,2,3,4,14,27] 28 [] [pc e27 (k27 x0 1 8 _ h2) [0],pr pI h4] [.ownb 1 1 3 1,.ownb 2 1 3 1] 1 n5_ (Nu (y3,y1.2.L,y1.2.At,([]:List Int))) (Rt y1 (y3,y1.2.L,y1.2.At,([]:List Int))) hC [] ?_
 obtain⟨w0,hm0,hret0,hnext0⟩:=A6 h
 clear h
 refine wc w0 (Sq) (Tx y1) ?_ λ z0 hs0=>?_
 ·refine wb ?_
  refine ww (Nu) (Rt y1) hm0 λ z0 w0b h hb0 hr0=>?_
  unfold Lq at h
  rcases cB h with⟨h5,h⟩ | ⟨h5,h⟩
  ·obtain⟨y6,h7,y8,h9,h⟩:=Bl h
   exact wx w0b (Nu) (Rt y1) [0,2,3,4,14,27] 31 [true] [pc e28 (k28 (⟨z0.2.1,z0.2.2.1⟩:Ad) [0,1,2,3,5,100,(-7),1000000000,(-1000000000)] _ h7) [0],pa pI 1 h9] [] 1 [0,1,2,3,5] _ hC [pq h5] (sI h).symm
  ·exact wx w0 (Sq) (Tx y1) [0,2,3,4,14,27] 26 [false] [] [] 1 n5_ (z0.1,z0.2.1,z0.2.2.1,(Q4 z0)) hC [pq h5] (hb0 _ (sI h).symm)
 ·have h:=hnext0 _ hs0
  rcases cB h with⟨h10,h⟩ | ⟨h10,h⟩
  ·obtain⟨y11,h12,y13,h14,y15,h16,h⟩:=G2 h
   replace h:=sI h
   subst h
   exact wr [0,2,3,4,14,27] 28 [true] [pc e28 (k28 (⟨z0.2.1,z0.2.2.1⟩:Ad) [1,2,3,20,60] _ h12) [0],pr pI h14,pu pI h14 h16] [] 1 [0,4] hC [pq h10]
  ·replace h:=sI h
   subst h
   exact wr [0,2,3,4,14,27] 28 [false] [] [] 1 [0,4] hC [pq h10]
theorem e15:EN 15:=en Tryd.func15
theorem Yh (x0:List Aa) (r:Bool) (h:Nm x0=some r):CO 29 [.d (DS q36 x0),.d (.fn (.func 30) [] [])] [] (.d (Bo r)) []:=by
 unfold Nm at h
 refine co 9 Tryd.func29 λ C hC=>?_
 obtain⟨y1,h2,h⟩:=Al h
 replace h:=sI h
 subst h
 exact wr [0,1,4] 25 [] [pc Yt (Yg x0 _ h2) []] [] 0 [] hC []
theorem Yu:EN 29:=en Tryd.func29
def Qm  (z0:Sg0):St:=[(0,dO 0 0),(4,.d (DS q36 [])),(5,dS 1),(6,dI z0.1)]
def U8  (z0:Sg0):List Res:=[.box 53 [DS pI z0.2.1,I z0.2.2.1],.sl 36 2 (z0.2.2.2.map q36)]
def Ve  (z0:Sg0):St:=[(4,.d (DS q36 [])),(5,dS 1)]
def Vo  (z0:Sg0):List Res:=[.box 53 [DS pI z0.2.1,I z0.2.2.1],.sl 36 2 (z0.2.2.2.map q36)]
theorem k8 (x0:Ad) (x1:Int) (r:(List Aa)×Ad) (h:F8 x0 x1=some r):CO 8 [.d (.o 0 0),.d (I x1)] [.box 53 (d53 x0)] (.d (.os 1)) [.box 53 (d53 r.2),.sl 36 2 (r.1.map q36)]:=by
 unfold F8 at h
 refine co 21 Tryd.func8 λ C hC=>?_
 obtain⟨y1,h2,h⟩:=Al h
 refine ws [0,1,4,5,6,12] 28 [] [pc e12 (k12 x0 (w64 (x1+1)) _ h2) [0]] [.own 5 36 2] 1 [0,1] (Qm (y1.1,y1.2.L,y1.2.At,([]:List Aa))) (U8 (y1.1,y1.2.L,y1.2.At,([]:List Aa))) hC [] ?_
 obtain⟨w0,hm0,hret0,hnext0⟩:=A6 h
 clear h
 refine wc w0 (Ve) (Vo) ?_ λ z0 hs0=>?_
 ·refine wb ?_
  refine ww (Qm) (U8) hm0 λ z0 w0b h hb0 hr0=>?_
  unfold Ry at h
  rcases cB h with⟨h3,h⟩ | ⟨h3,h⟩
  ·obtain⟨y6,h7,y8,h9,h⟩:=Bl h
   exact wx w0b (Qm) (U8) [0,1,4,5,6,12] 31 [true] [⟨.call 15 [dO 0 0] [.box 53 [DS pI z0.2.1,I z0.2.2.1]] (.agg (d36 y6.1)) [.box 53 (d53 y6.2),.non] [0],⟨e15,(CallOk.frzAll [1] (show CO 15 [dO 0 0] [.box 53 [DS pI z0.2.1,I z0.2.2.1]] (.agg [I y6.1.Kind,.os 1]) [.box 53 (d53 y6.2),v0_ y6.1.Numbers] from (k15 (⟨z0.2.1,z0.2.2.1⟩:Ad) _ h7)) (by kernel_rfl))⟩⟩,pa q36 2 h9] [] 1 [0,3] _ hC [pq h3] (sI h).symm
  ·exact wx w0 (Ve) (Vo) [0,1,4,5,6,12] 26 [false] [] [] 1 [0,1] (z0.1,z0.2.1,z0.2.2.1,(Q4 z0)) hC [pq h3] (hb0 _ (sI h).symm)
 ·have h:=hnext0 _ hs0
  replace h:=sI h
  subst h
  exact wr [0,1,4,5,6,12] 23 [] [] [] 1 [0,1] hC []
theorem e8:EN 8:=en Tryd.func8
theorem k16 (x0:List Aa) (r:Bool) (h:F16 x0=some r):CO 16 [.d (DS q36 x0)] [] (.d (Bo r)) []:=by
 unfold F16 at h
 refine co 5 Tryd.func16 λ C hC=>?_
 obtain⟨y1,h2,h⟩:=Al h
 replace h:=sI h
 subst h
 exact wr [0,2] 25 [] [pc Yu (Yh x0 _ h2) []] [] 0 [] hC []
theorem e16:EN 16:=en Tryd.func16
def E3:List Nat:=[0,1,4,5,6,8,9,18,19,22,32,33,34,35]
def Di (x0:List Aa) (n0:Nat) (z0:Sg2):St:=[(4,.d (DS q50 [])),(5,dI 0),(6,dO 0 0),(32,.d (DS q36 x0)),(33,dI (ln x0)),(34,dI (cnt 0 n0))]
def Es  (n0:Nat) (z0:Sg2):List Res:=[.box 79 [I z0.1,I z0.2.1,I z0.2.2.1,I (g3_ z0),I (g4_ z0),I (g5_ z0),I (g6_ z0),I (g7_ z0),I (g8_ z0),I (g9_ z0),I (Dv z0),I (Du z0),I (Dt z0),I (Gk z0),I (Gj z0),.os 1,.os 2,.os 3,I (Gi z0),.os 4,.os 5],v2_ (Gh z0),v3_ (Gg z0),v4_ (Gf z0),v0_ (Ge z0),v1_ (Ep z0)]
def Sr  (z0:Sg2):St:=[(4,.d (DS q50 [])),(5,dI 0),(6,dO 0 0)]
def Ty  (z0:Sg2):List Res:=[.box 79 [I z0.1,I z0.2.1,I z0.2.2.1,I (g3_ z0),I (g4_ z0),I (g5_ z0),I (g6_ z0),I (g7_ z0),I (g8_ z0),I (g9_ z0),I (Dv z0),I (Du z0),I (Dt z0),I (Gk z0),I (Gj z0),.os 1,.os 2,.os 3,I (Gi z0),.os 4,.os 5],v2_ (Gh z0),v3_ (Gg z0),v4_ (Gf z0),v0_ (Ge z0),v1_ (Ep z0)]
set_option maxHeartbeats 4000000 in
theorem k13 (x0 : List Aa) (x1 : Int) (r : (List Ah) × Int) (h : F13 x0 x1 = some r) : CO 13 [.d (DS q36 x0), .d (I x1)] [] (.tup [.d (.os 0), .d (I r.2)]) [v1_ r.1] := by
 unfold F13 at h
 refine co 55 Tryd.func13 λ C hC=>?_
 obtain⟨y1,h2,h⟩:=Al h
 rcases cB h with⟨h3,h⟩ | ⟨h3,h⟩
 ·cases h
 ·obtain ⟨y4, h5, h⟩ := Al h
  refine wn E3 32 [false] [pl q36 x0,pw e25 (λ hg=>k25 x0 _ (B4 h2 hg)) [],pc e16 (k16 x0 _ h5) []] [] 0 [] [0,1,4,5,19] hC [pq h3] ?_
  rcases cB h with⟨h6,h⟩ | ⟨h6,h⟩
  ·cases h
  ·rcases cB h with ⟨h7, h⟩ | ⟨h7, h⟩
   ·cases h
   ·refine ws E3 32 [false, false] [pl q36 x0] [.ownb 0 15 88 5, .ownb 0 16 90 3, .ownb 0 17 94 4, .ownb 0 19 3 1, .ownb 0 20 50 12] 0 n6_ (Di x0 0 (x1, 0, 0, 0, 0, 0, 0, 0, 0, 0, 0, 0, 0, 0, 0, 0, ([] : List As), ([] : List Cu), ([] : List Bw), ([] : List Int), ([] : List Ah))) (Es 0 (x1, 0, 0, 0, 0, 0, 0, 0, 0, 0, 0, 0, 0, 0, 0, 0, ([] : List As), ([] : List Cu), ([] : List Bw), ([] : List Int), ([] : List Ah))) hC [pq h6, pq h7] ?_
    obtain⟨w0,hm0,hret0,hnext0⟩:=A6 h
    clear h
    refine wc w0 (Sr) (Ty) ?_ λ z0 hs0=>?_
    ·refine wb ?_
     refine Fz 32 rfl λ hl0=>?_
     refine wl (Di x0) (Es) hm0 (λ z0 hn0=>?_) λ n0 a0 z0 w0b hi0 hx0 h hb0 hr0=>?_
     ·clear hm0
      exact wx w0 (Sr) (Ty) E3 26 [false] [] [] 0 n6_ _ hC [pq (Eo hl0)] hn0
     ·unfold T4 at h
      rcases cB h with⟨h8,h⟩ | ⟨h8,h⟩
      ·cases h
      ·obtain ⟨y9, h10, h⟩ := Al h
       rcases cB h with⟨h32,h⟩ | ⟨h32,h⟩
       ·obtain⟨y33,h34,h⟩:=Al h
        exact wx w0b (Di x0 (n0+1)) (Es (n0+1)) E3 35 [true] [pt hx0 hl0,pc e26 (Gd a0.Kind y9 h8 h10) [],⟨.fnv (.func (.func y9.say) #[] #[]) 48,Dy h32⟩,pc Ys (Yf (⟨z0.1,(⟨(⟨z0.2.1,z0.2.2.1⟩:Ac),(⟨(g3_ z0),(g4_ z0)⟩:Ac),(⟨(g5_ z0),(g6_ z0)⟩:Ac)⟩:Af),(g7_ z0),(⟨(⟨(⟨(g8_ z0),(g9_ z0)⟩:Ac),(⟨(Dv z0),(Du z0)⟩:Ac),(⟨(Dt z0),(Gk z0)⟩:Ac)⟩:Af),(Gj z0),(Gh z0),(Gg z0),(Gf z0),(Gi z0),(Ge z0)⟩:Ah),(Ep z0)⟩:Ab) a0.Numbers _ h34) n6_] [] 0 [0,1,8,3,4,5] _ hC [pq (Bv hi0 hl0)] (sI h).symm
       ·rcases cB h with ⟨h29, h⟩ | ⟨h29, h⟩
        ·obtain⟨y30,h31,h⟩:=Al h
         exact wx w0b (Di x0 (n0+1)) (Es (n0+1)) E3 35 [true] [pt hx0 hl0,pc e26 (Gd a0.Kind y9 h8 h10) [],⟨.fnv (.func (.func y9.say) #[] #[]) 49,Dy h29⟩,pc Yr (Ye (⟨z0.1,(⟨(⟨z0.2.1,z0.2.2.1⟩:Ac),(⟨(g3_ z0),(g4_ z0)⟩:Ac),(⟨(g5_ z0),(g6_ z0)⟩:Ac)⟩:Af),(g7_ z0),(⟨(⟨(⟨(g8_ z0),(g9_ z0)⟩:Ac),(⟨(Dv z0),(Du z0)⟩:Ac),(⟨(Dt z0),(Gk z0)⟩:Ac)⟩:Af),(Gj z0),(Gh z0),(Gg z0),(Gf z0),(Gi z0),(Ge z0)⟩:Ah),(Ep z0)⟩:Ab) a0.Numbers _ h31) n6_] [] 0 [0,1,2,8,4,5] _ hC [pq (Bv hi0 hl0)] (sI h).symm
        ·rcases cB h with⟨h26,h⟩ | ⟨h26,h⟩
         ·obtain⟨y27,h28,h⟩:=Al h
          exact wx w0b (Di x0 (n0+1)) (Es (n0+1)) E3 35 [true] [pt hx0 hl0,pc e26 (Gd a0.Kind y9 h8 h10) [],⟨.fnv (.func (.func y9.say) #[] #[]) 51,Dy h26⟩,pc Yq (Yd (⟨z0.1,(⟨(⟨z0.2.1,z0.2.2.1⟩:Ac),(⟨(g3_ z0),(g4_ z0)⟩:Ac),(⟨(g5_ z0),(g6_ z0)⟩:Ac)⟩:Af),(g7_ z0),(⟨(⟨(⟨(g8_ z0),(g9_ z0)⟩:Ac),(⟨(Dv z0),(Du z0)⟩:Ac),(⟨(Dt z0),(Gk z0)⟩:Ac)⟩:Af),(Gj z0),(Gh z0),(Gg z0),(Gf z0),(Gi z0),(Ge z0)⟩:Ah),(Ep z0)⟩:Ab) a0.Numbers _ h28) n6_] [] 0 [0,1,2,8,4,5] _ hC [pq (Bv hi0 hl0)] (sI h).symm
         ·rcases cB h with⟨h23,h⟩ | ⟨h23,h⟩
          ·obtain⟨y24,h25,h⟩:=Al h
           exact wx w0b (Di x0 (n0+1)) (Es (n0+1)) E3 35 [true] [pt hx0 hl0,pc e26 (Gd a0.Kind y9 h8 h10) [],⟨.fnv (.func (.func y9.say) #[] #[]) 52,Dy h23⟩,pc Yp (Yc (⟨z0.1,(⟨(⟨z0.2.1,z0.2.2.1⟩:Ac),(⟨(g3_ z0),(g4_ z0)⟩:Ac),(⟨(g5_ z0),(g6_ z0)⟩:Ac)⟩:Af),(g7_ z0),(⟨(⟨(⟨(g8_ z0),(g9_ z0)⟩:Ac),(⟨(Dv z0),(Du z0)⟩:Ac),(⟨(Dt z0),(Gk z0)⟩:Ac)⟩:Af),(Gj z0),(Gh z0),(Gg z0),(Gf z0),(Gi z0),(Ge z0)⟩:Ah),(Ep z0)⟩:Ab) a0.Numbers _ h25) n6_] [] 0 n6_ _ hC [pq (Bv hi0 hl0)] (sI h).symm
          ·rcases cB h with⟨h20,h⟩ | ⟨h20,h⟩
           ·obtain⟨y21,h22,h⟩:=Al h
            exact wx w0b (Di x0 (n0+1)) (Es (n0+1)) E3 35 [true] [pt hx0 hl0,pc e26 (Gd a0.Kind y9 h8 h10) [],⟨.fnv (.func (.func y9.say) #[] #[]) 53,Dy h20⟩,pc Yo (Yb (⟨z0.1,(⟨(⟨z0.2.1,z0.2.2.1⟩:Ac),(⟨(g3_ z0),(g4_ z0)⟩:Ac),(⟨(g5_ z0),(g6_ z0)⟩:Ac)⟩:Af),(g7_ z0),(⟨(⟨(⟨(g8_ z0),(g9_ z0)⟩:Ac),(⟨(Dv z0),(Du z0)⟩:Ac),(⟨(Dt z0),(Gk z0)⟩:Ac)⟩:Af),(Gj z0),(Gh z0),(Gg z0),(Gf z0),(Gi z0),(Ge z0)⟩:Ah),(Ep z0)⟩:Ab) a0.Numbers _ h22) n6_] [] 0 [0,8,2,3,4,5] _ hC [pq (Bv hi0 hl0)] (sI h).symm
           ·rcases cB h with⟨h17,h⟩ | ⟨h17,h⟩
            ·obtain⟨y18,h19,h⟩:=Al h
             exact wx w0b (Di x0 (n0+1)) (Es (n0+1)) E3 35 [true] [pt hx0 hl0,pc e26 (Gd a0.Kind y9 h8 h10) [],⟨.fnv (.func (.func y9.say) #[] #[]) 54,Dy h17⟩,pc Yn (Ya (⟨z0.1,(⟨(⟨z0.2.1,z0.2.2.1⟩:Ac),(⟨(g3_ z0),(g4_ z0)⟩:Ac),(⟨(g5_ z0),(g6_ z0)⟩:Ac)⟩:Af),(g7_ z0),(⟨(⟨(⟨(g8_ z0),(g9_ z0)⟩:Ac),(⟨(Dv z0),(Du z0)⟩:Ac),(⟨(Dt z0),(Gk z0)⟩:Ac)⟩:Af),(Gj z0),(Gh z0),(Gg z0),(Gf z0),(Gi z0),(Ge z0)⟩:Ah),(Ep z0)⟩:Ab) a0.Numbers _ h19) n6_] [] 0 n6_ _ hC [pq (Bv hi0 hl0)] (sI h).symm
            ·rcases cB h with⟨h14,h⟩ | ⟨h14,h⟩
             ·obtain⟨y15,h16,h⟩:=Al h
              exact wx w0b (Di x0 (n0+1)) (Es (n0+1)) E3 35 [true] [pt hx0 hl0,pc e26 (Gd a0.Kind y9 h8 h10) [],⟨.fnv (.func (.func y9.say) #[] #[]) 55,Dy h14⟩,pc Ym (X_ (⟨z0.1,(⟨(⟨z0.2.1,z0.2.2.1⟩:Ac),(⟨(g3_ z0),(g4_ z0)⟩:Ac),(⟨(g5_ z0),(g6_ z0)⟩:Ac)⟩:Af),(g7_ z0),(⟨(⟨(⟨(g8_ z0),(g9_ z0)⟩:Ac),(⟨(Dv z0),(Du z0)⟩:Ac),(⟨(Dt z0),(Gk z0)⟩:Ac)⟩:Af),(Gj z0),(Gh z0),(Gg z0),(Gf z0),(Gi z0),(Ge z0)⟩:Ah),(Ep z0)⟩:Ab) a0.Numbers _ h16) n6_] [] 0 [0,1,2,3,8,5] _ hC [pq (Bv hi0 hl0)] (sI h).symm
             ·rcases cB h with⟨h11,h⟩ | ⟨h11,h⟩
              ·obtain⟨y12,h13,h⟩:=Al h
               exact wx w0b (Di x0 (n0+1)) (Es (n0+1)) E3 35 [true] [pt hx0 hl0,pc e26 (Gd a0.Kind y9 h8 h10) [],⟨.fnv (.func (.func y9.say) #[] #[]) 56,Dy h11⟩,pc Yl (X9 (⟨z0.1,(⟨(⟨z0.2.1,z0.2.2.1⟩:Ac),(⟨(g3_ z0),(g4_ z0)⟩:Ac),(⟨(g5_ z0),(g6_ z0)⟩:Ac)⟩:Af),(g7_ z0),(⟨(⟨(⟨(g8_ z0),(g9_ z0)⟩:Ac),(⟨(Dv z0),(Du z0)⟩:Ac),(⟨(Dt z0),(Gk z0)⟩:Ac)⟩:Af),(Gj z0),(Gh z0),(Gg z0),(Gf z0),(Gi z0),(Ge z0)⟩:Ah),(Ep z0)⟩:Ab) a0.Numbers _ h13) n6_] [] 0 [0,8,9,10,11,12] _ hC [pq (Bv hi0 hl0)] (sI h).symm
              ·cases h
    ·have h:=hnext0 _ hs0
     replace h:=sI h
     subst h
     exact wr E3 23 [] [] [] 0 [5] hC []
theorem e13:EN 13:=en Tryd.func13
theorem k9 (x0:List Aa) (r:ByteArray×Int) (h:F9 x0=some r):CO 9 [.d (DS q36 x0)] [] (.tup [.d (.p (.v (.string r.1))),.d (I r.2)]) []:=V3 F16 F18 k16 k18 x0 r h
theorem e9:EN 9:=en Tryd.func9
theorem k6  (r:Bool) (h:F6  = some r):CO 6 [] [] (.d (Bo r)) []:=by
 unfold F6 at h
 refine co 78 Tryd.func6 λ C hC=>?_
 obtain⟨y1,h2,y3,h4,y5,h6,y7,h8,h⟩:=Ln h
 obtain⟨y9,h10,y11,h12,h⟩:=Bl h
 replace h:=sI h
 subst h
 exact wr [0,1,2,3,4,5,6,7,9,10] 33 [] [pc e10 (k10 (⟨#[98,114,101,97,107,32,49,32,48,10,116,105,99,107,32,50,10]⟩:ByteArray) _ h2) [],pc e13 (k13 y1.1 5 _ h4) [],pc e9 (k9 y1.1 _ h6) [],pc e10 (k10 (⟨#[116,105,99,107,32,49,10,116,105,99,107,32,48,49,10]⟩:ByteArray) _ h8) [],pL_ [(((((y1.2.2==0)&&(y1.2.1==0))&&(y3.2==0))&&(y5.2==0)),true)] q50 y3.1,pR q50 h10,pN q50 h10,pL_ [((((((y1.2.2==0)&&(y1.2.1==0))&&(y3.2==0))&&(y5.2==0))&&((ln y3.1)==2)),true)] q94 y9.Faults,pR q50 h12,pN q50 h12,pL_ [(((((((y1.2.2==0)&&(y1.2.1==0))&&(y3.2==0))&&(y5.2==0))&&((ln y3.1)==2))&&((ln y9.Faults)==1)),true)] q94 y11.Faults] [] 0 [] hC []
theorem e6:EN 6:=en Tryd.func6
theorem k3 (x0:List Int) (r:Bool) (h:F3 x0=some r):CO 3 [.d (DS pI x0)] [] (.d (Bo r)) []:=by
 unfold F3 at h
 refine co 47 Tryd.func3 λ C hC=>?_
 rcases cB h with⟨h1,h⟩ | ⟨h1,h⟩
 ·obtain⟨y2,h3,h⟩:=Al h
  replace h:=sI h
  subst h
  exact wr [0,2,3,4,5,6,7,8,9,12] 29 [true] [pl pI x0,pc e6 (k6  _ h3) []] [] 0 [] hC [pq h1]
 ·obtain⟨y4,h5,y6,h7,y8,h9,y10,h11,h⟩:=Ln h
  obtain⟨y12,h13,y14,h15,h⟩:=Bl h
  replace h:=sI h
  subst h
  exact wr [0,2,3,4,5,6,7,8,9,12] 38 [false] [pl pI x0,pc e7 (k7 x0 _ h5) [],pc e8 (k8 y4 14 _ h7) [0],pb e9 (k9 y6.1 _ h9),pc e10 (k10 y8.1 _ h11) [],pv e11 (λ hg=>k11 y6.1 y10.1 _ (B4 h13 hg)),pw e6 (λ hg=>k6  _ (B4 h15 hg)) []] [] 0 [] hC [pq h1]
end Go.Proofs.YtaplakgdkkmpfaaDoor
