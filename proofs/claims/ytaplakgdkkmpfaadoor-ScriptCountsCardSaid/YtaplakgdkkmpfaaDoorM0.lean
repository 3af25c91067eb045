import Derived.Test.YtaplakgdkkmpfaaDoorRows
import Derived.Test.YtaplakgdkkmpfaaDoorMo
import Derived.Test.YtaplakgdkkmpfaaDoorFo
set_option linter.unusedVariables false
set_option maxHeartbeats 4000000
namespace Go.Proofs.YtaplakgdkkmpfaaDoor
open Go.SL
abbrev v0_ (l:List Int):Res:=.sl 3 1 (l.map pI)
abbrev v1_ (l:List Ad):Res:=.sl 50 12 (l.map q50)
abbrev v2_ (l:List Am):Res:=.sl 88 5 (l.map q88)
abbrev v3_ (l:List Bm):Res:=.sl 90 3 (l.map q90)
abbrev v4_ (l:List A1):Res:=.sl 94 4 (l.map q94)
abbrev v5_ (l:List Ac):Res:=.sl 36 2 (l.map q36)
abbrev CO:=CallOk Tryd.prog
abbrev EN:=Db Tryd.prog
abbrev Mb {α0 α1 α2 α3:Type} (z:α0×α1×α2×α3):α3:=z.2.2.2
abbrev g3_ {α0 α1 α2 α3 α4:Type} (z:α0×α1×α2×α3×α4):α3:=z.2.2.2.1
abbrev Rr {α0 α1 α2 α3 α4:Type} (z:α0×α1×α2×α3×α4):α4:=z.2.2.2.2
abbrev g4_ {α0 α1 α2 α3 α4 α5:Type} (z:α0×α1×α2×α3×α4×α5):α4:=z.2.2.2.2.1
abbrev g5_ {α0 α1 α2 α3 α4 α5 α6:Type} (z:α0×α1×α2×α3×α4×α5×α6):α5:=z.2.2.2.2.2.1
abbrev g6_ {α0 α1 α2 α3 α4 α5 α6 α7:Type} (z:α0×α1×α2×α3×α4×α5×α6×α7):α6:=z.2.2.2.2.2.2.1
abbrev g7_ {α0 α1 α2 α3 α4 α5 α6 α7 α8:Type} (z:α0×α1×α2×α3×α4×α5×α6×α7×α8):α7:=z.2.2.2.2.2.2.2.1
abbrev g8_ {α0 α1 α2 α3 α4 α5 α6 α7 α8 α9:Type} (z:α0×α1×α2×α3×α4×α5×α6×α7×α8×α9):α8:=z.2.2.2.2.2.2.2.2.1
abbrev g9_ {α0 α1 α2 α3 α4 α5 α6 α7 α8 α9 α10:Type} (z:α0×α1×α2×α3×α4×α5×α6×α7×α8×α9×α10):α9:=z.2.2.2.2.2.2.2.2.2.1
abbrev B5 {α0 α1 α2 α3 α4 α5 α6 α7 α8 α9 α10 α11:Type} (z:α0×α1×α2×α3×α4×α5×α6×α7×α8×α9×α10×α11):α10:=z.2.2.2.2.2.2.2.2.2.2.1
abbrev B4 {α0 α1 α2 α3 α4 α5 α6 α7 α8 α9 α10 α11 α12:Type} (z:α0×α1×α2×α3×α4×α5×α6×α7×α8×α9×α10×α11×α12):α11:=z.2.2.2.2.2.2.2.2.2.2.2.1
abbrev B3 {α0 α1 α2 α3 α4 α5 α6 α7 α8 α9 α10 α11 α12 α13:Type} (z:α0×α1×α2×α3×α4×α5×α6×α7×α8×α9×α10×α11×α12×α13):α12:=z.2.2.2.2.2.2.2.2.2.2.2.2.1
abbrev Jh {α0 α1 α2 α3 α4 α5 α6 α7 α8 α9 α10 α11 α12 α13:Type} (z:α0×α1×α2×α3×α4×α5×α6×α7×α8×α9×α10×α11×α12×α13):α13:=z.2.2.2.2.2.2.2.2.2.2.2.2.2
abbrev C6 {α0 α1 α2 α3 α4 α5 α6 α7 α8 α9 α10 α11 α12 α13 α14:Type} (z:α0×α1×α2×α3×α4×α5×α6×α7×α8×α9×α10×α11×α12×α13×α14):α13:=z.2.2.2.2.2.2.2.2.2.2.2.2.2.1
abbrev C5 {α0 α1 α2 α3 α4 α5 α6 α7 α8 α9 α10 α11 α12 α13 α14 α15:Type} (z:α0×α1×α2×α3×α4×α5×α6×α7×α8×α9×α10×α11×α12×α13×α14×α15):α14:=z.2.2.2.2.2.2.2.2.2.2.2.2.2.2.1
abbrev C4 {α0 α1 α2 α3 α4 α5 α6 α7 α8 α9 α10 α11 α12 α13 α14 α15 α16:Type} (z:α0×α1×α2×α3×α4×α5×α6×α7×α8×α9×α10×α11×α12×α13×α14×α15×α16):α15:=z.2.2.2.2.2.2.2.2.2.2.2.2.2.2.2.1
abbrev C3 {α0 α1 α2 α3 α4 α5 α6 α7 α8 α9 α10 α11 α12 α13 α14 α15 α16 α17:Type} (z:α0×α1×α2×α3×α4×α5×α6×α7×α8×α9×α10×α11×α12×α13×α14×α15×α16×α17):α16:=z.2.2.2.2.2.2.2.2.2.2.2.2.2.2.2.2.1
abbrev C2 {α0 α1 α2 α3 α4 α5 α6 α7 α8 α9 α10 α11 α12 α13 α14 α15 α16 α17 α18:Type} (z:α0×α1×α2×α3×α4×α5×α6×α7×α8×α9×α10×α11×α12×α13×α14×α15×α16×α17×α18):α17:=z.2.2.2.2.2.2.2.2.2.2.2.2.2.2.2.2.2.1
abbrev C1 {α0 α1 α2 α3 α4 α5 α6 α7 α8 α9 α10 α11 α12 α13 α14 α15 α16 α17 α18 α19:Type} (z:α0×α1×α2×α3×α4×α5×α6×α7×α8×α9×α10×α11×α12×α13×α14×α15×α16×α17×α18×α19):α18:=z.2.2.2.2.2.2.2.2.2.2.2.2.2.2.2.2.2.2.1
abbrev Cz {α0 α1 α2 α3 α4 α5 α6 α7 α8 α9 α10 α11 α12 α13 α14 α15 α16 α17 α18 α19 α20:Type} (z:α0×α1×α2×α3×α4×α5×α6×α7×α8×α9×α10×α11×α12×α13×α14×α15×α16×α17×α18×α19×α20):α19:=z.2.2.2.2.2.2.2.2.2.2.2.2.2.2.2.2.2.2.2.1
abbrev B0 {α0 α1 α2 α3 α4 α5 α6 α7 α8 α9 α10 α11 α12 α13 α14 α15 α16 α17 α18 α19 α20:Type} (z:α0×α1×α2×α3×α4×α5×α6×α7×α8×α9×α10×α11×α12×α13×α14×α15×α16×α17×α18×α19×α20):α20:=z.2.2.2.2.2.2.2.2.2.2.2.2.2.2.2.2.2.2.2.2
theorem sI {α:Type} {a b:α} (h:some a=some b):a=b:=aO h
abbrev n3_:List Nat:=[0,1,2]
abbrev n5_:List Nat:=[0,1,2,3,4]
abbrev n6_:List Nat:=[0,1,2,3,4,5]
abbrev n7_:List Nat:=[0,1,2,3,4,5,6]
abbrev U6:List Nat:=[0,1,2,3,4,5,6,7,8,9,10]
abbrev U5:List Nat:=[0,1,2,3,4,5,6,7,8,9,10,11]
theorem mixed:Tryd.prog.follows .mixedOrders=true:=by kernel_rfl
abbrev PC:={c:Cl // Cl.ok Tryd.prog c}
abbrev PB:={p:Bool×Bool // p.1=p.2}
theorem okP:∀ l:List PC,Bq Tryd.prog (l.map (·.1))
 | []=>trivial
 | c::l=>⟨c.2,okP l⟩
theorem okB:∀ l:List PB,Co (l.map (·.1))
 | []=>trivial
 | ⟨(_,_),h⟩::l=>⟨h,okB l⟩
def pq {a b:Bool} (h:a=b):PB:=⟨(a,b),h⟩
def pc {f:FuncId} {args:List AV} {R R2:List Res} {res:AV} (e:Db Tryd.prog f) (k:CallOk Tryd.prog f args R res R2) (pi:List Nat):PC:=⟨.call f args R res R2 pi,e,k⟩
def pb {f:FuncId} {args:List AV} {res:AV} (e:Db Tryd.prog f) (k:CallOk Tryd.prog f args [] res []):PC:=⟨.callB f args res [[]] 0 [],Mz ⟨e,k⟩⟩
def pw {g:List (Bool×Bool)} {f:FuncId} {args:List AV} {R R2:List Res} {res:AV} (e:Db Tryd.prog f) (k:Co g->CallOk Tryd.prog f args R res R2) (pi:List Nat):PC:=⟨.when g (.call f args R res R2 pi),λ h=>⟨e,k h⟩⟩
def pv {g:List (Bool×Bool)} {f:FuncId} {args:List AV} {res:AV} (e:Db Tryd.prog f) (k:Co g->CallOk Tryd.prog f args [] res []):PC:=⟨.when g (.callB f args res [[]] 0 []),λ h=>Mz ⟨e,k h⟩⟩
section
variable {α:Type}
def pl (q:α->List Pd) (l:List α):PC:=⟨.len ((l.map q).length:Int) (l.length:Int),Qp l q⟩
def pL_ (g:List (Bool×Bool)) (q:α->List Pd) (l:List α):PC:=⟨.when g (.len ((l.map q).length:Int) (l.length:Int)),λ _=>Qp l q⟩
def pr (q:α->List Pd) {l:List α} {n:Int} {x:α} (h:getI l n=some x):PC:=⟨.row (l.map q) n (q x),Jd h⟩
def pn (q:α->List Pd) {l:List α} {n:Int} {x:α} (h:getI l n=some x):PC:=⟨.row (l.map q) ((n.toNat:Nat):Int) (q x),N_ h⟩
def pt {q:α->List Pd} {l:List α} {i:Nat} {x:α} (hx:l[i]? = some x) (hl:(l.map q).length<=maxLen):PC:=⟨.row (l.map q) (cnt 0 i) (q x),Wy hx hl⟩
def pR (q:α->List Pd) {g:List (Bool×Bool)} {l:List α} {n:Int} {x d:α} (h:A9 g (getI l n) d=some x):PC:=⟨.when g (.row (l.map q) n (q x)),λ hg=>Jd (Bg h hg)⟩
def pN (q:α->List Pd) {g:List (Bool×Bool)} {l:List α} {n:Int} {x d:α} (h:A9 g (getI l n) d=some x):PC:=⟨.when g (.row (l.map q) ((n.toNat:Nat):Int) (q x)),λ hg=>N_ (Bg h hg)⟩
def pa (q:α->List Pd) (size:Nat) {B:Nat} {l m y:List α} (h:appI (B+1) l m=some y) (hs:∀ x,(q x).length=size:=by exact λ _=>rfl):PC:=⟨.app (l.map q) (m.map q) size (((l.map q).length+(m.map q).length)*(B+1)) (y.map q),Xn q size hs h⟩
def pu (q:α->List Pd) {l y:List α} {n:Int} {x x':α} (hx:getI l n=some x) (h:setI l n x'=some y):PC:=⟨.upd (l.map q) n.toNat (q x) (q x') (y.map q),Wt hx h⟩
end
theorem ws {ro:Option Nat} {n:Nat} {C:Ctx} {Q:Exit->Act->World->Prop} {st:St} {R:List Res} {items:List It} (lv:List Nat) (fuel:Nat) (ds:List Bool) (cls:List PC) (adj:List Adj) (k:Nat) (pi:List Nat) (st':St) (R':List Res) (hk:C.h.length<=k) (bs:List PB) (hW:WI ro Tryd.prog n C Q (Au fuel items ds) st' R') (h:Dc Tryd.prog n lv fuel items st R ds (cls.map (·.1)) adj k pi (Km st')=some (st',R',cls.map (·.1),bs.map (·.1)):=by kernel_rfl):WI ro Tryd.prog n C Q items st R:=Mh mixed lv fuel ds (cls.map (·.1)) adj k pi st' R' hk (okP cls) (okB bs) h hW
def wo (o:Option (St×List Res×List Cl×List (Bool×Bool))):St×List Res:=match o with
 | some (s,r,_,_)=>(s,r)
 | none=>([],[])
theorem wn {ro:Option Nat} {n:Nat} {C:Ctx} {Q:Exit->Act->World->Prop} {st:St} {R:List Res} {items:List It} (lv:List Nat) (fuel:Nat) (ds:List Bool) (cls:List PC) (adj:List Adj) (k:Nat) (pi:List Nat) (ks:List Nat) (hk:C.h.length<=k) (bs:List PB) (hW:WI ro Tryd.prog n C Q (Au fuel items ds) (wo (Dc Tryd.prog n lv fuel items st R ds (cls.map (·.1)) adj k pi ks)).1 (wo (Dc Tryd.prog n lv fuel items st R ds (cls.map (·.1)) adj k pi ks)).2) (h:(Dc Tryd.prog n lv fuel items st R ds (cls.map (·.1)) adj k pi ks).map (λ x=>(Km x.1,x.2.2.1,x.2.2.2))=some (ks,cls.map (·.1),bs.map (·.1)):=by kernel_rfl):WI ro Tryd.prog n C Q items st R:=by
 cases e:Dc Tryd.prog n lv fuel items st R ds (cls.map (·.1)) adj k pi ks with
 | none=>rw [e] at h;cases h
 | some x=>
  obtain⟨s,r,c,b⟩:=x
  rw [e] at h hW
  simp only [Option.map_some,ah,ax] at h
  obtain⟨h1,h2,h3⟩:=h
  subst h1;subst h2;subst h3
  exact Mh mixed lv fuel ds _ adj k pi s r hk (okP cls) (okB bs) e hW
theorem we {ro:Option Nat} {n:Nat} {C:Ctx} {Q:Exit->Act->World->Prop} {st:St} {R:List Res} {items:List It} {σ:Type} {φ:σ->Prop} {st':σ->St} {R':σ->List Res} (lv:List Nat) (fuel:Nat) (ds:List Bool) (cls:List PC) (adj:List Adj) (k:Nat) (pi:List Nat) (s:σ) (hk:C.h.length<=k) (bs:List PB) (h1:φ s) (hi:hdK (Au fuel items ds)=Ex n C φ st' R':=by kernel_rfl) (h:Dc Tryd.prog n lv fuel items st R ds (cls.map (·.1)) adj k pi (Km (st' s))=some (st' s,R' s,cls.map (·.1),bs.map (·.1)):=by kernel_rfl):WI ro Tryd.prog n C Q items st R:=Ub mixed lv fuel ds (cls.map (·.1)) adj k pi s hk (okP cls) (okB bs) hi h h1
theorem wx {σ:Type} {τ:Type} (w:Ctl σ τ) (st':σ->St) (R':σ->List Res) {ro:Option Nat} {n:Nat} {C:Ctx} {Q:Exit->Act->World->Prop} {st:St} {R:List Res} {items:List It} (lv:List Nat) (fuel:Nat) (ds:List Bool) (cls:List PC) (adj:List Adj) (k:Nat) (pi:List Nat) (s:σ) (hk:C.h.length<=k) (bs:List PB) (h1:w = .next s) (hi:hdK (Au fuel items ds)=Ex n C (λ s'=>w = .next s') st' R':=by kernel_rfl) (h:Dc Tryd.prog n lv fuel items st R ds (cls.map (·.1)) adj k pi (Km (st' s))=some (st' s,R' s,cls.map (·.1),bs.map (·.1)):=by kernel_rfl):WI ro Tryd.prog n C Q items st R:=Ub mixed lv fuel ds (cls.map (·.1)) adj k pi s hk (okP cls) (okB bs) hi h h1
theorem wc {ro:Option Nat} {n:Nat} {C:Ctx} {Q:Exit->Act->World->Prop} {st:St} {R:List Res} {items:List It} {σ τ:Type} (w:Ctl σ τ) (st':σ->St) (R':σ->List Res) (h:WI ro Tryd.prog n C Q (.c (hdC items) :: .k (Ex n C (λ s=>w = .next s) st' R')::tlI items) st R) (hK:∀ s,w = .next s->WI ro Tryd.prog n C Q (tlI items) (st' s) (R' s)) (hi:isC items=true:=by kernel_rfl):WI ro Tryd.prog n C Q items st R:=Yv hi _ st' R' h hK
theorem Bc {α β γ:Type} {o:Option α} {f:α->Option β} {g:α->β->Option γ} {r:γ} (h:(o.bind λ a=>(f a).bind λ b=>g a b)=some r):∃ a,o=some a/\∃ b,f a=some b/\g a b=some r:=by
 obtain⟨a,h1,h⟩:=Ai h
 obtain⟨b,h2,h⟩:=Ai h
 exact⟨a,h1,b,h2,h⟩
theorem G6 {α β γ δ:Type} {o:Option α} {f:α->Option β} {g:α->β->Option γ} {k:α->β->γ->Option δ} {r:δ} (h:(o.bind λ a=>(f a).bind λ b=>(g a b).bind λ c=>k a b c)=some r):∃ a,o=some a/\∃ b,f a=some b/\∃ c,g a b=some c/\k a b c=some r:=by
 obtain⟨a,h1,h⟩:=Ai h
 obtain⟨b,h2,c,h3,h⟩:=Bc h
 exact⟨a,h1,b,h2,c,h3,h⟩
theorem Ls {α β γ δ ε:Type} {o:Option α} {f:α->Option β} {g:α->β->Option γ} {k:α->β->γ->Option δ} {l:α->β->γ->δ->Option ε} {r:ε} (h:(o.bind λ a=>(f a).bind λ b=>(g a b).bind λ c=>(k a b c).bind λ d=>l a b c d)=some r):∃ a,o=some a/\∃ b,f a=some b/\∃ c,g a b=some c/\∃ d,k a b c=some d/\l a b c d=some r:=by
 obtain⟨a,h1,h⟩:=Ai h
 obtain⟨b,h2,c,h3,d,h4,h⟩:=G6 h
 exact⟨a,h1,b,h2,c,h3,d,h4,h⟩
theorem wl {ro:Option Nat} {n:Nat} {C:Ctx} {Q:Exit->Act->World->Prop} {st:St} {R:List Res} {α σ τ:Type} {items:List It} {f:Nat->α->σ->Option (Ctl σ τ)} (stF:Nat->σ->St) (RF:Nat->σ->List Res) {r:Ctl σ τ} {xs:List α} {s:σ} (hm:foldI f xs 0 s=some r) (hnil:∀ s,r = .next s->WI ro Tryd.prog n C Q (.c (lpC items) :: .k (λ _ _=>False)::tlI items) (stF xs.length s) (RF xs.length s)) (hcons:∀ i x s k,i<xs.length->xs[i]? = some x->f i x s=some k->(∀ s',k = .brk s'->r = .next s')->(∀ v,k = .ret v->r = .ret v)->WI ro Tryd.prog n C Q (.c (lpC items) :: .k (Ex n C (λ s'=>k = .next s') (stF (i+1)) (RF (i+1)))::tlI items) (stF i s) (RF i s)) (hi:isL items=true:=by kernel_rfl) (h0:st=stF 0 s:=by rfl) (h1:R=RF 0 s:=by rfl):WI ro Tryd.prog n C Q items st R:=Vq hi f stF RF r xs s hm h0 h1 hnil hcons
theorem ww {ro:Option Nat} {n:Nat} {C:Ctx} {Q:Exit->Act->World->Prop} {st:St} {R:List Res} {σ τ:Type} {items:List It} {f:σ->Option (Ctl σ τ)} (stF:σ->St) (RF:σ->List Res) {r:Ctl σ τ} {fuel:Nat} {s:σ} (hm:whileN f fuel s=some r) (h:∀ s k,f s=some k->(∀ s',k = .brk s'->r = .next s')->(∀ v,k = .ret v->r = .ret v)->WI ro Tryd.prog n C Q (.c (lpC items) :: .k (Ex n C (λ s'=>k = .next s') stF RF)::tlI items) (stF s) (RF s)) (hi:isL items=true:=by kernel_rfl) (h0:st=stF s:=by rfl) (h1:R=RF s:=by rfl):WI ro Tryd.prog n C Q items st R:=Vp hi f stF RF r fuel s hm h0 h1 h
theorem cB {α:Type} {c:Bool} {x y z:α} (h:(bif c then x else y)=z):(c=true/\x=z)\/(c=false/\y=z):=by cases c;exact .inr ⟨rfl,h⟩;exact .inl ⟨rfl,h⟩
theorem wb {ro:Option Nat} {n:Nat} {C:Ctx} {Q:Exit->Act->World->Prop} {st:St} {R:List Res} {items:List It} (h:WI ro Tryd.prog n C Q (.c (Yo items) :: .b (Yn items)::tlI items) st R) (hi:isB items=true:=by kernel_rfl):WI ro Tryd.prog n C Q items st R:=Yw hi h
theorem co {f:FuncId} {fn:Func} {c:Code} {args:List AV} {res:AV} {R R2:List Res} (n:Nat) (hf:Tryd.prog.funcs[f]? = some fn) (h:∀ C:Ctx,C.h.length<=R.length->WI none Tryd.prog n C.z (Gs Tryd.prog fn C.z res R2) [.c c] (Lu 0 args) R) (hb:fn.body=some c:=by rfl) (hn:fn.ntmps=n:=by rfl) (hl:Nat.ble args.length n=true:=by rfl):CallOk Tryd.prog f args R res R2:=T6 n hf hb hn hl h
theorem wr {ro:Option Nat} {n:Nat} {C:Ctx} {st:St} {R:List Res} {fn:Func} {res:AV} {R2:List Res} {items:List It} (lv:List Nat) (fuel:Nat) (ds:List Bool) (cls:List PC) (adj:List Adj) (k:Nat) (pi:List Nat) (hk:C.h.length<=k) (bs:List PB) (h:Kx Tryd.prog n lv fuel items st R ds (cls.map (·.1)) adj fn.results.toList k pi=some (res,R2,cls.map (·.1),bs.map (·.1)):=by kernel_rfl):WI ro Tryd.prog n C.z (Gs Tryd.prog fn C.z res R2) items st R:=Yt mixed lv fuel ds (cls.map (·.1)) adj _ k pi rfl hk (okP cls) (okB bs) h
theorem wf {ro:Option Nat} {n:Nat} {C:Ctx} {st:St} {R:List Res} {fn:Func} {res:AV} {R2:List Res} {items:List It} (lv:List Nat) (fuel:Nat) (ds:List Bool) (cls:List PC) (adj:List Adj) (k:Nat) (pi:List Nat) (hk:C.h.length<=k) (bs:List PB) (hn:U4 (Au fuel items ds)=true:=by kernel_rfl) (h:Ky Tryd.prog n lv fuel items st R ds (cls.map (·.1)) adj fn.results.toList k pi=some (res,R2,cls.map (·.1),bs.map (·.1)):=by kernel_rfl):WI ro Tryd.prog n C.z (Gs Tryd.prog fn C.z res R2) items st R:=Xr mixed lv fuel ds (cls.map (·.1)) adj _ k pi rfl hk (okP cls) (okB bs) hn h
theorem en {f : FuncId} {fn : Func} (hf : Tryd.prog.funcs[f]? = some fn) (hb : fn.body.isNone = false := by kernel_rfl) (hn : (fn.name == "runtime.NumGoroutine") = false := by kernel_rfl) : Db Tryd.prog f := Go.SL.Vi hf hb hn
abbrev ln {α:Type} (l:List α):Int:=(l.length:Int)
abbrev dI (x:Int):AV:=.d (I x)
abbrev dB (x:Bool):AV:=.d (Bo x)
abbrev dO (a b:Nat):AV:=.d (.o a b)
abbrev dS (a:Nat):AV:=.d (.os a)
theorem k38  (r:(List Aq)) (h:F38  = r):CO 38 [] [] (.d (DS q82 r)) []:=by
 unfold F38 at h
 refine co 10 Tryd.func38 λ C hC=>?_
 subst h
 exact wr [0] 25 [] [] [] 0 [] hC []
theorem e38:EN 38:=en Tryd.func38
def Oj:List Nat:=[0,1,4,6,7,8,9,10,21]
def Nu (x0:Int) (x1:List Int) (n0:Nat) (z0:Unit):St:=[(0,dI x0),(4,dB false),(7,.d (DS pI x1)),(8,dI (ln x1)),(9,dI (cnt 0 n0))]
def Sc  (n0:Nat) (z0:Unit):List Res:=[]
def S7  (z0:Unit):St:=[(4,dB false)]
def Uc  (z0:Unit):List Res:=[]
theorem k43 (x0:Int) (x1:List Int) (r:Bool) (h:F43 x0 x1=some r):CO 43 [.d (I x0),.d (DS pI x1)] [] (.d (Bo r)) []:=by
 unfold F43 at h
 refine co 23 Tryd.func43 λ C hC=>?_
 refine ws Oj 26 [] [pl pI x1] [] 0 [] (Nu x0 x1 0 ()) (Sc 0 ()) hC [] ?_
 obtain⟨w0,hm0,hret0,hnext0⟩:=Ap h
 clear h
 refine wc w0 (S7) (Uc) ?_ λ z0 hs0=>?_
 ·refine wb ?_
  refine Ge 7 rfl λ hl0=>?_
  refine wl (Nu x0 x1) (Sc) hm0 (λ z0 hn0=>?_) λ n0 a0 z0 w0b hi0 hx0 h hb0 hr0=>?_
  ·clear hm0
   exact wx w0 (S7) (Uc) Oj 26 [false] [] [] 0 [] _ hC [pq (Dx hl0)] hn0
  ·unfold I0 at h
   rcases cB h with⟨h1,h⟩ | ⟨h1,h⟩
   ·have hq:=hret0 _ (hr0 _ (sI h).symm)
    replace hq:=sI hq
    subst hq
    exact wr Oj 35 [true,true] [pt hx0 hl0] [] 0 [] hC [pq (Ax hi0 hl0),pq h1]
   ·exact wx w0b (Nu x0 x1 (n0+1)) (Sc (n0+1)) Oj 36 [true,false] [pt hx0 hl0] [] 0 [] _ hC [pq (Ax hi0 hl0),pq h1] (sI h).symm
 ·have h:=hnext0 _ hs0
  replace h:=sI h
  subst h
  exact wr Oj 23 [] [] [] 0 [] hC []
theorem e43:EN 43:=en Tryd.func43
theorem k33 (x0:Int) (r:ByteArray) (h:F33 x0=some r):CO 33 [.d (I x0)] [] (.d (.p (.v (.string r)))) []:=Zg x0 r h
theorem e33:EN 33:=en Tryd.func33
theorem k34 (x0:List ByteArray) (x1:ByteArray) (r:ByteArray) (h:F34 x0 x1=some r):CO 34 [.d (DS pS x0),.d (.p (.v (.string x1)))] [] (.d (.p (.v (.string r)))) []:=Zf x0 x1 r h
theorem e34:EN 34:=en Tryd.func34
def Dn:List Nat:=[0,1,4,5,8,9,10,27,28,29]
def Kh (y1:Int) (z0:Sg2):St:=[(0,dO 0 0),(8,dI y1),(9,dI z0.1)]
def Mj (x0:Ab) (z0:Sg2):List Res:=[.box 79 [I x0.time,I x0.weather.Wind.From,I x0.weather.Wind.Speed,I x0.weather.Current.From,I x0.weather.Current.Speed,I x0.weather.Wave.From,I x0.weather.Wave.Speed,I x0.heading,I z0.2.1,I z0.2.2.1,I (g3_ z0),I (g4_ z0),I (g5_ z0),I (g6_ z0),I (g7_ z0),.os 6,.os 7,.os 8,I (g8_ z0),.os 9,.os 10],.non,.non,.non,.non,.non,v2_ (g9_ z0),v3_ (B5 z0),v4_ (B4 z0),v0_ (B3 z0),v1_ (Jh z0)]
def N6  (z0:Sg2):St:=[]
def Pv (x0:Ab) (z0:Sg2):List Res:=[.box 79 [I x0.time,I x0.weather.Wind.From,I x0.weather.Wind.Speed,I x0.weather.Current.From,I x0.weather.Current.Speed,I x0.weather.Wave.From,I x0.weather.Wave.Speed,I x0.heading,I z0.2.1,I z0.2.2.1,I (g3_ z0),I (g4_ z0),I (g5_ z0),I (g6_ z0),I (g7_ z0),.os 6,.os 7,.os 8,I (g8_ z0),.os 9,.os 10],.non,.non,.non,.non,.non,v2_ (g9_ z0),v3_ (B5 z0),v4_ (B4 z0),v0_ (B3 z0),v1_ (Jh z0)]
def Kg (y1:Int) (z0:Sg2) (z1:Int×(List Am)):St:=[(0,dO 0 0),(4,dO 11 0),(8,dI y1),(9,dI z0.1),(27,dI (ln (g9_ z0))),(28,dI z1.1)]
def Mi (x0:Ab) (z0:Sg2) (z1:Int×(List Am)):List Res:=[.box 79 [I x0.time,I x0.weather.Wind.From,I x0.weather.Wind.Speed,I x0.weather.Current.From,I x0.weather.Current.Speed,I x0.weather.Wave.From,I x0.weather.Wave.Speed,I x0.heading,I z0.2.1,I z0.2.2.1,I (g3_ z0),I (g4_ z0),I (g5_ z0),I (g6_ z0),I (g7_ z0),.os 6,.os 7,.os 8,I (g8_ z0),.os 9,.os 10],.non,.non,.non,.non,.non,v2_ z1.2,v3_ (B5 z0),v4_ (B4 z0),v0_ (B3 z0),v1_ (Jh z0),.box 50 [I x0.weather.Wind.From,I x0.weather.Wind.Speed,I x0.weather.Current.From,I x0.weather.Current.Speed,I x0.weather.Wave.From,I x0.weather.Wave.Speed,I x0.heading,.os 6,.os 7,.os 8,I (g8_ z0),.os 9]]
def N5 (y1:Int) (z0:Sg2) (z1:Int×(List Am)):St:=[(0,dO 0 0),(4,dO 11 0),(8,dI y1),(9,dI z0.1)]
def Pu (x0:Ab) (z0:Sg2) (z1:Int×(List Am)):List Res:=[.box 79 [I x0.time,I x0.weather.Wind.From,I x0.weather.Wind.Speed,I x0.weather.Current.From,I x0.weather.Current.Speed,I x0.weather.Wave.From,I x0.weather.Wave.Speed,I x0.heading,I z0.2.1,I z0.2.2.1,I (g3_ z0),I (g4_ z0),I (g5_ z0),I (g6_ z0),I (g7_ z0),.os 6,.os 7,.os 8,I (g8_ z0),.os 9,.os 10],.non,.non,.non,.non,.non,v2_ z1.2,v3_ (B5 z0),v4_ (B4 z0),v0_ (B3 z0),v1_ (Jh z0),.box 50 [I x0.weather.Wind.From,I x0.weather.Wind.Speed,I x0.weather.Current.From,I x0.weather.Current.Speed,I x0.weather.Wave.From,I x0.weather.Wave.Speed,I x0.heading,.os 6,.os 7,.os 8,I (g8_ z0),.os 9]]
theorem V5 (x0:Ab) (x1:List Int) (r:Ab) (h:Hz x0 x1=some r):CO 56 [.d (.o 0 0),.d (DS pI x1)] [.box 79 [I x0.time,I x0.weather.Wind.From,I x0.weather.Wind.Speed,I x0.weather.Current.From,I x0.weather.Current.Speed,I x0.weather.Wave.From,I x0.weather.Wave.Speed,I x0.heading,I x0.next.Weather.Wind.From,I x0.next.Weather.Wind.Speed,I x0.next.Weather.Current.From,I x0.next.Weather.Current.Speed,I x0.next.Weather.Wave.From,I x0.next.Weather.Wave.Speed,I x0.next.Heading,.os 1,.os 2,.os 3,I x0.next.Request,.os 4,.os 5],v2_ x0.next.Sights,v3_ x0.next.Acts,v4_ x0.next.Faults,v0_ x0.next.Seen,v1_ x0.out] (.tup []) [.box 79 [I r.time,I r.weather.Wind.From,I r.weather.Wind.Speed,I r.weather.Current.From,I r.weather.Current.Speed,I r.weather.Wave.From,I r.weather.Wave.Speed,I r.heading,I r.next.Weather.Wind.From,I r.next.Weather.Wind.Speed,I r.next.Weather.Current.From,I r.next.Weather.Current.Speed,I r.next.Weather.Wave.From,I r.next.Weather.Wave.Speed,I r.next.Heading,.os 6,.os 7,.os 8,I r.next.Request,.os 9,.os 10],.non,.non,.non,.non,.non,v2_ r.next.Sights,v3_ r.next.Acts,v4_ r.next.Faults,v0_ r.next.Seen,v1_ r.out]:=by
 unfold Hz at h
 refine co 64 Tryd.func56 λ C hC=>?_
 obtain⟨y1,h2,h⟩:=Ai h
 refine ws Dn 23 [] [pr pI h2] [.mv 1,.mv 2,.mv 3,.mv 4,.mv 5] 6 U6 (Kh y1 (0,x0.next.Weather.Wind.From,x0.next.Weather.Wind.Speed,x0.next.Weather.Current.From,x0.next.Weather.Current.Speed,x0.next.Weather.Wave.From,x0.next.Weather.Wave.Speed,x0.next.Heading,x0.next.Request,x0.next.Sights,x0.next.Acts,x0.next.Faults,x0.next.Seen,x0.out)) (Mj x0 (0,x0.next.Weather.Wind.From,x0.next.Weather.Wind.Speed,x0.next.Weather.Current.From,x0.next.Weather.Current.Speed,x0.next.Weather.Wave.From,x0.next.Weather.Wave.Speed,x0.next.Heading,x0.next.Request,x0.next.Sights,x0.next.Acts,x0.next.Faults,x0.next.Seen,x0.out)) hC [] ?_
 obtain⟨w0,hm0,hret0,hnext0⟩:=Ap h
 clear h
 refine wc w0 (N6) (Pv x0) ?_ λ z0 hs0=>?_
 ·refine wb ?_
  refine ww (Kh y1) (Mj x0) hm0 λ z0 w0b h hb0 hr0=>?_
  unfold C9 at h
  rcases cB h with⟨h3,h⟩ | ⟨h3,h⟩
  ·refine ws Dn 35 [true] [pl q88 (g9_ z0)] [] 6 U5 (Kg y1 z0 (0,(g9_ z0))) (Mi x0 z0 (0,(g9_ z0))) hC [pq h3] ?_
   obtain⟨w1,hm1,hret1,hnext1⟩:=Ap h
   clear h
   refine wc w1 (N5 y1 z0) (Pu x0 z0) ?_ λ z1 hs1=>?_
   ·refine wb ?_
    refine ww (Kg y1 z0) (Mi x0 z0) hm1 λ z1 w1b h hb1 hr1=>?_
    unfold Hy at h
    rcases cB h with⟨h4,h⟩ | ⟨h4,h⟩
    ·obtain⟨y5,h6,y7,h8,h⟩:=Bc h
     exact wx w1b (Kg y1 z0) (Mi x0 z0) Dn 33 [true] [pl q50 (Jh z0),pr q88 h6,pu q88 h6 h8] [] 6 U5 _ hC [pq h4] (sI h).symm
    ·exact wx w1 (N5 y1 z0) (Pu x0 z0) Dn 26 [false] [] [] 6 U5 (z1.1,z1.2) hC [pq h4] (hb1 _ (sI h).symm)
   ·have h:=hnext1 _ hs1
    refine wn Dn 0 [] [] [.frz 6] 6 [0,1,2,3,4,5,7,8,9,10,11] [0,4,8,9] hC [] ?_
    refine wn Dn 0 [] [] [.frz 6] 6 [0,1,2,3,4,5,7,8,9,10] [0,4,8,9] hC [] ?_
    refine wn Dn 0 [] [] [.frz 6] 6 [0,1,2,3,4,5,7,8,9] [0,4,8,9] hC [] ?_
    refine wn Dn 0 [] [] [.frz 6] 6 [0,1,2,3,4,5,7,8] [0,4,8,9] hC [] ?_
    obtain⟨y9,h10,h⟩:=Ai h
    exact wx w0b (Kh y1) (Mj x0) Dn 24 [] [pa q50 12 h10] [.ownb 0 15 88 5,.ownb 0 16 90 3,.ownb 0 17 94 4,.ownb 0 19 3 1] 6 [0,1,2,3,4,5,9,10,11,12,8] _ hC [] (sI h).symm
  ·exact wx w0 (N6) (Pv x0) Dn 26 [false] [] [] 6 U6 (z0.1,z0.2.1,z0.2.2.1,(g3_ z0),(g4_ z0),(g5_ z0),(g6_ z0),(g7_ z0),(g8_ z0),(g9_ z0),(B5 z0),(B4 z0),(B3 z0),(Jh z0)) hC [pq h3] (hb0 _ (sI h).symm)
 ·have h:=hnext0 _ hs0
  replace h:=sI h
  subst h
  exact wf Dn 20 [] [] [] 6 U6 hC []
theorem We:EN 56:=en Tryd.func56
theorem V6 (x0:Ab) (x1:List Int) (r:Ab) (h:Jn x0 x1=some r):CO 55 [.d (.o 0 0),.d (DS pI x1)] [.box 79 [I x0.time,I x0.weather.Wind.From,I x0.weather.Wind.Speed,I x0.weather.Current.From,I x0.weather.Current.Speed,I x0.weather.Wave.From,I x0.weather.Wave.Speed,I x0.heading,I x0.next.Weather.Wind.From,I x0.next.Weather.Wind.Speed,I x0.next.Weather.Current.From,I x0.next.Weather.Current.Speed,I x0.next.Weather.Wave.From,I x0.next.Weather.Wave.Speed,I x0.next.Heading,.os 1,.os 2,.os 3,I x0.next.Request,.os 4,.os 5],v2_ x0.next.Sights,v3_ x0.next.Acts,v4_ x0.next.Faults,v0_ x0.next.Seen,v1_ x0.out] (.tup []) [.box 79 [I r.time,I r.weather.Wind.From,I r.weather.Wind.Speed,I r.weather.Current.From,I r.weather.Current.Speed,I r.weather.Wave.From,I r.weather.Wave.Speed,I r.heading,I r.next.Weather.Wind.From,I r.next.Weather.Wind.Speed,I r.next.Weather.Current.From,I r.next.Weather.Current.Speed,I r.next.Weather.Wave.From,I r.next.Weather.Wave.Speed,I r.next.Heading,.os 1,.os 2,.os 3,I r.next.Request,.os 6,.os 5],v2_ r.next.Sights,v3_ r.next.Acts,v4_ r.next.Faults,.non,v1_ r.out,v0_ r.next.Seen]:=by
 unfold Jn at h
 refine co 18 Tryd.func55 λ C hC=>?_
 obtain⟨y1,h2,y3,h4,h⟩:=Bc h
 replace h:=sI h
 subst h
 exact wf [0,1] 21 [] [pr pI h2,pa pI 1 h4] [] 6 n7_ hC []
theorem Wf:EN 55:=en Tryd.func55
theorem V7 (x0:Ab) (x1:List Int) (r:Ab) (h:Jo x0 x1=some r):CO 54 [.d (.o 0 0),.d (DS pI x1)] [.box 79 [I x0.time,I x0.weather.Wind.From,I x0.weather.Wind.Speed,I x0.weather.Current.From,I x0.weather.Current.Speed,I x0.weather.Wave.From,I x0.weather.Wave.Speed,I x0.heading,I x0.next.Weather.Wind.From,I x0.next.Weather.Wind.Speed,I x0.next.Weather.Current.From,I x0.next.Weather.Current.Speed,I x0.next.Weather.Wave.From,I x0.next.Weather.Wave.Speed,I x0.next.Heading,.os 1,.os 2,.os 3,I x0.next.Request,.os 4,.os 5],v2_ x0.next.Sights,v3_ x0.next.Acts,v4_ x0.next.Faults,v0_ x0.next.Seen,v1_ x0.out] (.tup []) [.box 79 [I r.time,I r.weather.Wind.From,I r.weather.Wind.Speed,I r.weather.Current.From,I r.weather.Current.Speed,I r.weather.Wave.From,I r.weather.Wave.Speed,I r.heading,I r.next.Weather.Wind.From,I r.next.Weather.Wind.Speed,I r.next.Weather.Current.From,I r.next.Weather.Current.Speed,I r.next.Weather.Wave.From,I r.next.Weather.Wave.Speed,I r.next.Heading,.os 1,.os 2,.os 3,I r.next.Request,.os 4,.os 5],v2_ r.next.Sights,v3_ r.next.Acts,v4_ r.next.Faults,v0_ r.next.Seen,v1_ r.out]:=by
 unfold Jo at h
 refine co 11 Tryd.func54 λ C hC=>?_
 obtain⟨y1,h2,h⟩:=Ai h
 replace h:=sI h
 subst h
 exact wf [0,1] 21 [] [pr pI h2] [] 6 n6_ hC []
theorem Wg:EN 54:=en Tryd.func54
theorem V8 (x0:Ab) (x1:List Int) (r:Ab) (h:Jp x0 x1=some r):CO 53 [.d (.o 0 0),.d (DS pI x1)] [.box 79 [I x0.time,I x0.weather.Wind.From,I x0.weather.Wind.Speed,I x0.weather.Current.From,I x0.weather.Current.Speed,I x0.weather.Wave.From,I x0.weather.Wave.Speed,I x0.heading,I x0.next.Weather.Wind.From,I x0.next.Weather.Wind.Speed,I x0.next.Weather.Current.From,I x0.next.Weather.Current.Speed,I x0.next.Weather.Wave.From,I x0.next.Weather.Wave.Speed,I x0.next.Heading,.os 1,.os 2,.os 3,I x0.next.Request,.os 4,.os 5],v2_ x0.next.Sights,v3_ x0.next.Acts,v4_ x0.next.Faults,v0_ x0.next.Seen,v1_ x0.out] (.tup []) [.box 79 [I r.time,I r.weather.Wind.From,I r.weather.Wind.Speed,I r.weather.Current.From,I r.weather.Current.Speed,I r.weather.Wave.From,I r.weather.Wave.Speed,I r.heading,I r.next.Weather.Wind.From,I r.next.Weather.Wind.Speed,I r.next.Weather.Current.From,I r.next.Weather.Current.Speed,I r.next.Weather.Wave.From,I r.next.Weather.Wave.Speed,I r.next.Heading,.os 6,.os 2,.os 3,I r.next.Request,.os 4,.os 5],.non,v3_ r.next.Acts,v4_ r.next.Faults,v0_ r.next.Seen,v1_ r.out,v2_ r.next.Sights]:=by
 unfold Jp at h
 refine co 29 Tryd.func53 λ C hC=>?_
 obtain⟨y1,h2,y3,h4,y5,h6,h⟩:=G6 h
 obtain⟨y7,h8,y9,h10,h⟩:=Bc h
 replace h:=sI h
 subst h
 exact wf [0,1] 21 [] [pr pI h2,pr pI h4,pr pI h6,pr pI h8,pa q88 5 h10] [] 6 n7_ hC []
theorem Wh:EN 53:=en Tryd.func53
theorem V9 (x0:Ab) (x1:List Int) (r:Ab) (h:Jq x0 x1=some r):CO 52 [.d (.o 0 0),.d (DS pI x1)] [.box 79 [I x0.time,I x0.weather.Wind.From,I x0.weather.Wind.Speed,I x0.weather.Current.From,I x0.weather.Current.Speed,I x0.weather.Wave.From,I x0.weather.Wave.Speed,I x0.heading,I x0.next.Weather.Wind.From,I x0.next.Weather.Wind.Speed,I x0.next.Weather.Current.From,I x0.next.Weather.Current.Speed,I x0.next.Weather.Wave.From,I x0.next.Weather.Wave.Speed,I x0.next.Heading,.os 1,.os 2,.os 3,I x0.next.Request,.os 4,.os 5],v2_ x0.next.Sights,v3_ x0.next.Acts,v4_ x0.next.Faults,v0_ x0.next.Seen,v1_ x0.out] (.tup []) [.box 79 [I r.time,I r.weather.Wind.From,I r.weather.Wind.Speed,I r.weather.Current.From,I r.weather.Current.Speed,I r.weather.Wave.From,I r.weather.Wave.Speed,I r.heading,I r.next.Weather.Wind.From,I r.next.Weather.Wind.Speed,I r.next.Weather.Current.From,I r.next.Weather.Current.Speed,I r.next.Weather.Wave.From,I r.next.Weather.Wave.Speed,I r.next.Heading,.os 1,.os 2,.os 3,I r.next.Request,.os 4,.os 5],v2_ r.next.Sights,v3_ r.next.Acts,v4_ r.next.Faults,v0_ r.next.Seen,v1_ r.out]:=by
 unfold Jq at h
 refine co 35 Tryd.func52 λ C hC=>?_
 obtain⟨y1,h2,y3,h4,y5,h6,y7,h8,h⟩:=Ls h
 obtain⟨y9,h10,y11,h12,y13,h14,h⟩:=G6 h
 replace h:=sI h
 subst h
 exact wf [0,1] 23 [] [pr pI h2,pr pI h4,pr pI h6,pr pI h8,pr pI h10,pr pI h12,pr pI h14] [] 6 n6_ hC []
theorem Wi:EN 52:=en Tryd.func52
theorem Wa (x0:Ab) (x1:Int) (x2:List Int) (r:Ab) (h:Js x0 x1 x2=some r):CO 50 [.d (.o 0 0),.d (I x1),.d (DS pI x2)] [.box 79 [I x0.time,I x0.weather.Wind.From,I x0.weather.Wind.Speed,I x0.weather.Current.From,I x0.weather.Current.Speed,I x0.weather.Wave.From,I x0.weather.Wave.Speed,I x0.heading,I x0.next.Weather.Wind.From,I x0.next.Weather.Wind.Speed,I x0.next.Weather.Current.From,I x0.next.Weather.Current.Speed,I x0.next.Weather.Wave.From,I x0.next.Weather.Wave.Speed,I x0.next.Heading,.os 1,.os 2,.os 3,I x0.next.Request,.os 4,.os 5],v2_ x0.next.Sights,v3_ x0.next.Acts,v4_ x0.next.Faults,v0_ x0.next.Seen,v1_ x0.out] (.tup []) [.box 79 [I r.time,I r.weather.Wind.From,I r.weather.Wind.Speed,I r.weather.Current.From,I r.weather.Current.Speed,I r.weather.Wave.From,I r.weather.Wave.Speed,I r.heading,I r.next.Weather.Wind.From,I r.next.Weather.Wind.Speed,I r.next.Weather.Current.From,I r.next.Weather.Current.Speed,I r.next.Weather.Wave.From,I r.next.Weather.Wave.Speed,I r.next.Heading,.os 1,.os 2,.os 6,I r.next.Request,.os 4,.os 5],v2_ r.next.Sights,v3_ r.next.Acts,.non,v0_ r.next.Seen,v1_ r.out,v4_ r.next.Faults]:=by
 unfold Js at h
 refine co 26 Tryd.func50 λ C hC=>?_
 obtain⟨y1,h2,y3,h4,y5,h6,h⟩:=G6 h
 replace h:=sI h
 subst h
 exact wf n3_ 21 [] [pr pI h2,pr pI h4,pa q94 4 h6] [] 6 n7_ hC []
theorem Wk:EN 50:=en Tryd.func50
theorem Wc (x0:Ab) (x1:List Int) (r:Ab) (h:Ju x0 x1=some r):CO 48 [.d (.o 0 0),.d (DS pI x1)] [.box 79 [I x0.time,I x0.weather.Wind.From,I x0.weather.Wind.Speed,I x0.weather.Current.From,I x0.weather.Current.Speed,I x0.weather.Wave.From,I x0.weather.Wave.Speed,I x0.heading,I x0.next.Weather.Wind.From,I x0.next.Weather.Wind.Speed,I x0.next.Weather.Current.From,I x0.next.Weather.Current.Speed,I x0.next.Weather.Wave.From,I x0.next.Weather.Wave.Speed,I x0.next.Heading,.os 1,.os 2,.os 3,I x0.next.Request,.os 4,.os 5],v2_ x0.next.Sights,v3_ x0.next.Acts,v4_ x0.next.Faults,v0_ x0.next.Seen,v1_ x0.out] (.tup []) [.box 79 [I r.time,I r.weather.Wind.From,I r.weather.Wind.Speed,I r.weather.Current.From,I r.weather.Current.Speed,I r.weather.Wave.From,I r.weather.Wave.Speed,I r.heading,I r.next.Weather.Wind.From,I r.next.Weather.Wind.Speed,I r.next.Weather.Current.From,I r.next.Weather.Current.Speed,I r.next.Weather.Wave.From,I r.next.Weather.Wave.Speed,I r.next.Heading,.os 1,.os 6,.os 3,I r.next.Request,.os 4,.os 5],v2_ r.next.Sights,.non,v4_ r.next.Faults,v0_ r.next.Seen,v1_ r.out,v3_ r.next.Acts]:=by
 unfold Ju at h
 refine co 25 Tryd.func48 λ C hC=>?_
 obtain⟨y1,h2,y3,h4,y5,h6,y7,h8,h⟩:=Ls h
 replace h:=sI h
 subst h
 exact wf [0,1] 21 [] [pr pI h2,pr pI h4,pr pI h6,pa q90 3 h8] [] 6 n7_ hC []
theorem Wm:EN 48:=en Tryd.func48
theorem k7 (x0:List Int) (r:Af) (h:F7 x0=some r):CO 7 [.d (DS pI x0)] [] (.d (.o 0 0)) [.box 53 (d53 r)]:=by
 unfold F7 at h
 refine co 10 Tryd.func7 λ C hC=>?_
 obtain⟨y2,h1,h⟩:=Ai h
 replace h:=sI h
 subst h
 exact wr [0,2] 25 [] [pl pI x0,⟨.cut (x0.map pI) 1 0 (min (ln x0) 600) (y2.map pI),Qw pI 1 (λ _=>rfl) h1⟩] [] 0 [0] hC []
theorem e7:EN 7:=en Tryd.func7
theorem k24 (x0:Int) (x1:Int) (r:Int) (h:F24 x0 x1=some r):CO 24 [.d (I x0),.d (I x1)] [] (.d (I r)) []:=by
 unfold F24 at h
 refine co 14 Tryd.func24 λ C hC=>?_
 rcases cB h with⟨h1,h⟩ | ⟨h1,h⟩
 ·replace h:=sI h
  subst h
  exact wr [0,1,4,6] 29 [true] [] [] 0 [] hC [pq h1]
 ·obtain⟨u3,h2,u5,h4,h⟩:=Bc h
  replace h:=sI h
  subst h
  exact wr [0,1,4,6] 30 [false] [⟨.nz x1,K9 h2⟩,⟨.nz x1,K9 h4⟩] [] 0 [] hC [pq h1]
theorem e24:EN 24:=en Tryd.func24
def Cg:List Nat:=[0,1,4,5,6,7,8,9,10,11,16,18,19,20,84,87,88,89,101,105,106,107,119,123,124,125,137,141,142,143,155]
def N2 (x0:List Ad) (x1:List Ad) (n0:Nat) (z0:Unit):St:=[(0,.d (DS q50 x0)),(1,.d (DS q50 x1)),(4,dB false),(18,dI (ln x0)),(19,dI (cnt 0 n0))]
def Sl  (n0:Nat) (z0:Unit):List Res:=[]
def Tf  (z0:Unit):St:=[(4,dB false)]
def Ul  (z0:Unit):List Res:=[]
def N1 (x0:List Ad) (x1:List Ad) (n0:Nat) (a0:Ad) (z1:Int):St:=[(0,.d (DS q50 x0)),(1,.d (DS q50 x1)),(4,dB false),(6,dO 0 0),(7,dO 1 0),(18,dI (ln x0)),(19,dI (cnt 0 n0)),(87,dI (ln a0.Sights)),(88,dI z1)]
def Sk (a0:Ad) (y2:Ad) (z1:Int):List Res:=[.box 50 (d50 a0),.box 50 (d50 y2)]
def Te (x0:List Ad) (x1:List Ad) (n0:Nat) (z1:Int):St:=[(0,.d (DS q50 x0)),(1,.d (DS q50 x1)),(4,dB false),(6,dO 0 0),(7,dO 1 0),(18,dI (ln x0)),(19,dI (cnt 0 n0))]
def Uk (a0:Ad) (y2:Ad) (z1:Int):List Res:=[.box 50 (d50 a0),.box 50 (d50 y2)]
def N0 (x0:List Ad) (x1:List Ad) (n0:Nat) (a0:Ad) (z2:Int):St:=[(0,.d (DS q50 x0)),(1,.d (DS q50 x1)),(4,dB false),(6,dO 0 0),(7,dO 1 0),(18,dI (ln x0)),(19,dI (cnt 0 n0)),(105,dI (ln a0.Acts)),(106,dI z2)]
def Sj (a0:Ad) (y2:Ad) (z2:Int):List Res:=[.box 50 (d50 a0),.box 50 (d50 y2)]
def Td (x0:List Ad) (x1:List Ad) (n0:Nat) (z2:Int):St:=[(0,.d (DS q50 x0)),(1,.d (DS q50 x1)),(4,dB false),(6,dO 0 0),(7,dO 1 0),(18,dI (ln x0)),(19,dI (cnt 0 n0))]
def Uj (a0:Ad) (y2:Ad) (z2:Int):List Res:=[.box 50 (d50 a0),.box 50 (d50 y2)]
def Nz (x0:List Ad) (x1:List Ad) (n0:Nat) (a0:Ad) (z3:Int):St:=[(0,.d (DS q50 x0)),(1,.d (DS q50 x1)),(4,dB false),(6,dO 0 0),(7,dO 1 0),(18,dI (ln x0)),(19,dI (cnt 0 n0)),(123,dI (ln a0.Faults)),(124,dI z3)]
def Si (a0:Ad) (y2:Ad) (z3:Int):List Res:=[.box 50 (d50 a0),.box 50 (d50 y2)]
def Tc (x0:List Ad) (x1:List Ad) (n0:Nat) (z3:Int):St:=[(0,.d (DS q50 x0)),(1,.d (DS q50 x1)),(4,dB false),(6,dO 0 0),(7,dO 1 0),(18,dI (ln x0)),(19,dI (cnt 0 n0))]
def Ui (a0:Ad) (y2:Ad) (z3:Int):List Res:=[.box 50 (d50 a0),.box 50 (d50 y2)]
def Ny (x0:List Ad) (x1:List Ad) (n0:Nat) (a0:Ad) (z4:Int):St:=[(0,.d (DS q50 x0)),(1,.d (DS q50 x1)),(4,dB false),(6,dO 0 0),(7,dO 1 0),(18,dI (ln x0)),(19,dI (cnt 0 n0)),(141,dI (ln a0.Seen)),(142,dI z4)]
def Sg (a0:Ad) (y2:Ad) (z4:Int):List Res:=[.box 50 (d50 a0),.box 50 (d50 y2)]
def Tb (x0:List Ad) (x1:List Ad) (n0:Nat) (z4:Int):St:=[(0,.d (DS q50 x0)),(1,.d (DS q50 x1)),(4,dB false),(18,dI (ln x0)),(19,dI (cnt 0 n0))]
def Uh  (z4:Int):List Res:=[]
set_option maxHeartbeats 4000000 in
theorem k14 (x0 : List Ad) (x1 : List Ad) (r : Bool) (h : F14 x0 x1 = some r) : CO 14 [.d (DS q50 x0), .d (DS q50 x1)] [] (.d (Bo r)) [] := by
 unfold F14 at h
 refine co 158 Tryd.func14 λ C hC=>?_
 rcases cB h with⟨h1,h⟩ | ⟨h1,h⟩
 ·replace h:=sI h
  subst h
  exact wr Cg 29 [true] [pl q50 x0,pl q50 x1] [] 0 [] hC [pq h1]
 ·refine ws Cg 31 [false] [pl q50 x0, pl q50 x1, pl q50 x0] [] 0 [] (N2 x0 x1 0 ()) (Sl 0 ()) hC [pq h1] ?_
  obtain⟨w0,hm0,hret0,hnext0⟩:=Ap h
  clear h
  refine wc w0 (Tf) (Ul) ?_ λ z0 hs0=>?_
  ·refine wb ?_
   refine Ge 0 rfl λ hl0=>?_
   refine wl (N2 x0 x1) (Sl) hm0 (λ z0 hn0=>?_) λ n0 a0 z0 w0b hi0 hx0 h hb0 hr0=>?_
   ·clear hm0
    exact wx w0 (Tf) (Ul) Cg 26 [false] [] [] 0 [] _ hC [pq (Dx hl0)] hn0
   ·unfold Pz at h
    obtain⟨y2,h3,h⟩:=Ai h
    refine wn Cg 35 [true] [⟨.flts [.box 50 [I 0,I 0,I 0,I 0,I 0,I 0,I 0,.p (.v (.slice none 0 0)),.p (.v (.slice none 0 0)),.p (.v (.slice none 0 0)),I 0,.p (.v (.slice none 0 0))],.box 50 [I 0,I 0,I 0,I 0,I 0,I 0,I 0,.p (.v (.slice none 0 0)),.p (.v (.slice none 0 0)),.p (.v (.slice none 0 0)),I 0,.p (.v (.slice none 0 0))]],trivial⟩,pt hx0 hl0,pr q50 h3,⟨.flt 0 (.box 50 [I 0,I 0,I 0,I 0,I 0,I 0,I 0,.p (.v (.slice none 0 0)),.p (.v (.slice none 0 0)),.p (.v (.slice none 0 0)),I 0,.p (.v (.slice none 0 0))]) (.box 50 [I 0,I 0,I 0,I 0,I 0,I 0,I 0,.p (.v (.slice none 0 0)),.p (.v (.slice none 0 0)),.p (.v (.slice none 0 0)),I 0,.p (.v (.slice none 0 0))]),rfl⟩,⟨.flt 1 (.box 50 [I 0,I 0,I 0,I 0,I 0,I 0,I 0,.p (.v (.slice none 0 0)),.p (.v (.slice none 0 0)),.p (.v (.slice none 0 0)),I 0,.p (.v (.slice none 0 0))]) (.box 50 [I 0,I 0,I 0,I 0,I 0,I 0,I 0,.p (.v (.slice none 0 0)),.p (.v (.slice none 0 0)),.p (.v (.slice none 0 0)),I 0,.p (.v (.slice none 0 0))]),rfl⟩,pL_ [((((!(((a0.Weather.Wind.From==y2.Weather.Wind.From)&&((a0.Weather.Wind.Speed==y2.Weather.Wind.Speed)&&true))&&(((a0.Weather.Current.From==y2.Weather.Current.From)&&((a0.Weather.Current.Speed==y2.Weather.Current.Speed)&&true))&&(((a0.Weather.Wave.From==y2.Weather.Wave.From)&&((a0.Weather.Wave.Speed==y2.Weather.Wave.Speed)&&true))&&true)))) || (a0.Heading != y2.Heading)) || (a0.Request != y2.Request)),false)] q88 a0.Sights,pL_ [((((!(((a0.Weather.Wind.From==y2.Weather.Wind.From)&&((a0.Weather.Wind.Speed==y2.Weather.Wind.Speed)&&true))&&(((a0.Weather.Current.From==y2.Weather.Current.From)&&((a0.Weather.Current.Speed==y2.Weather.Current.Speed)&&true))&&(((a0.Weather.Wave.From==y2.Weather.Wave.From)&&((a0.Weather.Wave.Speed==y2.Weather.Wave.Speed)&&true))&&true)))) || (a0.Heading != y2.Heading)) || (a0.Request != y2.Request)),false)] q88 y2.Sights,pL_ [(((((!(((a0.Weather.Wind.From==y2.Weather.Wind.From)&&((a0.Weather.Wind.Speed==y2.Weather.Wind.Speed)&&true))&&(((a0.Weather.Current.From==y2.Weather.Current.From)&&((a0.Weather.Current.Speed==y2.Weather.Current.Speed)&&true))&&(((a0.Weather.Wave.From==y2.Weather.Wave.From)&&((a0.Weather.Wave.Speed==y2.Weather.Wave.Speed)&&true))&&true)))) || (a0.Heading != y2.Heading)) || (a0.Request != y2.Request)) || ((ln a0.Sights) != (ln y2.Sights))),false)] q90 a0.Acts,pL_ [(((((!(((a0.Weather.Wind.From==y2.Weather.Wind.From)&&((a0.Weather.Wind.Speed==y2.Weather.Wind.Speed)&&true))&&(((a0.Weather.Current.From==y2.Weather.Current.From)&&((a0.Weather.Current.Speed==y2.Weather.Current.Speed)&&true))&&(((a0.Weather.Wave.From==y2.Weather.Wave.From)&&((a0.Weather.Wave.Speed==y2.Weather.Wave.Speed)&&true))&&true)))) || (a0.Heading != y2.Heading)) || (a0.Request != y2.Request)) || ((ln a0.Sights) != (ln y2.Sights))),false)] q90 y2.Acts,pL_ [((((((!(((a0.Weather.Wind.From==y2.Weather.Wind.From)&&((a0.Weather.Wind.Speed==y2.Weather.Wind.Speed)&&true))&&(((a0.Weather.Current.From==y2.Weather.Current.From)&&((a0.Weather.Current.Speed==y2.Weather.Current.Speed)&&true))&&(((a0.Weather.Wave.From==y2.Weather.Wave.From)&&((a0.Weather.Wave.Speed==y2.Weather.Wave.Speed)&&true))&&true)))) || (a0.Heading != y2.Heading)) || (a0.Request != y2.Request)) || ((ln a0.Sights) != (ln y2.Sights))) || ((ln a0.Acts) != (ln y2.Acts))),false)] q94 a0.Faults,pL_ [((((((!(((a0.Weather.Wind.From==y2.Weather.Wind.From)&&((a0.Weather.Wind.Speed==y2.Weather.Wind.Speed)&&true))&&(((a0.Weather.Current.From==y2.Weather.Current.From)&&((a0.Weather.Current.Speed==y2.Weather.Current.Speed)&&true))&&(((a0.Weather.Wave.From==y2.Weather.Wave.From)&&((a0.Weather.Wave.Speed==y2.Weather.Wave.Speed)&&true))&&true)))) || (a0.Heading != y2.Heading)) || (a0.Request != y2.Request)) || ((ln a0.Sights) != (ln y2.Sights))) || ((ln a0.Acts) != (ln y2.Acts))),false)] q94 y2.Faults,pL_ [(((((((!(((a0.Weather.Wind.From==y2.Weather.Wind.From)&&((a0.Weather.Wind.Speed==y2.Weather.Wind.Speed)&&true))&&(((a0.Weather.Current.From==y2.Weather.Current.From)&&((a0.Weather.Current.Speed==y2.Weather.Current.Speed)&&true))&&(((a0.Weather.Wave.From==y2.Weather.Wave.From)&&((a0.Weather.Wave.Speed==y2.Weather.Wave.Speed)&&true))&&true)))) || (a0.Heading != y2.Heading)) || (a0.Request != y2.Request)) || ((ln a0.Sights) != (ln y2.Sights))) || ((ln a0.Acts) != (ln y2.Acts))) || ((ln a0.Faults) != (ln y2.Faults))),false)] pI a0.Seen,pL_ [(((((((!(((a0.Weather.Wind.From==y2.Weather.Wind.From)&&((a0.Weather.Wind.Speed==y2.Weather.Wind.Speed)&&true))&&(((a0.Weather.Current.From==y2.Weather.Current.From)&&((a0.Weather.Current.Speed==y2.Weather.Current.Speed)&&true))&&(((a0.Weather.Wave.From==y2.Weather.Wave.From)&&((a0.Weather.Wave.Speed==y2.Weather.Wave.Speed)&&true))&&true)))) || (a0.Heading != y2.Heading)) || (a0.Request != y2.Request)) || ((ln a0.Sights) != (ln y2.Sights))) || ((ln a0.Acts) != (ln y2.Acts))) || ((ln a0.Faults) != (ln y2.Faults))),false)] pI y2.Seen] [] 0 [0,1] [0,1,4,6,7,18,19,84] hC [pq (Ax hi0 hl0)] ?_
    rcases cB h with⟨h4,h⟩ | ⟨h4,h⟩
    ·have hq:=hret0 _ (hr0 _ (sI h).symm)
     replace hq:=sI hq
     subst hq
     exact wr Cg 24 [true] [] [] 0 [] hC [pq h4]
    ·refine ws Cg 26 [false] [pl q88 a0.Sights] [] 0 [0,1] (N1 x0 x1 n0 a0 0) (Sk a0 y2 0) hC [pq h4] ?_
     obtain⟨w1,hm1,hret1,hnext1⟩:=Ap h
     clear h
     refine wc w1 (Te x0 x1 n0) (Uk a0 y2) ?_ λ z1 hs1=>?_
     ·refine wb ?_
      refine ww (N1 x0 x1 n0 a0) (Sk a0 y2) hm1 λ z1 w1b h hb1 hr1=>?_
      unfold I5 at h
      rcases cB h with⟨h5,h⟩ | ⟨h5,h⟩
      ·obtain⟨y6,h7,y8,h9,h⟩:=Bc h
       rcases cB h with⟨h10,h⟩ | ⟨h10,h⟩
       ·have hq:=hret1 _ (hr1 _ (sI h).symm)
        replace hq:=hret0 _ (hr0 _ (sI hq).symm)
        replace hq:=sI hq
        subst hq
        exact wr Cg 35 [true,true] [pr q88 h7,pr q88 h9] [] 0 [] hC [pq h5,pq h10]
       ·exact wx w1b (N1 x0 x1 n0 a0) (Sk a0 y2) Cg 36 [true,false] [pr q88 h7,pr q88 h9] [] 0 [0,1] _ hC [pq h5,pq h10] (sI h).symm
      ·exact wx w1 (Te x0 x1 n0) (Uk a0 y2) Cg 26 [false] [] [] 0 [0,1] z1 hC [pq h5] (hb1 _ (sI h).symm)
     ·have h := hnext1 _ hs1
      refine ws Cg 24 [] [pl q90 a0.Acts] [] 0 [0,1] (N0 x0 x1 n0 a0 0) (Sj a0 y2 0) hC [] ?_
      obtain⟨w2,hm2,hret2,hnext2⟩:=Ap h
      clear h
      refine wc w2 (Td x0 x1 n0) (Uj a0 y2) ?_ λ z2 hs2=>?_
      ·refine wb ?_
       refine ww (N0 x0 x1 n0 a0) (Sj a0 y2) hm2 λ z2 w2b h hb2 hr2=>?_
       unfold I4 at h
       rcases cB h with⟨h11,h⟩ | ⟨h11,h⟩
       ·obtain⟨y12,h13,y14,h15,h⟩:=Bc h
        rcases cB h with⟨h16,h⟩ | ⟨h16,h⟩
        ·have hq:=hret2 _ (hr2 _ (sI h).symm)
         replace hq:=hret0 _ (hr0 _ (sI hq).symm)
         replace hq:=sI hq
         subst hq
         exact wr Cg 35 [true,true] [pr q90 h13,pr q90 h15] [] 0 [] hC [pq h11,pq h16]
        ·exact wx w2b (N0 x0 x1 n0 a0) (Sj a0 y2) Cg 36 [true,false] [pr q90 h13,pr q90 h15] [] 0 [0,1] _ hC [pq h11,pq h16] (sI h).symm
       ·exact wx w2 (Td x0 x1 n0) (Uj a0 y2) Cg 26 [false] [] [] 0 [0,1] z2 hC [pq h11] (hb2 _ (sI h).symm)
      ·have h:=hnext2 _ hs2
       refine ws Cg 24 [] [pl q94 a0.Faults] [] 0 [0,1] (Nz x0 x1 n0 a0 0) (Si a0 y2 0) hC [] ?_
       obtain⟨w3,hm3,hret3,hnext3⟩:=Ap h
       clear h
       refine wc w3 (Tc x0 x1 n0) (Ui a0 y2) ?_ λ z3 hs3=>?_
       ·refine wb ?_
        refine ww (Nz x0 x1 n0 a0) (Si a0 y2) hm3 λ z3 w3b h hb3 hr3=>?_
        unfold I3 at h
        rcases cB h with⟨h17,h⟩ | ⟨h17,h⟩
        ·obtain⟨y18,h19,y20,h21,h⟩:=Bc h
         rcases cB h with⟨h22,h⟩ | ⟨h22,h⟩
         ·have hq:=hret3 _ (hr3 _ (sI h).symm)
          replace hq:=hret0 _ (hr0 _ (sI hq).symm)
          replace hq:=sI hq
          subst hq
          exact wr Cg 35 [true,true] [pr q94 h19,pr q94 h21] [] 0 [] hC [pq h17,pq h22]
         ·exact wx w3b (Nz x0 x1 n0 a0) (Si a0 y2) Cg 36 [true,false] [pr q94 h19,pr q94 h21] [] 0 [0,1] _ hC [pq h17,pq h22] (sI h).symm
        ·exact wx w3 (Tc x0 x1 n0) (Ui a0 y2) Cg 26 [false] [] [] 0 [0,1] z3 hC [pq h17] (hb3 _ (sI h).symm)
       ·have h:=hnext3 _ hs3
        refine ws Cg 23 [] [pl pI a0.Seen] [] 0 [0,1] (Ny x0 x1 n0 a0 0) (Sg a0 y2 0) hC [] ?_
        obtain⟨w4,hm4,hret4,hnext4⟩:=Ap h
        clear h
        refine wc w4 (Tb x0 x1 n0) (Uh) ?_ λ z4 hs4=>?_
        ·refine wb ?_
         refine ww (Ny x0 x1 n0 a0) (Sg a0 y2) hm4 λ z4 w4b h hb4 hr4=>?_
         unfold I2 at h
         rcases cB h with⟨h23,h⟩ | ⟨h23,h⟩
         ·obtain⟨y24,h25,y26,h27,h⟩:=Bc h
          rcases cB h with⟨h28,h⟩ | ⟨h28,h⟩
          ·have hq:=hret4 _ (hr4 _ (sI h).symm)
           replace hq:=hret0 _ (hr0 _ (sI hq).symm)
           replace hq:=sI hq
           subst hq
           exact wr Cg 35 [true,true] [pr pI h25,pr pI h27] [] 0 [] hC [pq h23,pq h28]
          ·exact wx w4b (Ny x0 x1 n0 a0) (Sg a0 y2) Cg 36 [true,false] [pr pI h25,pr pI h27] [] 0 [0,1] _ hC [pq h23,pq h28] (sI h).symm
         ·exact wx w4 (Tb x0 x1 n0) (Uh) Cg 26 [false] [] [] 0 [] z4 hC [pq h23] (hb4 _ (sI h).symm)
        ·have h:=hnext4 _ hs4
         exact wx w0b (N2 x0 x1 (n0+1)) (Sl (n0+1)) Cg 23 [] [] [] 0 [] _ hC [] (sI h).symm
  ·have h:=hnext0 _ hs0
   replace h:=sI h
   subst h
   exact wr Cg 23 [] [] [] 0 [] hC []
theorem e14:EN 14:=en Tryd.func14
theorem Yd (x0:Int) (h1:Gm x0=true):CO 26 [.d (I x0)] [] (.tup [.agg [.p (.v (.string ByteArray.empty)),I 0,.p (.v .nilFunc)],.d (Bo false)]) []:=by
 refine co 20 Tryd.func26 λ C hC=>?_
 exact wr [0,2,3,4,13] 31 [true] [pc e38 (k38 _ rfl) [],pL_ [(decide (x0<1),false)] q82 F38] [] 0 [] hC [pq h1]
theorem Di (x0:Int) (r:Aq) (h1:Gm x0=false) (h:getI F38 (w64 (x0-1))=some r):CO 26 [.d (I x0)] [] (.tup [.agg (d82 r),.d (Bo true)]) []:=by
 refine co 20 Tryd.func26 λ C hC=>?_
 exact wr [0,2,3,4,13] 32 [false] [pc e38 (k38 _ rfl) [],pL_ [(decide (x0<1),false)] q82 F38,pr q82 h] [] 0 [] hC [pq h1]
theorem e26:EN 26:=en Tryd.func26
theorem V_ (x0:Ab) (x1:List Int) (r:Ab) (h:Jr x0 x1=some r):CO 51 [.d (.o 0 0),.d (DS pI x1)] [.box 79 [I x0.time,I x0.weather.Wind.From,I x0.weather.Wind.Speed,I x0.weather.Current.From,I x0.weather.Current.Speed,I x0.weather.Wave.From,I x0.weather.Wave.Speed,I x0.heading,I x0.next.Weather.Wind.From,I x0.next.Weather.Wind.Speed,I x0.next.Weather.Current.From,I x0.next.Weather.Current.Speed,I x0.next.Weather.Wave.From,I x0.next.Weather.Wave.Speed,I x0.next.Heading,.os 1,.os 2,.os 3,I x0.next.Request,.os 4,.os 5],v2_ x0.next.Sights,v3_ x0.next.Acts,v4_ x0.next.Faults,v0_ x0.next.Seen,v1_ x0.out] (.tup []) [.box 79 [I r.time,I r.weather.Wind.From,I r.weather.Wind.Speed,I r.weather.Current.From,I r.weather.Current.Speed,I r.weather.Wave.From,I r.weather.Wave.Speed,I r.heading,I r.next.Weather.Wind.From,I r.next.Weather.Wind.Speed,I r.next.Weather.Current.From,I r.next.Weather.Current.Speed,I r.next.Weather.Wave.From,I r.next.Weather.Wave.Speed,I r.next.Heading,.os 1,.os 2,.os 6,I r.next.Request,.os 4,.os 5],v2_ r.next.Sights,v3_ r.next.Acts,.non,v0_ r.next.Seen,v1_ r.out,v4_ r.next.Faults]:=by
 unfold Jr at h
 refine co 7 Tryd.func51 λ C hC=>?_
 obtain⟨y1,h2,h⟩:=Ai h
 replace h:=sI h
 subst h
 exact wf [0,1] 21 [] [pc Wk (Wa x0 2 x1 _ h2) n6_] [] 6 n7_ hC []
theorem Wj:EN 51:=en Tryd.func51
theorem Wb (x0:Ab) (x1:List Int) (r:Ab) (h:Jt x0 x1=some r):CO 49 [.d (.o 0 0),.d (DS pI x1)] [.box 79 [I x0.time,I x0.weather.Wind.From,I x0.weather.Wind.Speed,I x0.weather.Current.From,I x0.weather.Current.Speed,I x0.weather.Wave.From,I x0.weather.Wave.Speed,I x0.heading,I x0.next.Weather.Wind.From,I x0.next.Weather.Wind.Speed,I x0.next.Weather.Current.From,I x0.next.Weather.Current.Speed,I x0.next.Weather.Wave.From,I x0.next.Weather.Wave.Speed,I x0.next.Heading,.os 1,.os 2,.os 3,I x0.next.Request,.os 4,.os 5],v2_ x0.next.Sights,v3_ x0.next.Acts,v4_ x0.next.Faults,v0_ x0.next.Seen,v1_ x0.out] (.tup []) [.box 79 [I r.time,I r.weather.Wind.From,I r.weather.Wind.Speed,I r.weather.Current.From,I r.weather.Current.Speed,I r.weather.Wave.From,I r.weather.Wave.Speed,I r.heading,I r.next.Weather.Wind.From,I r.next.Weather.Wind.Speed,I r.next.Weather.Current.From,I r.next.Weather.Current.Speed,I r.next.Weather.Wave.From,I r.next.Weather.Wave.Speed,I r.next.Heading,.os 1,.os 2,.os 6,I r.next.Request,.os 4,.os 5],v2_ r.next.Sights,v3_ r.next.Acts,.non,v0_ r.next.Seen,v1_ r.out,v4_ r.next.Faults]:=by
 unfold Jt at h
 refine co 7 Tryd.func49 λ C hC=>?_
 obtain⟨y1,h2,h⟩:=Ai h
 replace h:=sI h
 subst h
 exact wf [0,1] 21 [] [pc Wk (Wa x0 1 x1 _ h2) n6_] [] 6 n7_ hC []
theorem Wl:EN 49:=en Tryd.func49
theorem k12 (x0:Af) (x1:Int) (r:Int×Af) (h:F12 x0 x1=some r):CO 12 [.d (.o 0 0),.d (I x1)] [.box 53 (d53 x0)] (.d (I r.1)) [.box 53 (d53 r.2)]:=by
 unfold F12 at h
 refine co 35 Tryd.func12 λ C hC=>?_
 rcases cB h with⟨h1,h⟩ | ⟨h1,h⟩
 ·replace h:=sI h
  subst h
  exact wr [0,1,4,14] 29 [true] [pl pI x0.L] [] 1 [0] hC [pq h1]
 ·obtain⟨y2,h3,y4,h5,h⟩:=Bc h
  replace h:=sI h
  subst h
  exact wr [0,1,4,14] 32 [false] [pl pI x0.L,pr pI h3,pc e24 (k24 y2 x1 _ h5) []] [] 1 [0] hC [pq h1]
theorem e12:EN 12:=en Tryd.func12
theorem k31 (x0:Ac) (r:Bool) (h:F31 x0=some r):CO 31 [.agg (d36 x0)] [] (.d (Bo r)) []:=by
 unfold F31 at h
 refine co 44 Tryd.func31 λ C hC=>?_
 rcases cB h with⟨h1,h⟩ | ⟨h1,h⟩
 ·obtain⟨y2,h3,h⟩:=Ai h
  replace h:=sI h
  subst h
  exact wr [0,1,2,3,4,26] 31 [true] [pc e26 (Yd x0.Kind h1) [],pL_ [(true,false)] pI x0.Numbers,pw e43 (λ hg=>k43 1000000000 x0.Numbers _ (Bg h3 hg)) []] [] 0 [] hC [⟨(true,true),rfl⟩]
 ·obtain⟨y4,h5,y6,h7,h⟩:=Bc h
  refine wn [0,1,2,3,4,26] 28 [] [pc e26 (Di x0.Kind y4 h1 h5) [],pL_ [(false,false)] pI x0.Numbers,pw e43 (λ hg=>k43 1000000000 x0.Numbers _ (Bg h7 hg)) []] [] 0 [0] [1,2,26] hC [] ?_
  rcases cB h with⟨h8,h⟩ | ⟨h8,h⟩
  ·replace h:=sI h
   subst h
   exact wr [0,1,2,3,4,26] 24 [true] [] [] 0 [] hC [pq h8]
  ·obtain⟨y9,h10,y11,h12,h⟩:=Bc h
   replace h:=sI h
   subst h
   exact wr [0,1,2,3,4,26] 25 [false] [pR pI h10,pR pI h12] [] 0 [] hC [pq h8]
theorem e31:EN 31:=en Tryd.func31
def Il:List Nat:=[0,1,2,3,5,7,18,19,20,21]
def Nw (x0:Ac) (n0:Nat) (z0:(List ByteArray)):St:=[(2,.d (.p (.v (.string (⟨#[]⟩:ByteArray))))),(5,dS 0),(18,.d (DS pI x0.Numbers)),(19,dI (ln x0.Numbers)),(20,dI (cnt 0 n0))]
def Se  (n0:Nat) (z0:(List ByteArray)):List Res:=[.sl 9 1 (z0.map pS)]
def S_  (z0:(List ByteArray)):St:=[(2,.d (.p (.v (.string (⟨#[]⟩:ByteArray))))),(5,dS 0)]
def Uf  (z0:(List ByteArray)):List Res:=[.sl 9 1 (z0.map pS)]
def Nv (x0:Ac) (n1:Nat) (z1:(List ByteArray)):St:=[(2,.d (.p (.v (.string (⟨#[]⟩:ByteArray))))),(5,dS 0),(18,.d (DS pI x0.Numbers)),(19,dI (ln x0.Numbers)),(20,dI (cnt 0 n1))]
def Sd  (n1:Nat) (z1:(List ByteArray)):List Res:=[.sl 9 1 (z1.map pS)]
def S9  (z1:(List ByteArray)):St:=[(2,.d (.p (.v (.string (⟨#[]⟩:ByteArray))))),(5,dS 0)]
def Ue  (z1:(List ByteArray)):List Res:=[.sl 9 1 (z1.map pS)]
theorem k18 (x0:Ac) (r:ByteArray) (h:F18 x0=some r):CO 18 [.agg (d36 x0)] [] (.d (.p (.v (.string r)))) []:=by
 unfold F18 at h
 refine co 33 Tryd.func18 λ C hC=>?_
 rcases cB h with⟨h1,h⟩ | ⟨h1,h⟩
 ·refine ws Il 30 [] [pc e26 (Yd x0.Kind h1) [],⟨.own,trivial⟩,pl pI x0.Numbers] [] 0 [2] (Nw x0 0 [ByteArray.empty]) (Se 0 [ByteArray.empty]) hC [] ?_
  obtain⟨w0,hm0,hret0,hnext0⟩:=Ap h
  clear h
  refine wc w0 (S_) (Uf) ?_ λ z0 hs0=>?_
  ·refine wb ?_
   refine Ge 18 rfl λ hl0=>?_
   refine wl (Nw x0) (Se) hm0 (λ z0 hn0=>?_) λ n0 a0 z0 w0b hi0 hx0 h hb0 hr0=>?_
   ·clear hm0
    exact wx w0 (S_) (Uf) Il 26 [false] [] [] 0 [0] _ hC [pq (Dx hl0)] hn0
   ·unfold Uo at h
    obtain⟨y2,h3,y4,h5,h⟩:=Bc h
    exact wx w0b (Nw x0 (n0+1)) (Se (n0+1)) Il 33 [true] [pt hx0 hl0,pc e33 (k33 a0 _ h3) [],pa pS 1 h5] [] 0 [1] _ hC [pq (Ax hi0 hl0)] (sI h).symm
  ·have h:=hnext0 _ hs0
   obtain⟨y6,h7,u9,h8,h⟩:=Bc h
   replace h:=sI h
   subst h
   exact wr Il 23 [] [pb e34 (k34 z0 (⟨#[32]⟩:ByteArray) _ h7),⟨.nz (Mg y6 (⟨#[10]⟩:ByteArray)),K9 h8⟩] [] 0 [] hC []
 ·obtain⟨y10,h11,h⟩:=Ai h
  refine ws Il 30 [] [pc e26 (Di x0.Kind y10 h1 h11) [],⟨.own,trivial⟩,pl pI x0.Numbers] [] 0 [2] (Nv x0 0 [y10.word]) (Sd 0 [y10.word]) hC [] ?_
  obtain⟨w1,hm1,hret1,hnext1⟩:=Ap h
  clear h
  refine wc w1 (S9) (Ue) ?_ λ z1 hs1=>?_
  ·refine wb ?_
   refine Ge 18 rfl λ hl1=>?_
   refine wl (Nv x0) (Sd) hm1 (λ z1 hn1=>?_) λ n1 a1 z1 w1b hi1 hx1 h hb1 hr1=>?_
   ·clear hm1
    exact wx w1 (S9) (Ue) Il 26 [false] [] [] 0 [0] _ hC [pq (Dx hl1)] hn1
   ·unfold Un at h
    obtain⟨y12,h13,y14,h15,h⟩:=Bc h
    exact wx w1b (Nv x0 (n1+1)) (Sd (n1+1)) Il 33 [true] [pt hx1 hl1,pc e33 (k33 a1 _ h13) [],pa pS 1 h15] [] 0 [1] _ hC [pq (Ax hi1 hl1)] (sI h).symm
  ·have h:=hnext1 _ hs1
   obtain⟨y16,h17,u19,h18,h⟩:=Bc h
   replace h:=sI h
   subst h
   exact wr Il 23 [] [pb e34 (k34 z1 (⟨#[32]⟩:ByteArray) _ h17),⟨.nz (Mg y16 (⟨#[10]⟩:ByteArray)),K9 h18⟩] [] 0 [] hC []
theorem k27 (x0:Af) (x1:Int) (x2:Int) (r:Int×Af) (h:F27 x0 x1 x2=some r):CO 27 [.d (.o 0 0),.d (I x1),.d (I x2)] [.box 53 (d53 x0)] (.d (I r.1)) [.box 53 (d53 r.2)]:=by
 unfold F27 at h
 refine co 15 Tryd.func27 λ C hC=>?_
 obtain⟨y1,h2,h⟩:=Ai h
 replace h:=sI h
 subst h
 exact wr [0,1,2,6] 25 [] [pc e12 (k12 x0 (w64 ((w64 (x2-x1))+1)) _ h2) [0]] [] 1 [0] hC []
theorem e27:EN 27:=en Tryd.func27
theorem k28 (x0:Af) (x1:List Int) (r:Int×Af) (h:F28 x0 x1=some r):CO 28 [.d (.o 0 0),.d (DS pI x1)] [.box 53 (d53 x0)] (.d (I r.1)) [.box 53 (d53 r.2)]:=by
 unfold F28 at h
 refine co 12 Tryd.func28 λ C hC=>?_
 obtain⟨y1,h2,y3,h4,h⟩:=Bc h
 replace h:=sI h
 subst h
 exact wr [0,1,4] 25 [] [pl pI x1,pc e12 (k12 x0 (ln x1) _ h2) [0],pr pI h4] [] 1 [0] hC []
theorem e28:EN 28:=en Tryd.func28
theorem k10 (x0:ByteArray) (r:List Ac×Int×Int) (h:F10 x0=some r):CO 10 [.d (.p (.v (.string x0)))] [] (.tup [.d (DS q36 r.1),.d (I r.2.1),.d (I r.2.2)]) []:=Ya F31 F18 k31 k18 x0 r h
theorem e10:EN 10:=en Tryd.func10
def Ol:List Nat:=[0,2,3,5,6,7,8,9,18]
def K3 (x0:List Ac) (n0:Nat) (z0:Int):St:=[(2,dI 0),(3,dI z0),(6,.d (DS q36 x0)),(7,dI (ln x0)),(8,dI (cnt 0 n0))]
def Nl  (n0:Nat) (z0:Int):List Res:=[]
def S8  (z0:Int):St:=[(2,dI 0),(3,dI z0)]
def Ud  (z0:Int):List Res:=[]
theorem k25 (x0:List Ac) (r:Int) (h:F25 x0=some r):CO 25 [.d (DS q36 x0)] [] (.d (I r)) []:=by
 unfold F25 at h
 refine co 27 Tryd.func25 λ C hC=>?_
 refine ws Ol 28 [] [pl q36 x0] [] 0 [] (K3 x0 0 0) (Nl 0 0) hC [] ?_
 obtain⟨w0,hm0,hret0,hnext0⟩:=Ap h
 clear h
 refine wc w0 (S8) (Ud) ?_ λ z0 hs0=>?_
 ·refine wb ?_
  refine Ge 6 rfl λ hl0=>?_
  refine wl (K3 x0) (Nl) hm0 (λ z0 hn0=>?_) λ n0 a0 z0 w0b hi0 hx0 h hb0 hr0=>?_
  ·clear hm0
   exact wx w0 (S8) (Ud) Ol 26 [false] [] [] 0 [] _ hC [pq (Dx hl0)] hn0
  ·unfold I1 at h
   obtain⟨y1,h2,h⟩:=Ai h
   rcases cB h with⟨h3,h⟩ | ⟨h3,h⟩
   ·obtain⟨y4,h5,h⟩:=Ai h
    exact wx w0b (K3 x0 (n0+1)) (Nl (n0+1)) Ol 36 [true,true] [pt hx0 hl0,pw e31 (λ hg=>k31 a0 _ (Bg h2 hg)) [],pr pI h5] [] 0 [] _ hC [pq (Ax hi0 hl0),pq h3] (sI h).symm
   ·exact wx w0b (K3 x0 (n0+1)) (Nl (n0+1)) Ol 36 [true,false] [pt hx0 hl0,pw e31 (λ hg=>k31 a0 _ (Bg h2 hg)) []] [] 0 [] _ hC [pq (Ax hi0 hl0),pq h3] (sI h).symm
 ·have h:=hnext0 _ hs0
  replace h:=sI h
  subst h
  exact wr Ol 23 [] [] [] 0 [] hC []
theorem e25:EN 25:=en Tryd.func25
theorem k30 (x0:Ac) (r:Bool) (h:F30 x0=some r):CO 30 [.agg (d36 x0)] [] (.d (Bo r)) []:=by
 unfold F30 at h
 refine co 6 Tryd.func30 λ C hC=>?_
 obtain⟨y1,h2,h⟩:=Ai h
 replace h:=sI h
 subst h
 exact wr n3_ 25 [] [pc e31 (k31 x0 _ h2) []] [] 0 [] hC []
theorem e30:EN 30:=en Tryd.func30
def Nx  (z0:Int×(List Int)×Int×(List Int)):St:=[(0,dO 0 0),(2,dO 1 0),(3,dO 2 0),(4,dI z0.1)]
def Sf (y1:Int×Af) (z0:Int×(List Int)×Int×(List Int)):List Res:=[.box 53 [DS pI z0.2.1,I z0.2.2.1],.box 36 [I 0,.os 3],.box 36 [I y1.1,.os 4],v0_ ([]:List Int),v0_ (Mb z0)]
def Ta  (z0:Int×(List Int)×Int×(List Int)):St:=[(0,dO 0 0),(2,dO 1 0),(3,dO 2 0)]
def Ug (y1:Int×Af) (z0:Int×(List Int)×Int×(List Int)):List Res:=[.box 53 [DS pI z0.2.1,I z0.2.2.1],.box 36 [I 0,.os 3],.box 36 [I y1.1,.os 4],v0_ ([]:List Int),v0_ (Mb z0)]
theorem k15 (x0:Af) (r:Ac×Af) (h:F15 x0=some r):CO 15 [.d (.o 0 0)] [.box 53 (d53 x0)] (.agg [I r.1.Kind,.os 1]) [.box 53 (d53 r.2),v0_ r.1.Numbers]:=by
 unfold F15 at h
 refine co 35 Tryd.func15 λ C hC=>?_
 obtain⟨y1,h2,y3,h4,h⟩:=Bc h
 refine ws [0,2,3,4,14,27] 28 [] [pc e27 (k27 x0 1 8 _ h2) [0],pr pI h4] [.ownb 1 1 3 1,.ownb 2 1 3 1] 1 n5_ (Nx (y3,y1.2.L,y1.2.At,([]:List Int))) (Sf y1 (y3,y1.2.L,y1.2.At,([]:List Int))) hC [] ?_
 obtain⟨w0,hm0,hret0,hnext0⟩:=Ap h
 clear h
 refine wc w0 (Ta) (Ug y1) ?_ λ z0 hs0=>?_
 ·refine wb ?_
  refine ww (Nx) (Sf y1) hm0 λ z0 w0b h hb0 hr0=>?_
  unfold Lv at h
  rcases cB h with⟨h5,h⟩ | ⟨h5,h⟩
  ·obtain⟨y6,h7,y8,h9,h⟩:=Bc h
   exact wx w0b (Nx) (Sf y1) [0,2,3,4,14,27] 31 [true] [pc e28 (k28 (⟨z0.2.1,z0.2.2.1⟩:Af) [0,1,2,3,5,100,(-7),1000000000,(-1000000000)] _ h7) [0],pa pI 1 h9] [] 1 [0,1,2,3,5] _ hC [pq h5] (sI h).symm
  ·exact wx w0 (Ta) (Ug y1) [0,2,3,4,14,27] 26 [false] [] [] 1 n5_ (z0.1,z0.2.1,z0.2.2.1,(Mb z0)) hC [pq h5] (hb0 _ (sI h).symm)
 ·have h:=hnext0 _ hs0
  rcases cB h with⟨h10,h⟩ | ⟨h10,h⟩
  ·obtain⟨y11,h12,y13,h14,y15,h16,h⟩:=G6 h
   replace h:=sI h
   subst h
   exact wr [0,2,3,4,14,27] 28 [true] [pc e28 (k28 (⟨z0.2.1,z0.2.2.1⟩:Af) [1,2,3,20,60] _ h12) [0],pr pI h14,pu pI h14 h16] [] 1 [0,4] hC [pq h10]
  ·replace h:=sI h
   subst h
   exact wr [0,2,3,4,14,27] 28 [false] [] [] 1 [0,4] hC [pq h10]
theorem e15:EN 15:=en Tryd.func15
def Ik:List Nat:=[0,1,4,5,7,8,9,16]
def Ki (x0:List Ac) (n0:Nat) (z0:Unit):St:=[(0,.d (DS q36 x0)),(1,.d (.fn (.func 30) [] [])),(4,dI 0),(7,dI (ln x0)),(8,dI (cnt 0 n0))]
def Mk  (n0:Nat) (z0:Unit):List Res:=[]
def N7  (z0:Unit):St:=[(4,dI 0)]
def Pw  (z0:Unit):List Res:=[]
theorem Zc (x0:List Ac) (r:Int) (h:Nn x0=some r):CO 42 [.d (DS q36 x0),.d (.fn (.func 30) [] [])] [] (.d (I r)) []:=by
 unfold Nn at h
 refine co 19 Tryd.func42 λ C hC=>?_
 refine ws Ik 26 [] [pl q36 x0] [] 0 [] (Ki x0 0 ()) (Mk 0 ()) hC [] ?_
 obtain⟨w0,hm0,hret0,hnext0⟩:=Ap h
 clear h
 refine wc w0 (N7) (Pw) ?_ λ z0 hs0=>?_
 ·refine wb ?_
  refine Ge 0 rfl λ hl0=>?_
  refine wl (Ki x0) (Mk) hm0 (λ z0 hn0=>?_) λ n0 a0 z0 w0b hi0 hx0 h hb0 hr0=>?_
  ·clear hm0
   exact wx w0 (N7) (Pw) Ik 26 [false] [] [] 0 [] _ hC [pq (Dx hl0)] hn0
  ·unfold Kv at h
   obtain⟨y1,h2,h⟩:=Ai h
   rcases cB h with⟨h3,h⟩ | ⟨h3,h⟩
   ·have hq:=hret0 _ (hr0 _ (sI h).symm)
    replace hq:=sI hq
    subst hq
    exact wr Ik 35 [true,true] [pt hx0 hl0,pc e30 (k30 a0 _ h2) []] [] 0 [] hC [pq (Ax hi0 hl0),pq h3]
   ·exact wx w0b (Ki x0 (n0+1)) (Mk (n0+1)) Ik 36 [true,false] [pt hx0 hl0,pc e30 (k30 a0 _ h2) []] [] 0 [] _ hC [pq (Ax hi0 hl0),pq h3] (sI h).symm
 ·have h:=hnext0 _ hs0
  replace h:=sI h
  subst h
  exact wr Ik 23 [] [] [] 0 [] hC []
theorem Zj:EN 42:=en Tryd.func42
def Q4  (z0:Sg0):St:=[(0,dO 0 0),(4,.d (DS q36 [])),(5,dS 1),(6,dI z0.1)]
def Vs  (z0:Sg0):List Res:=[.box 53 [DS pI z0.2.1,I z0.2.2.1],v5_ (Mb z0)]
def Vy  (z0:Sg0):St:=[(4,.d (DS q36 [])),(5,dS 1)]
def Wq  (z0:Sg0):List Res:=[.box 53 [DS pI z0.2.1,I z0.2.2.1],v5_ (Mb z0)]
theorem k8 (x0:Af) (x1:Int) (r:(List Ac)×Af) (h:F8 x0 x1=some r):CO 8 [.d (.o 0 0),.d (I x1)] [.box 53 (d53 x0)] (.d (.os 1)) [.box 53 (d53 r.2),v5_ r.1]:=by
 unfold F8 at h
 refine co 21 Tryd.func8 λ C hC=>?_
 obtain⟨y1,h2,h⟩:=Ai h
 refine ws [0,1,4,5,6,12] 28 [] [pc e12 (k12 x0 (w64 (x1+1)) _ h2) [0]] [.own 5 36 2] 1 [0,1] (Q4 (y1.1,y1.2.L,y1.2.At,([]:List Ac))) (Vs (y1.1,y1.2.L,y1.2.At,([]:List Ac))) hC [] ?_
 obtain⟨w0,hm0,hret0,hnext0⟩:=Ap h
 clear h
 refine wc w0 (Vy) (Wq) ?_ λ z0 hs0=>?_
 ·refine wb ?_
  refine ww (Q4) (Vs) hm0 λ z0 w0b h hb0 hr0=>?_
  unfold Sp at h
  rcases cB h with⟨h3,h⟩ | ⟨h3,h⟩
  ·obtain⟨y6,h7,y8,h9,h⟩:=Bc h
   exact wx w0b (Q4) (Vs) [0,1,4,5,6,12] 31 [true] [⟨.call 15 [dO 0 0] [.box 53 [DS pI z0.2.1,I z0.2.2.1]] (.agg (d36 y6.1)) [.box 53 (d53 y6.2),.non] [0],⟨e15,(CallOk.frzAll [1] (show CO 15 [dO 0 0] [.box 53 [DS pI z0.2.1,I z0.2.2.1]] (.agg [I y6.1.Kind,.os 1]) [.box 53 (d53 y6.2),v0_ y6.1.Numbers] from (k15 (⟨z0.2.1,z0.2.2.1⟩:Af) _ h7)) (by kernel_rfl))⟩⟩,pa q36 2 h9] [] 1 [0,3] _ hC [pq h3] (sI h).symm
  ·exact wx w0 (Vy) (Wq) [0,1,4,5,6,12] 26 [false] [] [] 1 [0,1] (z0.1,z0.2.1,z0.2.2.1,(Mb z0)) hC [pq h3] (hb0 _ (sI h).symm)
 ·have h:=hnext0 _ hs0
  replace h:=sI h
  subst h
  exact wr [0,1,4,5,6,12] 23 [] [] [] 1 [0,1] hC []
theorem e8:EN 8:=en Tryd.func8
theorem Zd (x0:List Ac) (r:Bool) (h:Np x0=some r):CO 29 [.d (DS q36 x0),.d (.fn (.func 30) [] [])] [] (.d (Bo r)) []:=by
 unfold Np at h
 refine co 9 Tryd.func29 λ C hC=>?_
 obtain⟨y1,h2,h⟩:=Ai h
 replace h:=sI h
 subst h
 exact wr [0,1,4] 25 [] [pc Zj (Zc x0 _ h2) []] [] 0 [] hC []
theorem Zk:EN 29:=en Tryd.func29
theorem k16 (x0:List Ac) (r:Bool) (h:F16 x0=some r):CO 16 [.d (DS q36 x0)] [] (.d (Bo r)) []:=by
 unfold F16 at h
 refine co 5 Tryd.func16 λ C hC=>?_
 obtain⟨y1,h2,h⟩:=Ai h
 replace h:=sI h
 subst h
 exact wr [0,2] 25 [] [pc Zk (Zd x0 _ h2) []] [] 0 [] hC []
theorem e16:EN 16:=en Tryd.func16
def D9:List Nat:=[0,1,4,5,6,8,9,18,19,22,32,33,34,35]
def D2 (x0:List Ac) (n0:Nat) (z0:Sg3):St:=[(4,.d (DS q50 [])),(5,dI 0),(6,dO 0 0),(32,.d (DS q36 x0)),(33,dI (ln x0)),(34,dI (cnt 0 n0))]
def E5  (n0:Nat) (z0:Sg3):List Res:=[.box 79 [I z0.1,I z0.2.1,I z0.2.2.1,I (g3_ z0),I (g4_ z0),I (g5_ z0),I (g6_ z0),I (g7_ z0),I (g8_ z0),I (g9_ z0),I (B5 z0),I (B4 z0),I (B3 z0),I (C6 z0),I (C5 z0),.os 1,.os 2,.os 3,I (C4 z0),.os 4,.os 5],v2_ (C3 z0),v3_ (C2 z0),v4_ (C1 z0),v0_ (Cz z0),v1_ (B0 z0)]
def Tg  (z0:Sg3):St:=[(4,.d (DS q50 [])),(5,dI 0),(6,dO 0 0)]
def Um  (z0:Sg3):List Res:=[.box 79 [I z0.1,I z0.2.1,I z0.2.2.1,I (g3_ z0),I (g4_ z0),I (g5_ z0),I (g6_ z0),I (g7_ z0),I (g8_ z0),I (g9_ z0),I (B5 z0),I (B4 z0),I (B3 z0),I (C6 z0),I (C5 z0),.os 1,.os 2,.os 3,I (C4 z0),.os 4,.os 5],v2_ (C3 z0),v3_ (C2 z0),v4_ (C1 z0),v0_ (Cz z0),v1_ (B0 z0)]
set_option maxHeartbeats 4000000 in
theorem k13 (x0 : List Ac) (x1 : Int) (r : (List Ad) × Int) (h : F13 x0 x1 = some r) : CO 13 [.d (DS q36 x0), .d (I x1)] [] (.tup [.d (.os 0), .d (I r.2)]) [v1_ r.1] := by
 unfold F13 at h
 refine co 55 Tryd.func13 λ C hC=>?_
 obtain⟨y1,h2,h⟩:=Ai h
 rcases cB h with⟨h3,h⟩ | ⟨h3,h⟩
 ·replace h:=sI h
  subst h
  exact wr D9 29 [true] [pl q36 x0,pw e25 (λ hg=>k25 x0 _ (Bg h2 hg)) []] [.own 4 50 12] 0 [0] hC [pq h3]
 ·obtain ⟨y4, h5, h⟩ := Ai h
  refine wn D9 32 [false] [pl q36 x0,pw e25 (λ hg=>k25 x0 _ (Bg h2 hg)) [],pc e16 (k16 x0 _ h5) []] [] 0 [] [0,1,4,5,19] hC [pq h3] ?_
  rcases cB h with⟨h6,h⟩ | ⟨h6,h⟩
  ·replace h:=sI h
   subst h
   exact wr D9 24 [true] [] [.own 4 50 12] 0 [0] hC [pq h6]
  ·rcases cB h with ⟨h7, h⟩ | ⟨h7, h⟩
   ·replace h:=sI h
    subst h
    exact wr D9 27 [false,true] [] [.own 4 50 12] 0 [0] hC [pq h6,pq h7]
   ·refine ws D9 32 [false, false] [pl q36 x0] [.ownb 0 15 88 5, .ownb 0 16 90 3, .ownb 0 17 94 4, .ownb 0 19 3 1, .ownb 0 20 50 12] 0 n6_ (D2 x0 0 (x1, 0, 0, 0, 0, 0, 0, 0, 0, 0, 0, 0, 0, 0, 0, 0, ([] : List Am), ([] : List Bm), ([] : List A1), ([] : List Int), ([] : List Ad))) (E5 0 (x1, 0, 0, 0, 0, 0, 0, 0, 0, 0, 0, 0, 0, 0, 0, 0, ([] : List Am), ([] : List Bm), ([] : List A1), ([] : List Int), ([] : List Ad))) hC [pq h6, pq h7] ?_
    obtain⟨w0,hm0,hret0,hnext0⟩:=Ap h
    clear h
    refine wc w0 (Tg) (Um) ?_ λ z0 hs0=>?_
    ·refine wb ?_
     refine Ge 32 rfl λ hl0=>?_
     refine wl (D2 x0) (E5) hm0 (λ z0 hn0=>?_) λ n0 a0 z0 w0b hi0 hx0 h hb0 hr0=>?_
     ·clear hm0
      exact wx w0 (Tg) (Um) D9 26 [false] [] [] 0 n6_ _ hC [pq (Dx hl0)] hn0
     ·unfold Hb at h
      rcases cB h with⟨h8,h⟩ | ⟨h8,h⟩
      ·cases h
      ·obtain ⟨y9, h10, h⟩ := Ai h
       rcases cB h with⟨h32,h⟩ | ⟨h32,h⟩
       ·obtain⟨y33,h34,h⟩:=Ai h
        exact wx w0b (D2 x0 (n0+1)) (E5 (n0+1)) D9 35 [true] [pt hx0 hl0,pc e26 (Di a0.Kind y9 h8 h10) [],⟨.fnv (.func (.func y9.say) #[] #[]) 48,Br h32⟩,pc Wm (Wc (⟨z0.1,(⟨(⟨z0.2.1,z0.2.2.1⟩:Aa),(⟨(g3_ z0),(g4_ z0)⟩:Aa),(⟨(g5_ z0),(g6_ z0)⟩:Aa)⟩:Ae),(g7_ z0),(⟨(⟨(⟨(g8_ z0),(g9_ z0)⟩:Aa),(⟨(B5 z0),(B4 z0)⟩:Aa),(⟨(B3 z0),(C6 z0)⟩:Aa)⟩:Ae),(C5 z0),(C3 z0),(C2 z0),(C1 z0),(C4 z0),(Cz z0)⟩:Ad),(B0 z0)⟩:Ab) a0.Numbers _ h34) n6_] [] 0 [0,1,8,3,4,5] _ hC [pq (Ax hi0 hl0)] (sI h).symm
       ·rcases cB h with ⟨h29, h⟩ | ⟨h29, h⟩
        ·obtain⟨y30,h31,h⟩:=Ai h
         exact wx w0b (D2 x0 (n0+1)) (E5 (n0+1)) D9 35 [true] [pt hx0 hl0,pc e26 (Di a0.Kind y9 h8 h10) [],⟨.fnv (.func (.func y9.say) #[] #[]) 49,Br h29⟩,pc Wl (Wb (⟨z0.1,(⟨(⟨z0.2.1,z0.2.2.1⟩:Aa),(⟨(g3_ z0),(g4_ z0)⟩:Aa),(⟨(g5_ z0),(g6_ z0)⟩:Aa)⟩:Ae),(g7_ z0),(⟨(⟨(⟨(g8_ z0),(g9_ z0)⟩:Aa),(⟨(B5 z0),(B4 z0)⟩:Aa),(⟨(B3 z0),(C6 z0)⟩:Aa)⟩:Ae),(C5 z0),(C3 z0),(C2 z0),(C1 z0),(C4 z0),(Cz z0)⟩:Ad),(B0 z0)⟩:Ab) a0.Numbers _ h31) n6_] [] 0 [0,1,2,8,4,5] _ hC [pq (Ax hi0 hl0)] (sI h).symm
        ·rcases cB h with⟨h26,h⟩ | ⟨h26,h⟩
         ·obtain⟨y27,h28,h⟩:=Ai h
          exact wx w0b (D2 x0 (n0+1)) (E5 (n0+1)) D9 35 [true] [pt hx0 hl0,pc e26 (Di a0.Kind y9 h8 h10) [],⟨.fnv (.func (.func y9.say) #[] #[]) 51,Br h26⟩,pc Wj (V_ (⟨z0.1,(⟨(⟨z0.2.1,z0.2.2.1⟩:Aa),(⟨(g3_ z0),(g4_ z0)⟩:Aa),(⟨(g5_ z0),(g6_ z0)⟩:Aa)⟩:Ae),(g7_ z0),(⟨(⟨(⟨(g8_ z0),(g9_ z0)⟩:Aa),(⟨(B5 z0),(B4 z0)⟩:Aa),(⟨(B3 z0),(C6 z0)⟩:Aa)⟩:Ae),(C5 z0),(C3 z0),(C2 z0),(C1 z0),(C4 z0),(Cz z0)⟩:Ad),(B0 z0)⟩:Ab) a0.Numbers _ h28) n6_] [] 0 [0,1,2,8,4,5] _ hC [pq (Ax hi0 hl0)] (sI h).symm
         ·rcases cB h with⟨h23,h⟩ | ⟨h23,h⟩
          ·obtain⟨y24,h25,h⟩:=Ai h
           exact wx w0b (D2 x0 (n0+1)) (E5 (n0+1)) D9 35 [true] [pt hx0 hl0,pc e26 (Di a0.Kind y9 h8 h10) [],⟨.fnv (.func (.func y9.say) #[] #[]) 52,Br h23⟩,pc Wi (V9 (⟨z0.1,(⟨(⟨z0.2.1,z0.2.2.1⟩:Aa),(⟨(g3_ z0),(g4_ z0)⟩:Aa),(⟨(g5_ z0),(g6_ z0)⟩:Aa)⟩:Ae),(g7_ z0),(⟨(⟨(⟨(g8_ z0),(g9_ z0)⟩:Aa),(⟨(B5 z0),(B4 z0)⟩:Aa),(⟨(B3 z0),(C6 z0)⟩:Aa)⟩:Ae),(C5 z0),(C3 z0),(C2 z0),(C1 z0),(C4 z0),(Cz z0)⟩:Ad),(B0 z0)⟩:Ab) a0.Numbers _ h25) n6_] [] 0 n6_ _ hC [pq (Ax hi0 hl0)] (sI h).symm
          ·rcases cB h with⟨h20,h⟩ | ⟨h20,h⟩
           ·obtain⟨y21,h22,h⟩:=Ai h
            exact wx w0b (D2 x0 (n0+1)) (E5 (n0+1)) D9 35 [true] [pt hx0 hl0,pc e26 (Di a0.Kind y9 h8 h10) [],⟨.fnv (.func (.func y9.say) #[] #[]) 53,Br h20⟩,pc Wh (V8 (⟨z0.1,(⟨(⟨z0.2.1,z0.2.2.1⟩:Aa),(⟨(g3_ z0),(g4_ z0)⟩:Aa),(⟨(g5_ z0),(g6_ z0)⟩:Aa)⟩:Ae),(g7_ z0),(⟨(⟨(⟨(g8_ z0),(g9_ z0)⟩:Aa),(⟨(B5 z0),(B4 z0)⟩:Aa),(⟨(B3 z0),(C6 z0)⟩:Aa)⟩:Ae),(C5 z0),(C3 z0),(C2 z0),(C1 z0),(C4 z0),(Cz z0)⟩:Ad),(B0 z0)⟩:Ab) a0.Numbers _ h22) n6_] [] 0 [0,8,2,3,4,5] _ hC [pq (Ax hi0 hl0)] (sI h).symm
           ·rcases cB h with⟨h17,h⟩ | ⟨h17,h⟩
            ·obtain⟨y18,h19,h⟩:=Ai h
             exact wx w0b (D2 x0 (n0+1)) (E5 (n0+1)) D9 35 [true] [pt hx0 hl0,pc e26 (Di a0.Kind y9 h8 h10) [],⟨.fnv (.func (.func y9.say) #[] #[]) 54,Br h17⟩,pc Wg (V7 (⟨z0.1,(⟨(⟨z0.2.1,z0.2.2.1⟩:Aa),(⟨(g3_ z0),(g4_ z0)⟩:Aa),(⟨(g5_ z0),(g6_ z0)⟩:Aa)⟩:Ae),(g7_ z0),(⟨(⟨(⟨(g8_ z0),(g9_ z0)⟩:Aa),(⟨(B5 z0),(B4 z0)⟩:Aa),(⟨(B3 z0),(C6 z0)⟩:Aa)⟩:Ae),(C5 z0),(C3 z0),(C2 z0),(C1 z0),(C4 z0),(Cz z0)⟩:Ad),(B0 z0)⟩:Ab) a0.Numbers _ h19) n6_] [] 0 n6_ _ hC [pq (Ax hi0 hl0)] (sI h).symm
            ·rcases cB h with⟨h14,h⟩ | ⟨h14,h⟩
             ·obtain⟨y15,h16,h⟩:=Ai h
              exact wx w0b (D2 x0 (n0+1)) (E5 (n0+1)) D9 35 [true] [pt hx0 hl0,pc e26 (Di a0.Kind y9 h8 h10) [],⟨.fnv (.func (.func y9.say) #[] #[]) 55,Br h14⟩,pc Wf (V6 (⟨z0.1,(⟨(⟨z0.2.1,z0.2.2.1⟩:Aa),(⟨(g3_ z0),(g4_ z0)⟩:Aa),(⟨(g5_ z0),(g6_ z0)⟩:Aa)⟩:Ae),(g7_ z0),(⟨(⟨(⟨(g8_ z0),(g9_ z0)⟩:Aa),(⟨(B5 z0),(B4 z0)⟩:Aa),(⟨(B3 z0),(C6 z0)⟩:Aa)⟩:Ae),(C5 z0),(C3 z0),(C2 z0),(C1 z0),(C4 z0),(Cz z0)⟩:Ad),(B0 z0)⟩:Ab) a0.Numbers _ h16) n6_] [] 0 [0,1,2,3,8,5] _ hC [pq (Ax hi0 hl0)] (sI h).symm
             ·rcases cB h with⟨h11,h⟩ | ⟨h11,h⟩
              ·obtain⟨y12,h13,h⟩:=Ai h
               exact wx w0b (D2 x0 (n0+1)) (E5 (n0+1)) D9 35 [true] [pt hx0 hl0,pc e26 (Di a0.Kind y9 h8 h10) [],⟨.fnv (.func (.func y9.say) #[] #[]) 56,Br h11⟩,pc We (V5 (⟨z0.1,(⟨(⟨z0.2.1,z0.2.2.1⟩:Aa),(⟨(g3_ z0),(g4_ z0)⟩:Aa),(⟨(g5_ z0),(g6_ z0)⟩:Aa)⟩:Ae),(g7_ z0),(⟨(⟨(⟨(g8_ z0),(g9_ z0)⟩:Aa),(⟨(B5 z0),(B4 z0)⟩:Aa),(⟨(B3 z0),(C6 z0)⟩:Aa)⟩:Ae),(C5 z0),(C3 z0),(C2 z0),(C1 z0),(C4 z0),(Cz z0)⟩:Ad),(B0 z0)⟩:Ab) a0.Numbers _ h13) n6_] [] 0 [0,8,9,10,11,12] _ hC [pq (Ax hi0 hl0)] (sI h).symm
              ·cases h
    ·have h:=hnext0 _ hs0
     replace h:=sI h
     subst h
     exact wr D9 23 [] [] [] 0 [5] hC []
theorem e13:EN 13:=en Tryd.func13
theorem k9 (x0:List Ac) (r:ByteArray×Int) (h:F9 x0=some r):CO 9 [.d (DS q36 x0)] [] (.tup [.d (.p (.v (.string r.1))),.d (I r.2)]) []:=Xb F16 F18 k16 k18 x0 r h
theorem e9:EN 9:=en Tryd.func9
def Ch:List Nat:=[0,1,4,5,6,8,9,18,19,22,32,33,34,35]
def Ct (x0:List Ac) (n0:Nat) (z0:Sg3):St:=[(4,.d (DS q50 [])),(5,dI 0),(6,dO 1 0),(32,dS 0),(33,dI (ln x0)),(34,dI (cnt 0 n0))]
def Dh (x0:List Ac) (n0:Nat) (z0:Sg3):List Res:=[v5_ x0,.box 79 [I z0.1,I z0.2.1,I z0.2.2.1,I (g3_ z0),I (g4_ z0),I (g5_ z0),I (g6_ z0),I (g7_ z0),I (g8_ z0),I (g9_ z0),I (B5 z0),I (B4 z0),I (B3 z0),I (C6 z0),I (C5 z0),.os 2,.os 3,.os 4,I (C4 z0),.os 5,.os 6],v2_ (C3 z0),v3_ (C2 z0),v4_ (C1 z0),v0_ (Cz z0),v1_ (B0 z0)]
def N8  (z0:Sg3):St:=[(4,.d (DS q50 [])),(5,dI 0),(6,dO 1 0)]
def Px (x0:List Ac) (z0:Sg3):List Res:=[v5_ x0,.box 79 [I z0.1,I z0.2.1,I z0.2.2.1,I (g3_ z0),I (g4_ z0),I (g5_ z0),I (g6_ z0),I (g7_ z0),I (g8_ z0),I (g9_ z0),I (B5 z0),I (B4 z0),I (B3 z0),I (C6 z0),I (C5 z0),.os 2,.os 3,.os 4,I (C4 z0),.os 5,.os 6],v2_ (C3 z0),v3_ (C2 z0),v4_ (C1 z0),v0_ (Cz z0),v1_ (B0 z0)]
set_option maxHeartbeats 4000000 in
theorem Ze (x0 : List Ac) (x1 : Int) (r : (List Ad) × Int) (h : Nq x0 x1 = some r) : CO 13 [.d (.os 0), .d (I x1)] [v5_ x0] (.tup [.d (.os 1), .d (I r.2)]) [v5_ x0, v1_ r.1] := by
 unfold Nq at h
 refine co 55 Tryd.func13 λ C hC=>?_
 obtain⟨y1,h2,h⟩:=Ai h
 rcases cB h with⟨h3,h⟩ | ⟨h3,h⟩
 ·replace h:=sI h
  subst h
  exact wr Ch 29 [true] [pl q36 x0,pv e25 (λ hg=>k25 x0 _ (Bg h2 hg))] [.own 4 50 12] 1 [0,1] hC [pq h3]
 ·obtain ⟨y4, h5, h⟩ := Ai h
  refine wn Ch 32 [false] [pl q36 x0,pv e25 (λ hg=>k25 x0 _ (Bg h2 hg)),pb e16 (k16 x0 _ h5)] [] 1 [0] [0,1,4,5,19] hC [pq h3] ?_
  rcases cB h with⟨h6,h⟩ | ⟨h6,h⟩
  ·replace h:=sI h
   subst h
   exact wr Ch 24 [true] [] [.own 4 50 12] 1 [0,1] hC [pq h6]
  ·rcases cB h with ⟨h7, h⟩ | ⟨h7, h⟩
   ·replace h:=sI h
    subst h
    exact wr Ch 27 [false,true] [] [.own 4 50 12] 1 [0,1] hC [pq h6,pq h7]
   ·refine ws Ch 32 [false, false] [pl q36 x0] [.ownb 1 15 88 5, .ownb 1 16 90 3, .ownb 1 17 94 4, .ownb 1 19 3 1, .ownb 1 20 50 12] 1 n7_ (Ct x0 0 (x1, 0, 0, 0, 0, 0, 0, 0, 0, 0, 0, 0, 0, 0, 0, 0, ([] : List Am), ([] : List Bm), ([] : List A1), ([] : List Int), ([] : List Ad))) (Dh x0 0 (x1, 0, 0, 0, 0, 0, 0, 0, 0, 0, 0, 0, 0, 0, 0, 0, ([] : List Am), ([] : List Bm), ([] : List A1), ([] : List Int), ([] : List Ad))) hC [pq h6, pq h7] ?_
    obtain⟨w0,hm0,hret0,hnext0⟩:=Ap h
    clear h
    refine wc w0 (N8) (Px x0) ?_ λ z0 hs0=>?_
    ·refine wb ?_
     refine Qz 32 0 rfl rfl λ hl0=>?_
     refine wl (Ct x0) (Dh x0) hm0 (λ z0 hn0=>?_) λ n0 a0 z0 w0b hi0 hx0 h hb0 hr0=>?_
     ·clear hm0
      exact wx w0 (N8) (Px x0) Ch 26 [false] [] [] 1 n7_ _ hC [pq (Dx hl0)] hn0
     ·unfold P0 at h
      rcases cB h with⟨h8,h⟩ | ⟨h8,h⟩
      ·cases h
      ·obtain ⟨y9, h10, h⟩ := Ai h
       rcases cB h with⟨h32,h⟩ | ⟨h32,h⟩
       ·obtain⟨y33,h34,h⟩:=Ai h
        exact wx w0b (Ct x0 (n0+1)) (Dh x0 (n0+1)) Ch 35 [true] [pr q36 (A7 hx0 hl0),pn q36 (A7 hx0 hl0),pc e26 (Di a0.Kind y9 h8 h10) [],⟨.fnv (.func (.func y9.say) #[] #[]) 48,Br h32⟩,pc Wm (Wc (⟨z0.1,(⟨(⟨z0.2.1,z0.2.2.1⟩:Aa),(⟨(g3_ z0),(g4_ z0)⟩:Aa),(⟨(g5_ z0),(g6_ z0)⟩:Aa)⟩:Ae),(g7_ z0),(⟨(⟨(⟨(g8_ z0),(g9_ z0)⟩:Aa),(⟨(B5 z0),(B4 z0)⟩:Aa),(⟨(B3 z0),(C6 z0)⟩:Aa)⟩:Ae),(C5 z0),(C3 z0),(C2 z0),(C1 z0),(C4 z0),(Cz z0)⟩:Ad),(B0 z0)⟩:Ab) a0.Numbers _ h34) [1,2,3,4,5,6]] [] 1 [0,1,2,9,4,5,6] _ hC [pq (Ax hi0 hl0)] (sI h).symm
       ·rcases cB h with ⟨h29, h⟩ | ⟨h29, h⟩
        ·obtain⟨y30,h31,h⟩:=Ai h
         exact wx w0b (Ct x0 (n0+1)) (Dh x0 (n0+1)) Ch 35 [true] [pr q36 (A7 hx0 hl0),pn q36 (A7 hx0 hl0),pc e26 (Di a0.Kind y9 h8 h10) [],⟨.fnv (.func (.func y9.say) #[] #[]) 49,Br h29⟩,pc Wl (Wb (⟨z0.1,(⟨(⟨z0.2.1,z0.2.2.1⟩:Aa),(⟨(g3_ z0),(g4_ z0)⟩:Aa),(⟨(g5_ z0),(g6_ z0)⟩:Aa)⟩:Ae),(g7_ z0),(⟨(⟨(⟨(g8_ z0),(g9_ z0)⟩:Aa),(⟨(B5 z0),(B4 z0)⟩:Aa),(⟨(B3 z0),(C6 z0)⟩:Aa)⟩:Ae),(C5 z0),(C3 z0),(C2 z0),(C1 z0),(C4 z0),(Cz z0)⟩:Ad),(B0 z0)⟩:Ab) a0.Numbers _ h31) [1,2,3,4,5,6]] [] 1 [0,1,2,3,9,5,6] _ hC [pq (Ax hi0 hl0)] (sI h).symm
        ·rcases cB h with⟨h26,h⟩ | ⟨h26,h⟩
         ·obtain⟨y27,h28,h⟩:=Ai h
          exact wx w0b (Ct x0 (n0+1)) (Dh x0 (n0+1)) Ch 35 [true] [pr q36 (A7 hx0 hl0),pn q36 (A7 hx0 hl0),pc e26 (Di a0.Kind y9 h8 h10) [],⟨.fnv (.func (.func y9.say) #[] #[]) 51,Br h26⟩,pc Wj (V_ (⟨z0.1,(⟨(⟨z0.2.1,z0.2.2.1⟩:Aa),(⟨(g3_ z0),(g4_ z0)⟩:Aa),(⟨(g5_ z0),(g6_ z0)⟩:Aa)⟩:Ae),(g7_ z0),(⟨(⟨(⟨(g8_ z0),(g9_ z0)⟩:Aa),(⟨(B5 z0),(B4 z0)⟩:Aa),(⟨(B3 z0),(C6 z0)⟩:Aa)⟩:Ae),(C5 z0),(C3 z0),(C2 z0),(C1 z0),(C4 z0),(Cz z0)⟩:Ad),(B0 z0)⟩:Ab) a0.Numbers _ h28) [1,2,3,4,5,6]] [] 1 [0,1,2,3,9,5,6] _ hC [pq (Ax hi0 hl0)] (sI h).symm
         ·rcases cB h with⟨h23,h⟩ | ⟨h23,h⟩
          ·obtain⟨y24,h25,h⟩:=Ai h
           exact wx w0b (Ct x0 (n0+1)) (Dh x0 (n0+1)) Ch 35 [true] [pr q36 (A7 hx0 hl0),pn q36 (A7 hx0 hl0),pc e26 (Di a0.Kind y9 h8 h10) [],⟨.fnv (.func (.func y9.say) #[] #[]) 52,Br h23⟩,pc Wi (V9 (⟨z0.1,(⟨(⟨z0.2.1,z0.2.2.1⟩:Aa),(⟨(g3_ z0),(g4_ z0)⟩:Aa),(⟨(g5_ z0),(g6_ z0)⟩:Aa)⟩:Ae),(g7_ z0),(⟨(⟨(⟨(g8_ z0),(g9_ z0)⟩:Aa),(⟨(B5 z0),(B4 z0)⟩:Aa),(⟨(B3 z0),(C6 z0)⟩:Aa)⟩:Ae),(C5 z0),(C3 z0),(C2 z0),(C1 z0),(C4 z0),(Cz z0)⟩:Ad),(B0 z0)⟩:Ab) a0.Numbers _ h25) [1,2,3,4,5,6]] [] 1 n7_ _ hC [pq (Ax hi0 hl0)] (sI h).symm
          ·rcases cB h with⟨h20,h⟩ | ⟨h20,h⟩
           ·obtain⟨y21,h22,h⟩:=Ai h
            exact wx w0b (Ct x0 (n0+1)) (Dh x0 (n0+1)) Ch 35 [true] [pr q36 (A7 hx0 hl0),pn q36 (A7 hx0 hl0),pc e26 (Di a0.Kind y9 h8 h10) [],⟨.fnv (.func (.func y9.say) #[] #[]) 53,Br h20⟩,pc Wh (V8 (⟨z0.1,(⟨(⟨z0.2.1,z0.2.2.1⟩:Aa),(⟨(g3_ z0),(g4_ z0)⟩:Aa),(⟨(g5_ z0),(g6_ z0)⟩:Aa)⟩:Ae),(g7_ z0),(⟨(⟨(⟨(g8_ z0),(g9_ z0)⟩:Aa),(⟨(B5 z0),(B4 z0)⟩:Aa),(⟨(B3 z0),(C6 z0)⟩:Aa)⟩:Ae),(C5 z0),(C3 z0),(C2 z0),(C1 z0),(C4 z0),(Cz z0)⟩:Ad),(B0 z0)⟩:Ab) a0.Numbers _ h22) [1,2,3,4,5,6]] [] 1 [0,1,9,3,4,5,6] _ hC [pq (Ax hi0 hl0)] (sI h).symm
           ·rcases cB h with⟨h17,h⟩ | ⟨h17,h⟩
            ·obtain⟨y18,h19,h⟩:=Ai h
             exact wx w0b (Ct x0 (n0+1)) (Dh x0 (n0+1)) Ch 35 [true] [pr q36 (A7 hx0 hl0),pn q36 (A7 hx0 hl0),pc e26 (Di a0.Kind y9 h8 h10) [],⟨.fnv (.func (.func y9.say) #[] #[]) 54,Br h17⟩,pc Wg (V7 (⟨z0.1,(⟨(⟨z0.2.1,z0.2.2.1⟩:Aa),(⟨(g3_ z0),(g4_ z0)⟩:Aa),(⟨(g5_ z0),(g6_ z0)⟩:Aa)⟩:Ae),(g7_ z0),(⟨(⟨(⟨(g8_ z0),(g9_ z0)⟩:Aa),(⟨(B5 z0),(B4 z0)⟩:Aa),(⟨(B3 z0),(C6 z0)⟩:Aa)⟩:Ae),(C5 z0),(C3 z0),(C2 z0),(C1 z0),(C4 z0),(Cz z0)⟩:Ad),(B0 z0)⟩:Ab) a0.Numbers _ h19) [1,2,3,4,5,6]] [] 1 n7_ _ hC [pq (Ax hi0 hl0)] (sI h).symm
            ·rcases cB h with⟨h14,h⟩ | ⟨h14,h⟩
             ·obtain⟨y15,h16,h⟩:=Ai h
              exact wx w0b (Ct x0 (n0+1)) (Dh x0 (n0+1)) Ch 35 [true] [pr q36 (A7 hx0 hl0),pn q36 (A7 hx0 hl0),pc e26 (Di a0.Kind y9 h8 h10) [],⟨.fnv (.func (.func y9.say) #[] #[]) 55,Br h14⟩,pc Wf (V6 (⟨z0.1,(⟨(⟨z0.2.1,z0.2.2.1⟩:Aa),(⟨(g3_ z0),(g4_ z0)⟩:Aa),(⟨(g5_ z0),(g6_ z0)⟩:Aa)⟩:Ae),(g7_ z0),(⟨(⟨(⟨(g8_ z0),(g9_ z0)⟩:Aa),(⟨(B5 z0),(B4 z0)⟩:Aa),(⟨(B3 z0),(C6 z0)⟩:Aa)⟩:Ae),(C5 z0),(C3 z0),(C2 z0),(C1 z0),(C4 z0),(Cz z0)⟩:Ad),(B0 z0)⟩:Ab) a0.Numbers _ h16) [1,2,3,4,5,6]] [] 1 [0,1,2,3,4,9,6] _ hC [pq (Ax hi0 hl0)] (sI h).symm
             ·rcases cB h with⟨h11,h⟩ | ⟨h11,h⟩
              ·obtain⟨y12,h13,h⟩:=Ai h
               exact wx w0b (Ct x0 (n0+1)) (Dh x0 (n0+1)) Ch 35 [true] [pr q36 (A7 hx0 hl0),pn q36 (A7 hx0 hl0),pc e26 (Di a0.Kind y9 h8 h10) [],⟨.fnv (.func (.func y9.say) #[] #[]) 56,Br h11⟩,pc We (V5 (⟨z0.1,(⟨(⟨z0.2.1,z0.2.2.1⟩:Aa),(⟨(g3_ z0),(g4_ z0)⟩:Aa),(⟨(g5_ z0),(g6_ z0)⟩:Aa)⟩:Ae),(g7_ z0),(⟨(⟨(⟨(g8_ z0),(g9_ z0)⟩:Aa),(⟨(B5 z0),(B4 z0)⟩:Aa),(⟨(B3 z0),(C6 z0)⟩:Aa)⟩:Ae),(C5 z0),(C3 z0),(C2 z0),(C1 z0),(C4 z0),(Cz z0)⟩:Ad),(B0 z0)⟩:Ab) a0.Numbers _ h13) [1,2,3,4,5,6]] [] 1 [0,1,9,10,11,12,13] _ hC [pq (Ax hi0 hl0)] (sI h).symm
              ·cases h
    ·have h:=hnext0 _ hs0
     replace h:=sI h
     subst h
     exact wr Ch 23 [] [] [] 1 [0,6] hC []
theorem Zl:EN 13:=en Tryd.func13
theorem k6  (r:Bool) (h:F6  = some r):CO 6 [] [] (.d (Bo r)) []:=by
 unfold F6 at h
 refine co 78 Tryd.func6 λ C hC=>?_
 obtain⟨y1,h2,y3,h4,y5,h6,y7,h8,h⟩:=Ls h
 obtain⟨y9,h10,y11,h12,h⟩:=Bc h
 replace h:=sI h
 subst h
 exact wr [0,1,2,3,4,5,6,7,9,10] 33 [] [pc e10 (k10 (⟨#[98,114,101,97,107,32,49,32,48,10,116,105,99,107,32,50,10]⟩:ByteArray) _ h2) [],pc e13 (k13 y1.1 5 _ h4) [],pc e9 (k9 y1.1 _ h6) [],pc e10 (k10 (⟨#[116,105,99,107,32,49,10,116,105,99,107,32,48,49,10]⟩:ByteArray) _ h8) [],pL_ [(((((y1.2.2==0)&&(y1.2.1==0))&&(y3.2==0))&&(y5.2==0)),true)] q50 y3.1,pR q50 h10,pN q50 h10,pL_ [((((((y1.2.2==0)&&(y1.2.1==0))&&(y3.2==0))&&(y5.2==0))&&((ln y3.1)==2)),true)] q94 y9.Faults,pR q50 h12,pN q50 h12,pL_ [(((((((y1.2.2==0)&&(y1.2.1==0))&&(y3.2==0))&&(y5.2==0))&&((ln y3.1)==2))&&((ln y9.Faults)==1)),true)] q94 y11.Faults] [] 0 [] hC []
theorem e6:EN 6:=en Tryd.func6
def lv4:List Nat:=[0,2,3,4,5,6,8,9,10,11,12,15,20,21,22,23,28]
def Ni (y6:(List Ac)×Af) (n0:Nat) (z0:Sg1):St:=[(2,dB false),(3,dO 0 0),(4,dS 2),(5,dI z0.1),(6,dI z0.2.1),(20,dS 1),(21,dI (ln y6.1)),(22,dI (cnt 0 n0))]
def Sb (y6:(List Ac)×Af) (n0:Nat) (z0:Sg1):List Res:=[.box 53 [DS pI z0.2.2.1,I (g3_ z0)],v5_ y6.1,v5_ (Rr z0)]
def Vz  (z0:Sg1):St:=[(2,dB false),(4,dS 0),(5,dI z0.1),(6,dI z0.2.1)]
def Ws  (z0:Sg1):List Res:=[v5_ (Rr z0)]
theorem k4 (x0:List Int) (r:Bool) (h:F4 x0=some r):CO 4 [.d (DS pI x0)] [] (.d (Bo r)) []:=by
 unfold F4 at h
 refine co 80 Tryd.func4 λ C hC=>?_
 rcases cB h with⟨h1,h⟩ | ⟨h1,h⟩
 ·obtain⟨y2,h3,h⟩:=Ai h
  replace h:=sI h
  subst h
  exact wr lv4 29 [true] [pl pI x0,pc e6 (k6  _ h3) []] [] 0 [] hC [pq h1]
 ·obtain⟨y4,h5,y6,h7,h⟩:=Bc h
  refine ws lv4 37 [false] [pl pI x0,pc e7 (k7 x0 _ h5) [],pc e8 (k8 y4 10 _ h7) [0],pl q36 y6.1] [.own 4 36 2] 0 n3_ (Ni y6 0 (0,0,y6.2.L,y6.2.At,([]:List Ac))) (Sb y6 0 (0,0,y6.2.L,y6.2.At,([]:List Ac))) hC [pq h1] ?_
  obtain⟨w0,hm0,hret0,hnext0⟩:=Ap h
  clear h
  refine wc w0 (Vz) (Ws) ?_ λ z0 hs0=>?_
  ·refine wb ?_
   refine Qz 20 1 rfl rfl λ hl0=>?_
   refine wl (Ni y6) (Sb y6) hm0 (λ z0 hn0=>?_) λ n0 a0 z0 w0b hi0 hx0 h hb0 hr0=>?_
   ·clear hm0
    exact wx w0 (Vz) (Ws) lv4 26 [false] [] [] 0 [2] _ hC [pq (Dx hl0)] hn0
   ·unfold Sq at h
    rcases cB h with⟨h8,h⟩ | ⟨h8,h⟩
    ·obtain⟨y9,h10,y11,h12,y13,h14,h⟩:=G6 h
     exact wx w0b (Ni y6 (n0+1)) (Sb y6 (n0+1)) lv4 42 [true,true] [pr q36 (A7 hx0 hl0),pn q36 (A7 hx0 hl0),pc e12 (k12 (⟨z0.2.2.1,(g3_ z0)⟩:Af) 4 _ h10) [0],pr pI h12,pl q36 (Rr z0),pa q36 2 h14] [] 0 [0,1,4] _ hC [pq (Ax hi0 hl0),pq h8] (sI h).symm
    ·obtain⟨y15,h16,h⟩:=Ai h
     exact wx w0b (Ni y6 (n0+1)) (Sb y6 (n0+1)) lv4 38 [true,false] [pr q36 (A7 hx0 hl0),pn q36 (A7 hx0 hl0),pa q36 2 h16] [] 0 [0,1,4] _ hC [pq (Ax hi0 hl0),pq h8] (sI h).symm
  ·have h:=hnext0 _ hs0
   obtain⟨y17,h18,h⟩:=Ai h
   refine wn lv4 3 [] [pc Zl (Ze (Rr z0) 3 _ h18) [0]] [.frz 0] 0 [1] [2,4,5,6,9,10] hC [] ?_
   obtain⟨y20,h19,y21,h22,y23,h24,y25,h26,h⟩:=Ls h
   replace h:=sI h
   subst h
   exact wr lv4 24 [] [⟨.cut (z0.2.2.2.2.map q36) 2 0 z0.2.1 (y20.map q36),Qw q36 2 (λ _=>rfl) h19⟩,pc e13 (k13 y20 3 _ h22) [],pL_ [(((y17.2==0)&&(y21.2==0)),true)] q50 y17.1,pv e14 (λ hg=>k14 y17.1 y21.1 _ (Bg h24 hg)),pw e6 (λ hg=>k6  _ (Bg h26 hg)) []] [] 0 [] hC []
end Go.Proofs.YtaplakgdkkmpfaaDoor
