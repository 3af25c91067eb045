import Derived.Test.YtaplakgdkkmpfaaDoorRows
import Derived.Test.YtaplakgdkkmpfaaDoorMo
import Derived.Test.YtaplakgdkkmpfaaDoorFo
set_option linter.unusedVariables false
set_option maxHeartbeats 4000000
namespace Go.Proofs.YtaplakgdkkmpfaaDoor
open Go.SL
abbrev v0_ (l:List Af):Res:=.sl 50 12 (l.map q50)
abbrev v1_ (l:List As):Res:=.sl 88 5 (l.map q88)
abbrev v2_ (l:List Cn):Res:=.sl 90 3 (l.map q90)
abbrev v3_ (l:List Bs):Res:=.sl 94 4 (l.map q94)
abbrev v4_ (l:List Int):Res:=.sl 3 1 (l.map pI)
abbrev CO:=CallOk Tryd.prog
abbrev EN:=Cp Tryd.prog
abbrev g3_ {α0 α1 α2 α3 α4:Type} (z:α0×α1×α2×α3×α4):α3:=z.2.2.2.1
abbrev g4_ {α0 α1 α2 α3 α4 α5:Type} (z:α0×α1×α2×α3×α4×α5):α4:=z.2.2.2.2.1
abbrev g5_ {α0 α1 α2 α3 α4 α5 α6:Type} (z:α0×α1×α2×α3×α4×α5×α6):α5:=z.2.2.2.2.2.1
abbrev g6_ {α0 α1 α2 α3 α4 α5 α6 α7:Type} (z:α0×α1×α2×α3×α4×α5×α6×α7):α6:=z.2.2.2.2.2.2.1
abbrev g7_ {α0 α1 α2 α3 α4 α5 α6 α7 α8:Type} (z:α0×α1×α2×α3×α4×α5×α6×α7×α8):α7:=z.2.2.2.2.2.2.2.1
abbrev g8_ {α0 α1 α2 α3 α4 α5 α6 α7 α8 α9:Type} (z:α0×α1×α2×α3×α4×α5×α6×α7×α8×α9):α8:=z.2.2.2.2.2.2.2.2.1
abbrev g9_ {α0 α1 α2 α3 α4 α5 α6 α7 α8 α9 α10:Type} (z:α0×α1×α2×α3×α4×α5×α6×α7×α8×α9×α10):α9:=z.2.2.2.2.2.2.2.2.2.1
abbrev Dm {α0 α1 α2 α3 α4 α5 α6 α7 α8 α9 α10 α11:Type} (z:α0×α1×α2×α3×α4×α5×α6×α7×α8×α9×α10×α11):α10:=z.2.2.2.2.2.2.2.2.2.2.1
abbrev Dl {α0 α1 α2 α3 α4 α5 α6 α7 α8 α9 α10 α11 α12:Type} (z:α0×α1×α2×α3×α4×α5×α6×α7×α8×α9×α10×α11×α12):α11:=z.2.2.2.2.2.2.2.2.2.2.2.1
abbrev Dk {α0 α1 α2 α3 α4 α5 α6 α7 α8 α9 α10 α11 α12 α13:Type} (z:α0×α1×α2×α3×α4×α5×α6×α7×α8×α9×α10×α11×α12×α13):α12:=z.2.2.2.2.2.2.2.2.2.2.2.2.1
abbrev Ik {α0 α1 α2 α3 α4 α5 α6 α7 α8 α9 α10 α11 α12 α13:Type} (z:α0×α1×α2×α3×α4×α5×α6×α7×α8×α9×α10×α11×α12×α13):α13:=z.2.2.2.2.2.2.2.2.2.2.2.2.2
abbrev F3 {α0 α1 α2 α3 α4 α5 α6 α7 α8 α9 α10 α11 α12 α13 α14:Type} (z:α0×α1×α2×α3×α4×α5×α6×α7×α8×α9×α10×α11×α12×α13×α14):α13:=z.2.2.2.2.2.2.2.2.2.2.2.2.2.1
abbrev F2 {α0 α1 α2 α3 α4 α5 α6 α7 α8 α9 α10 α11 α12 α13 α14 α15:Type} (z:α0×α1×α2×α3×α4×α5×α6×α7×α8×α9×α10×α11×α12×α13×α14×α15):α14:=z.2.2.2.2.2.2.2.2.2.2.2.2.2.2.1
abbrev F1 {α0 α1 α2 α3 α4 α5 α6 α7 α8 α9 α10 α11 α12 α13 α14 α15 α16:Type} (z:α0×α1×α2×α3×α4×α5×α6×α7×α8×α9×α10×α11×α12×α13×α14×α15×α16):α15:=z.2.2.2.2.2.2.2.2.2.2.2.2.2.2.2.1
abbrev F0 {α0 α1 α2 α3 α4 α5 α6 α7 α8 α9 α10 α11 α12 α13 α14 α15 α16 α17:Type} (z:α0×α1×α2×α3×α4×α5×α6×α7×α8×α9×α10×α11×α12×α13×α14×α15×α16×α17):α16:=z.2.2.2.2.2.2.2.2.2.2.2.2.2.2.2.2.1
abbrev Fz {α0 α1 α2 α3 α4 α5 α6 α7 α8 α9 α10 α11 α12 α13 α14 α15 α16 α17 α18:Type} (z:α0×α1×α2×α3×α4×α5×α6×α7×α8×α9×α10×α11×α12×α13×α14×α15×α16×α17×α18):α17:=z.2.2.2.2.2.2.2.2.2.2.2.2.2.2.2.2.2.1
abbrev Fy {α0 α1 α2 α3 α4 α5 α6 α7 α8 α9 α10 α11 α12 α13 α14 α15 α16 α17 α18 α19:Type} (z:α0×α1×α2×α3×α4×α5×α6×α7×α8×α9×α10×α11×α12×α13×α14×α15×α16×α17×α18×α19):α18:=z.2.2.2.2.2.2.2.2.2.2.2.2.2.2.2.2.2.2.1
abbrev Fx {α0 α1 α2 α3 α4 α5 α6 α7 α8 α9 α10 α11 α12 α13 α14 α15 α16 α17 α18 α19 α20:Type} (z:α0×α1×α2×α3×α4×α5×α6×α7×α8×α9×α10×α11×α12×α13×α14×α15×α16×α17×α18×α19×α20):α19:=z.2.2.2.2.2.2.2.2.2.2.2.2.2.2.2.2.2.2.2.1
abbrev Eh {α0 α1 α2 α3 α4 α5 α6 α7 α8 α9 α10 α11 α12 α13 α14 α15 α16 α17 α18 α19 α20:Type} (z:α0×α1×α2×α3×α4×α5×α6×α7×α8×α9×α10×α11×α12×α13×α14×α15×α16×α17×α18×α19×α20):α20:=z.2.2.2.2.2.2.2.2.2.2.2.2.2.2.2.2.2.2.2.2
theorem sI {α:Type} {a b:α} (h:some a=some b):a=b:=aI h
abbrev n3_:List Nat:=[0,1,2]
abbrev n6_:List Nat:=[0,1,2,3,4,5]
abbrev n7_:List Nat:=[0,1,2,3,4,5,6]
abbrev Rz:List Nat:=[0,1,2,3,4,5,6,7,8,9,10]
abbrev Ry:List Nat:=[0,1,2,3,4,5,6,7,8,9,10,11]
theorem mixed:Tryd.prog.follows .mixedOrders=true:=by kernel_rfl
abbrev PC:={c:Cl // Cl.ok Tryd.prog c}
abbrev PB:={p:Bool×Bool // p.1=p.2}
theorem okP:∀ l:List PC,Bh Tryd.prog (l.map (·.1))
 | []=>trivial
 | c::l=>⟨c.2,okP l⟩
theorem okB:∀ l:List PB,Cb (l.map (·.1))
 | []=>trivial
 | ⟨(_,_),h⟩::l=>⟨h,okB l⟩
def pq {a b:Bool} (h:a=b):PB:=⟨(a,b),h⟩
def pc {f:FuncId} {args:List AV} {R R2:List Res} {res:AV} (e:Cp Tryd.prog f) (k:CallOk Tryd.prog f args R res R2) (pi:List Nat):PC:=⟨.call f args R res R2 pi,e,k⟩
def pb {f:FuncId} {args:List AV} {res:AV} (e:Cp Tryd.prog f) (k:CallOk Tryd.prog f args [] res []):PC:=⟨.callB f args res [[]] 0 [],Lk ⟨e,k⟩⟩
def pw {g:List (Bool×Bool)} {f:FuncId} {args:List AV} {R R2:List Res} {res:AV} (e:Cp Tryd.prog f) (k:Cb g->CallOk Tryd.prog f args R res R2) (pi:List Nat):PC:=⟨.when g (.call f args R res R2 pi),λ h=>⟨e,k h⟩⟩
def pv {g:List (Bool×Bool)} {f:FuncId} {args:List AV} {res:AV} (e:Cp Tryd.prog f) (k:Cb g->CallOk Tryd.prog f args [] res []):PC:=⟨.when g (.callB f args res [[]] 0 []),λ h=>Lk ⟨e,k h⟩⟩
section
variable {α:Type}
def pl (q:α->List Pd) (l:List α):PC:=⟨.len ((l.map q).length:Int) (l.length:Int),Oe l q⟩
def pL_ (g:List (Bool×Bool)) (q:α->List Pd) (l:List α):PC:=⟨.when g (.len ((l.map q).length:Int) (l.length:Int)),λ _=>Oe l q⟩
def pr (q:α->List Pd) {l:List α} {n:Int} {x:α} (h:Ao l n=some x):PC:=⟨.row (l.map q) n (q x),Ig h⟩
def pn (q:α->List Pd) {l:List α} {n:Int} {x:α} (h:Ao l n=some x):PC:=⟨.row (l.map q) ((n.toNat:Nat):Int) (q x),Mi h⟩
def pt {q:α->List Pd} {l:List α} {i:Nat} {x:α} (hx:l[i]? = some x) (hl:(l.map q).length<=maxLen):PC:=⟨.row (l.map q) (cnt 0 i) (q x),S8 hx hl⟩
def pR (q:α->List Pd) {g:List (Bool×Bool)} {l:List α} {n:Int} {x d:α} (h:Bw g (Ao l n) d=some x):PC:=⟨.when g (.row (l.map q) n (q x)),λ hg=>Ig (Ce h hg)⟩
def pN (q:α->List Pd) {g:List (Bool×Bool)} {l:List α} {n:Int} {x d:α} (h:Bw g (Ao l n) d=some x):PC:=⟨.when g (.row (l.map q) ((n.toNat:Nat):Int) (q x)),λ hg=>Mi (Ce h hg)⟩
def pa (q:α->List Pd) (size:Nat) {B:Nat} {l m y:List α} (h:F8 (B+1) l m=some y) (hs:∀ x,(q x).length=size:=by exact λ _=>rfl):PC:=⟨.app (l.map q) (m.map q) size (((l.map q).length+(m.map q).length)*(B+1)) (y.map q),Tv q size hs h⟩
def pu (q:α->List Pd) {l y:List α} {n:Int} {x x':α} (hx:Ao l n=some x) (h:On l n x'=some y):PC:=⟨.upd (l.map q) n.toNat (q x) (q x') (y.map q),S5 hx h⟩
end
theorem ws {ro:Option Nat} {n:Nat} {C:Ctx} {Q:Exit->Act->World->Prop} {st:St} {R:List Res} {items:List It} (lv:List Nat) (fuel:Nat) (ds:List Bool) (cls:List PC) (adj:List Adj) (k:Nat) (pi:List Nat) (st':St) (R':List Res) (hk:C.h.length<=k) (bs:List PB) (hW:WI ro Tryd.prog n C Q (Ar fuel items ds) st' R') (h:Cq Tryd.prog n lv fuel items st R ds (cls.map (·.1)) adj k pi (Jh st')=some (st',R',cls.map (·.1),bs.map (·.1)):=by kernel_rfl):WI ro Tryd.prog n C Q items st R:=K5 mixed lv fuel ds (cls.map (·.1)) adj k pi st' R' hk (okP cls) (okB bs) h hW
def wo (o:Option (St×List Res×List Cl×List (Bool×Bool))):St×List Res:=match o with
 | some (s,r,_,_)=>(s,r)
 | none=>([],[])
theorem wn {ro:Option Nat} {n:Nat} {C:Ctx} {Q:Exit->Act->World->Prop} {st:St} {R:List Res} {items:List It} (lv:List Nat) (fuel:Nat) (ds:List Bool) (cls:List PC) (adj:List Adj) (k:Nat) (pi:List Nat) (ks:List Nat) (hk:C.h.length<=k) (bs:List PB) (hW:WI ro Tryd.prog n C Q (Ar fuel items ds) (wo (Cq Tryd.prog n lv fuel items st R ds (cls.map (·.1)) adj k pi ks)).1 (wo (Cq Tryd.prog n lv fuel items st R ds (cls.map (·.1)) adj k pi ks)).2) (h:(Cq Tryd.prog n lv fuel items st R ds (cls.map (·.1)) adj k pi ks).map (λ x=>(Jh x.1,x.2.2.1,x.2.2.2))=some (ks,cls.map (·.1),bs.map (·.1)):=by kernel_rfl):WI ro Tryd.prog n C Q items st R:=by
 cases e:Cq Tryd.prog n lv fuel items st R ds (cls.map (·.1)) adj k pi ks with
 | none=>rw [e] at h;cases h
 | some x=>
  obtain⟨s,r,c,b⟩:=x
  rw [e] at h hW
  simp only [Option.map_some,ag,au] at h
  obtain⟨h1,h2,h3⟩:=h
  subst h1;subst h2;subst h3
  exact K5 mixed lv fuel ds _ adj k pi s r hk (okP cls) (okB bs) e hW
theorem we {ro:Option Nat} {n:Nat} {C:Ctx} {Q:Exit->Act->World->Prop} {st:St} {R:List Res} {items:List It} {σ:Type} {φ:σ->Prop} {st':σ->St} {R':σ->List Res} (lv:List Nat) (fuel:Nat) (ds:List Bool) (cls:List PC) (adj:List Adj) (k:Nat) (pi:List Nat) (s:σ) (hk:C.h.length<=k) (bs:List PB) (h1:φ s) (hi:hdK (Ar fuel items ds)=Ex n C φ st' R':=by kernel_rfl) (h:Cq Tryd.prog n lv fuel items st R ds (cls.map (·.1)) adj k pi (Jh (st' s))=some (st' s,R' s,cls.map (·.1),bs.map (·.1)):=by kernel_rfl):WI ro Tryd.prog n C Q items st R:=Q6 mixed lv fuel ds (cls.map (·.1)) adj k pi s hk (okP cls) (okB bs) hi h h1
theorem wx {σ:Type} {τ:Type} (w:Ctl σ τ) (st':σ->St) (R':σ->List Res) {ro:Option Nat} {n:Nat} {C:Ctx} {Q:Exit->Act->World->Prop} {st:St} {R:List Res} {items:List It} (lv:List Nat) (fuel:Nat) (ds:List Bool) (cls:List PC) (adj:List Adj) (k:Nat) (pi:List Nat) (s:σ) (hk:C.h.length<=k) (bs:List PB) (h1:w = .next s) (hi:hdK (Ar fuel items ds)=Ex n C (λ s'=>w = .next s') st' R':=by kernel_rfl) (h:Cq Tryd.prog n lv fuel items st R ds (cls.map (·.1)) adj k pi (Jh (st' s))=some (st' s,R' s,cls.map (·.1),bs.map (·.1)):=by kernel_rfl):WI ro Tryd.prog n C Q items st R:=Q6 mixed lv fuel ds (cls.map (·.1)) adj k pi s hk (okP cls) (okB bs) hi h h1
theorem wc {ro:Option Nat} {n:Nat} {C:Ctx} {Q:Exit->Act->World->Prop} {st:St} {R:List Res} {items:List It} {σ τ:Type} (w:Ctl σ τ) (st':σ->St) (R':σ->List Res) (h:WI ro Tryd.prog n C Q (.c (hdC items) :: .k (Ex n C (λ s=>w = .next s) st' R')::tlI items) st R) (hK:∀ s,w = .next s->WI ro Tryd.prog n C Q (tlI items) (st' s) (R' s)) (hi:isC items=true:=by kernel_rfl):WI ro Tryd.prog n C Q items st R:=U3 hi _ st' R' h hK
theorem Cg {α β γ:Type} {o:Option α} {f:α->Option β} {g:α->β->Option γ} {r:γ} (h:(o.bind λ a=>(f a).bind λ b=>g a b)=some r):∃ a,o=some a/\∃ b,f a=some b/\g a b=some r:=by
 obtain⟨a,h1,h⟩:=Ak h
 obtain⟨b,h2,h⟩:=Ak h
 exact⟨a,h1,b,h2,h⟩
theorem H7 {α β γ δ:Type} {o:Option α} {f:α->Option β} {g:α->β->Option γ} {k:α->β->γ->Option δ} {r:δ} (h:(o.bind λ a=>(f a).bind λ b=>(g a b).bind λ c=>k a b c)=some r):∃ a,o=some a/\∃ b,f a=some b/\∃ c,g a b=some c/\k a b c=some r:=by
 obtain⟨a,h1,h⟩:=Ak h
 obtain⟨b,h2,c,h3,h⟩:=Cg h
 exact⟨a,h1,b,h2,c,h3,h⟩
theorem Nk {α β γ δ ε:Type} {o:Option α} {f:α->Option β} {g:α->β->Option γ} {k:α->β->γ->Option δ} {l:α->β->γ->δ->Option ε} {r:ε} (h:(o.bind λ a=>(f a).bind λ b=>(g a b).bind λ c=>(k a b c).bind λ d=>l a b c d)=some r):∃ a,o=some a/\∃ b,f a=some b/\∃ c,g a b=some c/\∃ d,k a b c=some d/\l a b c d=some r:=by
 obtain⟨a,h1,h⟩:=Ak h
 obtain⟨b,h2,c,h3,d,h4,h⟩:=H7 h
 exact⟨a,h1,b,h2,c,h3,d,h4,h⟩
theorem wl {ro:Option Nat} {n:Nat} {C:Ctx} {Q:Exit->Act->World->Prop} {st:St} {R:List Res} {α σ τ:Type} {items:List It} {f:Nat->α->σ->Option (Ctl σ τ)} (stF:Nat->σ->St) (RF:Nat->σ->List Res) {r:Ctl σ τ} {xs:List α} {s:σ} (hm:Cx f xs 0 s=some r) (hnil:∀ s,r = .next s->WI ro Tryd.prog n C Q (.c (lpC items) :: .k (λ _ _=>False)::tlI items) (stF xs.length s) (RF xs.length s)) (hcons:∀ i x s k,i<xs.length->xs[i]? = some x->f i x s=some k->(∀ s',k = .brk s'->r = .next s')->(∀ v,k = .ret v->r = .ret v)->WI ro Tryd.prog n C Q (.c (lpC items) :: .k (Ex n C (λ s'=>k = .next s') (stF (i+1)) (RF (i+1)))::tlI items) (stF i s) (RF i s)) (hi:isL items=true:=by kernel_rfl) (h0:st=stF 0 s:=by rfl) (h1:R=RF 0 s:=by rfl):WI ro Tryd.prog n C Q items st R:=Sm hi f stF RF r xs s hm h0 h1 hnil hcons
theorem ww {ro:Option Nat} {n:Nat} {C:Ctx} {Q:Exit->Act->World->Prop} {st:St} {R:List Res} {σ τ:Type} {items:List It} {f:σ->Option (Ctl σ τ)} (stF:σ->St) (RF:σ->List Res) {r:Ctl σ τ} {fuel:Nat} {s:σ} (hm:Dx f fuel s=some r) (h:∀ s k,f s=some k->(∀ s',k = .brk s'->r = .next s')->(∀ v,k = .ret v->r = .ret v)->WI ro Tryd.prog n C Q (.c (lpC items) :: .k (Ex n C (λ s'=>k = .next s') stF RF)::tlI items) (stF s) (RF s)) (hi:isL items=true:=by kernel_rfl) (h0:st=stF s:=by rfl) (h1:R=RF s:=by rfl):WI ro Tryd.prog n C Q items st R:=Sl hi f stF RF r fuel s hm h0 h1 h
theorem cB {α:Type} {c:Bool} {x y z:α} (h:(bif c then x else y)=z):(c=true/\x=z)\/(c=false/\y=z):=by cases c;exact .inr ⟨rfl,h⟩;exact .inl ⟨rfl,h⟩
theorem wb {ro:Option Nat} {n:Nat} {C:Ctx} {Q:Exit->Act->World->Prop} {st:St} {R:List Res} {items:List It} (h:WI ro Tryd.prog n C Q (.c (Uw items) :: .b (Uv items)::tlI items) st R) (hi:isB items=true:=by kernel_rfl):WI ro Tryd.prog n C Q items st R:=U4 hi h
theorem co {f:FuncId} {fn:Func} {c:Code} {args:List AV} {res:AV} {R R2:List Res} (n:Nat) (hf:Tryd.prog.funcs[f]? = some fn) (h:∀ C:Ctx,C.h.length<=R.length->WI none Tryd.prog n C.z (Ga Tryd.prog fn C.z res R2) [.c c] (Km 0 args) R) (hb:fn.body=some c:=by rfl) (hn:fn.ntmps=n:=by rfl) (hl:Nat.ble args.length n=true:=by rfl):CallOk Tryd.prog f args R res R2:=Q3 n hf hb hn hl h
theorem wr {ro:Option Nat} {n:Nat} {C:Ctx} {st:St} {R:List Res} {fn:Func} {res:AV} {R2:List Res} {items:List It} (lv:List Nat) (fuel:Nat) (ds:List Bool) (cls:List PC) (adj:List Adj) (k:Nat) (pi:List Nat) (hk:C.h.length<=k) (bs:List PB) (h:Jr Tryd.prog n lv fuel items st R ds (cls.map (·.1)) adj fn.results.toList k pi=some (res,R2,cls.map (·.1),bs.map (·.1)):=by kernel_rfl):WI ro Tryd.prog n C.z (Ga Tryd.prog fn C.z res R2) items st R:=U1 mixed lv fuel ds (cls.map (·.1)) adj _ k pi rfl hk (okP cls) (okB bs) h
theorem wf {ro:Option Nat} {n:Nat} {C:Ctx} {st:St} {R:List Res} {fn:Func} {res:AV} {R2:List Res} {items:List It} (lv:List Nat) (fuel:Nat) (ds:List Bool) (cls:List PC) (adj:List Adj) (k:Nat) (pi:List Nat) (hk:C.h.length<=k) (bs:List PB) (hn:Rx (Ar fuel items ds)=true:=by kernel_rfl) (h:Js Tryd.prog n lv fuel items st R ds (cls.map (·.1)) adj fn.results.toList k pi=some (res,R2,cls.map (·.1),bs.map (·.1)):=by kernel_rfl):WI ro Tryd.prog n C.z (Ga Tryd.prog fn C.z res R2) items st R:=T0 mixed lv fuel ds (cls.map (·.1)) adj _ k pi rfl hk (okP cls) (okB bs) hn h
theorem en {f : FuncId} {fn : Func} (hf : Tryd.prog.funcs[f]? = some fn) (hb : fn.body.isNone = false := by kernel_rfl) (hn : (fn.name == "runtime.NumGoroutine") = false := by kernel_rfl) : Cp Tryd.prog f := Go.SL.Sc hf hb hn
abbrev ln {α:Type} (l:List α):Int:=(l.length:Int)
abbrev dI (x:Int):AV:=.d (I x)
abbrev dB (x:Bool):AV:=.d (Bo x)
abbrev dO (a b:Nat):AV:=.d (.o a b)
abbrev dS (a:Nat):AV:=.d (.os a)
theorem k38  (r:(List Au)) (h:F38  = r):CO 38 [] [] (.d (DS q82 r)) []:=by
 unfold F38 at h
 refine co 10 Tryd.func38 λ C hC=>?_
 subst h
 exact wr [0] 25 [] [] [] 0 [] hC []
theorem e38:EN 38:=en Tryd.func38
def Ms:List Nat:=[0,1,4,6,7,8,9,10,21]
def Ma (x0:Int) (x1:List Int) (n0:Nat) (z0:Unit):St:=[(0,dI x0),(4,dB false),(7,.d (DS pI x1)),(8,dI (ln x1)),(9,dI (cnt 0 n0))]
def Pp  (n0:Nat) (z0:Unit):List Res:=[]
def Qa  (z0:Unit):St:=[(4,dB false)]
def Q7  (z0:Unit):List Res:=[]
theorem k43 (x0:Int) (x1:List Int) (r:Bool) (h:F43 x0 x1=some r):CO 43 [.d (I x0),.d (DS pI x1)] [] (.d (Bo r)) []:=by
 unfold F43 at h
 refine co 23 Tryd.func43 λ C hC=>?_
 refine ws Ms 26 [] [pl pI x1] [] 0 [] (Ma x0 x1 0 ()) (Pp 0 ()) hC [] ?_
 obtain⟨w0,hm0,hret0,hnext0⟩:=Bm h
 clear h
 refine wc w0 (Qa) (Q7) ?_ λ z0 hs0=>?_
 ·refine wb ?_
  refine Gt 7 rfl λ hl0=>?_
  refine wl (Ma x0 x1) (Pp) hm0 (λ z0 hn0=>?_) λ n0 a0 z0 w0b hi0 hx0 h hb0 hr0=>?_
  ·clear hm0
   exact wx w0 (Qa) (Q7) Ms 26 [false] [] [] 0 [] _ hC [pq (Ef hl0)] hn0
  ·unfold Rb at h
   rcases cB h with⟨h1,h⟩ | ⟨h1,h⟩
   ·have hq:=hret0 _ (hr0 _ (sI h).symm)
    replace hq:=sI hq
    subst hq
    exact wr Ms 35 [true,true] [pt hx0 hl0] [] 0 [] hC [pq (Br hi0 hl0),pq h1]
   ·exact wx w0b (Ma x0 x1 (n0+1)) (Pp (n0+1)) Ms 36 [true,false] [pt hx0 hl0] [] 0 [] _ hC [pq (Br hi0 hl0),pq h1] (sI h).symm
 ·have h:=hnext0 _ hs0
  replace h:=sI h
  subst h
  exact wr Ms 23 [] [] [] 0 [] hC []
theorem e43:EN 43:=en Tryd.func43
theorem k33 (x0:Int) (r:ByteArray) (h:F33 x0=some r):CO 33 [.d (I x0)] [] (.d (.p (.v (.string r)))) []:=Vt x0 r h
theorem e33:EN 33:=en Tryd.func33
theorem k34 (x0:List ByteArray) (x1:ByteArray) (r:ByteArray) (h:F34 x0 x1=some r):CO 34 [.d (DS pS x0),.d (.p (.v (.string x1)))] [] (.d (.p (.v (.string r)))) []:=Vs x0 x1 r h
theorem e34:EN 34:=en Tryd.func34
def C1:List Nat:=[0,1,4,5,8,9,10,27,28,29]
def Jc (y1:Int) (z0:Sg0):St:=[(0,dO 0 0),(8,dI y1),(9,dI z0.1)]
def K7 (x0:Ab) (z0:Sg0):List Res:=[.box 79 [I x0.time,I x0.weather.Wind.From,I x0.weather.Wind.Speed,I x0.weather.Current.From,I x0.weather.Current.Speed,I x0.weather.Wave.From,I x0.weather.Wave.Speed,I x0.heading,I z0.2.1,I z0.2.2.1,I (g3_ z0),I (g4_ z0),I (g5_ z0),I (g6_ z0),I (g7_ z0),.os 6,.os 7,.os 8,I (g8_ z0),.os 9,.os 10],.non,.non,.non,.non,.non,v1_ (g9_ z0),v2_ (Dm z0),v3_ (Dl z0),v4_ (Dk z0),v0_ (Ik z0)]
def Mf  (z0:Sg0):St:=[]
def Nn (x0:Ab) (z0:Sg0):List Res:=[.box 79 [I x0.time,I x0.weather.Wind.From,I x0.weather.Wind.Speed,I x0.weather.Current.From,I x0.weather.Current.Speed,I x0.weather.Wave.From,I x0.weather.Wave.Speed,I x0.heading,I z0.2.1,I z0.2.2.1,I (g3_ z0),I (g4_ z0),I (g5_ z0),I (g6_ z0),I (g7_ z0),.os 6,.os 7,.os 8,I (g8_ z0),.os 9,.os 10],.non,.non,.non,.non,.non,v1_ (g9_ z0),v2_ (Dm z0),v3_ (Dl z0),v4_ (Dk z0),v0_ (Ik z0)]
def Jb (y1:Int) (z0:Sg0) (z1:Int×(List As)):St:=[(0,dO 0 0),(4,dO 11 0),(8,dI y1),(9,dI z0.1),(27,dI (ln (g9_ z0))),(28,dI z1.1)]
def K6 (x0:Ab) (z0:Sg0) (z1:Int×(List As)):List Res:=[.box 79 [I x0.time,I x0.weather.Wind.From,I x0.weather.Wind.Speed,I x0.weather.Current.From,I x0.weather.Current.Speed,I x0.weather.Wave.From,I x0.weather.Wave.Speed,I x0.heading,I z0.2.1,I z0.2.2.1,I (g3_ z0),I (g4_ z0),I (g5_ z0),I (g6_ z0),I (g7_ z0),.os 6,.os 7,.os 8,I (g8_ z0),.os 9,.os 10],.non,.non,.non,.non,.non,v1_ z1.2,v2_ (Dm z0),v3_ (Dl z0),v4_ (Dk z0),v0_ (Ik z0),.box 50 [I x0.weather.Wind.From,I x0.weather.Wind.Speed,I x0.weather.Current.From,I x0.weather.Current.Speed,I x0.weather.Wave.From,I x0.weather.Wave.Speed,I x0.heading,.os 6,.os 7,.os 8,I (g8_ z0),.os 9]]
def Me (y1:Int) (z0:Sg0) (z1:Int×(List As)):St:=[(0,dO 0 0),(4,dO 11 0),(8,dI y1),(9,dI z0.1)]
def Nm (x0:Ab) (z0:Sg0) (z1:Int×(List As)):List Res:=[.box 79 [I x0.time,I x0.weather.Wind.From,I x0.weather.Wind.Speed,I x0.weather.Current.From,I x0.weather.Current.Speed,I x0.weather.Wave.From,I x0.weather.Wave.Speed,I x0.heading,I z0.2.1,I z0.2.2.1,I (g3_ z0),I (g4_ z0),I (g5_ z0),I (g6_ z0),I (g7_ z0),.os 6,.os 7,.os 8,I (g8_ z0),.os 9,.os 10],.non,.non,.non,.non,.non,v1_ z1.2,v2_ (Dm z0),v3_ (Dl z0),v4_ (Dk z0),v0_ (Ik z0),.box 50 [I x0.weather.Wind.From,I x0.weather.Wind.Speed,I x0.weather.Current.From,I x0.weather.Current.Speed,I x0.weather.Wave.From,I x0.weather.Wave.Speed,I x0.heading,.os 6,.os 7,.os 8,I (g8_ z0),.os 9]]
theorem Vi (x0:Ab) (x1:List Int) (r:Ab) (h:Pu x0 x1=some r):CO 56 [.d (.o 0 0),.d (DS pI x1)] [.box 79 [I x0.time,I x0.weather.Wind.From,I x0.weather.Wind.Speed,I x0.weather.Current.From,I x0.weather.Current.Speed,I x0.weather.Wave.From,I x0.weather.Wave.Speed,I x0.heading,I x0.next.Weather.Wind.From,I x0.next.Weather.Wind.Speed,I x0.next.Weather.Current.From,I x0.next.Weather.Current.Speed,I x0.next.Weather.Wave.From,I x0.next.Weather.Wave.Speed,I x0.next.Heading,.os 1,.os 2,.os 3,I x0.next.Request,.os 4,.os 5],v1_ x0.next.Sights,v2_ x0.next.Acts,v3_ x0.next.Faults,v4_ x0.next.Seen,v0_ x0.out] (.tup []) [.box 79 [I r.time,I r.weather.Wind.From,I r.weather.Wind.Speed,I r.weather.Current.From,I r.weather.Current.Speed,I r.weather.Wave.From,I r.weather.Wave.Speed,I r.heading,I r.next.Weather.Wind.From,I r.next.Weather.Wind.Speed,I r.next.Weather.Current.From,I r.next.Weather.Current.Speed,I r.next.Weather.Wave.From,I r.next.Weather.Wave.Speed,I r.next.Heading,.os 6,.os 7,.os 8,I r.next.Request,.os 9,.os 10],.non,.non,.non,.non,.non,v1_ r.next.Sights,v2_ r.next.Acts,v3_ r.next.Faults,v4_ r.next.Seen,v0_ r.out]:=by
 unfold Pu at h
 refine co 64 Tryd.func56 λ C hC=>?_
 obtain⟨y1,h2,h⟩:=Ak h
 refine ws C1 23 [] [pr pI h2] [.mv 1,.mv 2,.mv 3,.mv 4,.mv 5] 6 Rz (Jc y1 (0,x0.next.Weather.Wind.From,x0.next.Weather.Wind.Speed,x0.next.Weather.Current.From,x0.next.Weather.Current.Speed,x0.next.Weather.Wave.From,x0.next.Weather.Wave.Speed,x0.next.Heading,x0.next.Request,x0.next.Sights,x0.next.Acts,x0.next.Faults,x0.next.Seen,x0.out)) (K7 x0 (0,x0.next.Weather.Wind.From,x0.next.Weather.Wind.Speed,x0.next.Weather.Current.From,x0.next.Weather.Current.Speed,x0.next.Weather.Wave.From,x0.next.Weather.Wave.Speed,x0.next.Heading,x0.next.Request,x0.next.Sights,x0.next.Acts,x0.next.Faults,x0.next.Seen,x0.out)) hC [] ?_
 obtain⟨w0,hm0,hret0,hnext0⟩:=Bm h
 clear h
 refine wc w0 (Mf) (Nn x0) ?_ λ z0 hs0=>?_
 ·refine wb ?_
  refine ww (Jc y1) (K7 x0) hm0 λ z0 w0b h hb0 hr0=>?_
  unfold Ns at h
  rcases cB h with⟨h3,h⟩ | ⟨h3,h⟩
  ·refine ws C1 35 [true] [pl q88 (g9_ z0)] [] 6 Ry (Jb y1 z0 (0,(g9_ z0))) (K6 x0 z0 (0,(g9_ z0))) hC [pq h3] ?_
   obtain⟨w1,hm1,hret1,hnext1⟩:=Bm h
   clear h
   refine wc w1 (Me y1 z0) (Nm x0 z0) ?_ λ z1 hs1=>?_
   ·refine wb ?_
    refine ww (Jb y1 z0) (K6 x0 z0) hm1 λ z1 w1b h hb1 hr1=>?_
    unfold Nr at h
    rcases cB h with⟨h4,h⟩ | ⟨h4,h⟩
    ·obtain⟨y5,h6,y7,h8,h⟩:=Cg h
     exact wx w1b (Jb y1 z0) (K6 x0 z0) C1 33 [true] [pl q50 (Ik z0),pr q88 h6,pu q88 h6 h8] [] 6 Ry _ hC [pq h4] (sI h).symm
    ·exact wx w1 (Me y1 z0) (Nm x0 z0) C1 26 [false] [] [] 6 Ry (z1.1,z1.2) hC [pq h4] (hb1 _ (sI h).symm)
   ·have h:=hnext1 _ hs1
    refine wn C1 0 [] [] [.frz 6] 6 [0,1,2,3,4,5,7,8,9,10,11] [0,4,8,9] hC [] ?_
    refine wn C1 0 [] [] [.frz 6] 6 [0,1,2,3,4,5,7,8,9,10] [0,4,8,9] hC [] ?_
    refine wn C1 0 [] [] [.frz 6] 6 [0,1,2,3,4,5,7,8,9] [0,4,8,9] hC [] ?_
    refine wn C1 0 [] [] [.frz 6] 6 [0,1,2,3,4,5,7,8] [0,4,8,9] hC [] ?_
    obtain⟨y9,h10,h⟩:=Ak h
    exact wx w0b (Jc y1) (K7 x0) C1 24 [] [pa q50 12 h10] [.ownb 0 15 88 5,.ownb 0 16 90 3,.ownb 0 17 94 4,.ownb 0 19 3 1] 6 [0,1,2,3,4,5,9,10,11,12,8] _ hC [] (sI h).symm
  ·exact wx w0 (Mf) (Nn x0) C1 26 [false] [] [] 6 Rz (z0.1,z0.2.1,z0.2.2.1,(g3_ z0),(g4_ z0),(g5_ z0),(g6_ z0),(g7_ z0),(g8_ z0),(g9_ z0),(Dm z0),(Dl z0),(Dk z0),(Ik z0)) hC [pq h3] (hb0 _ (sI h).symm)
 ·have h:=hnext0 _ hs0
  replace h:=sI h
  subst h
  exact wf C1 20 [] [] [] 6 Rz hC []
theorem Vv:EN 56:=en Tryd.func56
theorem Vj (x0:Ab) (x1:List Int) (r:Ab) (h:Pv x0 x1=some r):CO 55 [.d (.o 0 0),.d (DS pI x1)] [.box 79 [I x0.time,I x0.weather.Wind.From,I x0.weather.Wind.Speed,I x0.weather.Current.From,I x0.weather.Current.Speed,I x0.weather.Wave.From,I x0.weather.Wave.Speed,I x0.heading,I x0.next.Weather.Wind.From,I x0.next.Weather.Wind.Speed,I x0.next.Weather.Current.From,I x0.next.Weather.Current.Speed,I x0.next.Weather.Wave.From,I x0.next.Weather.Wave.Speed,I x0.next.Heading,.os 1,.os 2,.os 3,I x0.next.Request,.os 4,.os 5],v1_ x0.next.Sights,v2_ x0.next.Acts,v3_ x0.next.Faults,v4_ x0.next.Seen,v0_ x0.out] (.tup []) [.box 79 [I r.time,I r.weather.Wind.From,I r.weather.Wind.Speed,I r.weather.Current.From,I r.weather.Current.Speed,I r.weather.Wave.From,I r.weather.Wave.Speed,I r.heading,I r.next.Weather.Wind.From,I r.next.Weather.Wind.Speed,I r.next.Weather.Current.From,I r.next.Weather.Current.Speed,I r.next.Weather.Wave.From,I r.next.Weather.Wave.Speed,I r.next.Heading,.os 1,.os 2,.os 3,I r.next.Request,.os 6,.os 5],v1_ r.next.Sights,v2_ r.next.Acts,v3_ r.next.Faults,.non,v0_ r.out,v4_ r.next.Seen]:=by
 unfold Pv at h
 refine co 18 Tryd.func55 λ C hC=>?_
 obtain⟨y1,h2,y3,h4,h⟩:=Cg h
 replace h:=sI h
 subst h
 exact wf [0,1] 21 [] [pr pI h2,pa pI 1 h4] [] 6 n7_ hC []
theorem Vw:EN 55:=en Tryd.func55
theorem Vk (x0:Ab) (x1:List Int) (r:Ab) (h:Pw x0 x1=some r):CO 54 [.d (.o 0 0),.d (DS pI x1)] [.box 79 [I x0.time,I x0.weather.Wind.From,I x0.weather.Wind.Speed,I x0.weather.Current.From,I x0.weather.Current.Speed,I x0.weather.Wave.From,I x0.weather.Wave.Speed,I x0.heading,I x0.next.Weather.Wind.From,I x0.next.Weather.Wind.Speed,I x0.next.Weather.Current.From,I x0.next.Weather.Current.Speed,I x0.next.Weather.Wave.From,I x0.next.Weather.Wave.Speed,I x0.next.Heading,.os 1,.os 2,.os 3,I x0.next.Request,.os 4,.os 5],v1_ x0.next.Sights,v2_ x0.next.Acts,v3_ x0.next.Faults,v4_ x0.next.Seen,v0_ x0.out] (.tup []) [.box 79 [I r.time,I r.weather.Wind.From,I r.weather.Wind.Speed,I r.weather.Current.From,I r.weather.Current.Speed,I r.weather.Wave.From,I r.weather.Wave.Speed,I r.heading,I r.next.Weather.Wind.From,I r.next.Weather.Wind.Speed,I r.next.Weather.Current.From,I r.next.Weather.Current.Speed,I r.next.Weather.Wave.From,I r.next.Weather.Wave.Speed,I r.next.Heading,.os 1,.os 2,.os 3,I r.next.Request,.os 4,.os 5],v1_ r.next.Sights,v2_ r.next.Acts,v3_ r.next.Faults,v4_ r.next.Seen,v0_ r.out]:=by
 unfold Pw at h
 refine co 11 Tryd.func54 λ C hC=>?_
 obtain⟨y1,h2,h⟩:=Ak h
 replace h:=sI h
 subst h
 exact wf [0,1] 21 [] [pr pI h2] [] 6 n6_ hC []
theorem Vx:EN 54:=en Tryd.func54
theorem Vl (x0:Ab) (x1:List Int) (r:Ab) (h:Px x0 x1=some r):CO 53 [.d (.o 0 0),.d (DS pI x1)] [.box 79 [I x0.time,I x0.weather.Wind.From,I x0.weather.Wind.Speed,I x0.weather.Current.From,I x0.weather.Current.Speed,I x0.weather.Wave.From,I x0.weather.Wave.Speed,I x0.heading,I x0.next.Weather.Wind.From,I x0.next.Weather.Wind.Speed,I x0.next.Weather.Current.From,I x0.next.Weather.Current.Speed,I x0.next.Weather.Wave.From,I x0.next.Weather.Wave.Speed,I x0.next.Heading,.os 1,.os 2,.os 3,I x0.next.Request,.os 4,.os 5],v1_ x0.next.Sights,v2_ x0.next.Acts,v3_ x0.next.Faults,v4_ x0.next.Seen,v0_ x0.out] (.tup []) [.box 79 [I r.time,I r.weather.Wind.From,I r.weather.Wind.Speed,I r.weather.Current.From,I r.weather.Current.Speed,I r.weather.Wave.From,I r.weather.Wave.Speed,I r.heading,I r.next.Weather.Wind.From,I r.next.Weather.Wind.Speed,I r.next.Weather.Current.From,I r.next.Weather.Current.Speed,I r.next.Weather.Wave.From,I r.next.Weather.Wave.Speed,I r.next.Heading,.os 6,.os 2,.os 3,I r.next.Request,.os 4,.os 5],.non,v2_ r.next.Acts,v3_ r.next.Faults,v4_ r.next.Seen,v0_ r.out,v1_ r.next.Sights]:=by
 unfold Px at h
 refine co 29 Tryd.func53 λ C hC=>?_
 obtain⟨y1,h2,y3,h4,y5,h6,h⟩:=H7 h
 obtain⟨y7,h8,y9,h10,h⟩:=Cg h
 replace h:=sI h
 subst h
 exact wf [0,1] 21 [] [pr pI h2,pr pI h4,pr pI h6,pr pI h8,pa q88 5 h10] [] 6 n7_ hC []
theorem Vy:EN 53:=en Tryd.func53
theorem Vm (x0:Ab) (x1:List Int) (r:Ab) (h:Py x0 x1=some r):CO 52 [.d (.o 0 0),.d (DS pI x1)] [.box 79 [I x0.time,I x0.weather.Wind.From,I x0.weather.Wind.Speed,I x0.weather.Current.From,I x0.weather.Current.Speed,I x0.weather.Wave.From,I x0.weather.Wave.Speed,I x0.heading,I x0.next.Weather.Wind.From,I x0.next.Weather.Wind.Speed,I x0.next.Weather.Current.From,I x0.next.Weather.Current.Speed,I x0.next.Weather.Wave.From,I x0.next.Weather.Wave.Speed,I x0.next.Heading,.os 1,.os 2,.os 3,I x0.next.Request,.os 4,.os 5],v1_ x0.next.Sights,v2_ x0.next.Acts,v3_ x0.next.Faults,v4_ x0.next.Seen,v0_ x0.out] (.tup []) [.box 79 [I r.time,I r.weather.Wind.From,I r.weather.Wind.Speed,I r.weather.Current.From,I r.weather.Current.Speed,I r.weather.Wave.From,I r.weather.Wave.Speed,I r.heading,I r.next.Weather.Wind.From,I r.next.Weather.Wind.Speed,I r.next.Weather.Current.From,I r.next.Weather.Current.Speed,I r.next.Weather.Wave.From,I r.next.Weather.Wave.Speed,I r.next.Heading,.os 1,.os 2,.os 3,I r.next.Request,.os 4,.os 5],v1_ r.next.Sights,v2_ r.next.Acts,v3_ r.next.Faults,v4_ r.next.Seen,v0_ r.out]:=by
 unfold Py at h
 refine co 35 Tryd.func52 λ C hC=>?_
 obtain⟨y1,h2,y3,h4,y5,h6,y7,h8,h⟩:=Nk h
 obtain⟨y9,h10,y11,h12,y13,h14,h⟩:=H7 h
 replace h:=sI h
 subst h
 exact wf [0,1] 23 [] [pr pI h2,pr pI h4,pr pI h6,pr pI h8,pr pI h10,pr pI h12,pr pI h14] [] 6 n6_ hC []
theorem Vz:EN 52:=en Tryd.func52
theorem S0 (x0:Ab) (x1:Int) (x2:List Int) (r:Ab) (h:L6 x0 x1 x2=some r):CO 50 [.d (.o 0 0),.d (I x1),.d (DS pI x2)] [.box 79 [I x0.time,I x0.weather.Wind.From,I x0.weather.Wind.Speed,I x0.weather.Current.From,I x0.weather.Current.Speed,I x0.weather.Wave.From,I x0.weather.Wave.Speed,I x0.heading,I x0.next.Weather.Wind.From,I x0.next.Weather.Wind.Speed,I x0.next.Weather.Current.From,I x0.next.Weather.Current.Speed,I x0.next.Weather.Wave.From,I x0.next.Weather.Wave.Speed,I x0.next.Heading,.os 1,.os 2,.os 3,I x0.next.Request,.os 4,.os 5],v1_ x0.next.Sights,v2_ x0.next.Acts,v3_ x0.next.Faults,v4_ x0.next.Seen,v0_ x0.out] (.tup []) [.box 79 [I r.time,I r.weather.Wind.From,I r.weather.Wind.Speed,I r.weather.Current.From,I r.weather.Current.Speed,I r.weather.Wave.From,I r.weather.Wave.Speed,I r.heading,I r.next.Weather.Wind.From,I r.next.Weather.Wind.Speed,I r.next.Weather.Current.From,I r.next.Weather.Current.Speed,I r.next.Weather.Wave.From,I r.next.Weather.Wave.Speed,I r.next.Heading,.os 1,.os 2,.os 6,I r.next.Request,.os 4,.os 5],v1_ r.next.Sights,v2_ r.next.Acts,.non,v4_ r.next.Seen,v0_ r.out,v3_ r.next.Faults]:=by
 unfold L6 at h
 refine co 26 Tryd.func50 λ C hC=>?_
 obtain⟨y1,h2,y3,h4,y5,h6,h⟩:=H7 h
 replace h:=sI h
 subst h
 exact wf n3_ 21 [] [pr pI h2,pr pI h4,pa q94 4 h6] [] 6 n7_ hC []
theorem S3:EN 50:=en Tryd.func50
theorem Vp (x0:Ab) (x1:List Int) (r:Ab) (h:P1 x0 x1=some r):CO 48 [.d (.o 0 0),.d (DS pI x1)] [.box 79 [I x0.time,I x0.weather.Wind.From,I x0.weather.Wind.Speed,I x0.weather.Current.From,I x0.weather.Current.Speed,I x0.weather.Wave.From,I x0.weather.Wave.Speed,I x0.heading,I x0.next.Weather.Wind.From,I x0.next.Weather.Wind.Speed,I x0.next.Weather.Current.From,I x0.next.Weather.Current.Speed,I x0.next.Weather.Wave.From,I x0.next.Weather.Wave.Speed,I x0.next.Heading,.os 1,.os 2,.os 3,I x0.next.Request,.os 4,.os 5],v1_ x0.next.Sights,v2_ x0.next.Acts,v3_ x0.next.Faults,v4_ x0.next.Seen,v0_ x0.out] (.tup []) [.box 79 [I r.time,I r.weather.Wind.From,I r.weather.Wind.Speed,I r.weather.Current.From,I r.weather.Current.Speed,I r.weather.Wave.From,I r.weather.Wave.Speed,I r.heading,I r.next.Weather.Wind.From,I r.next.Weather.Wind.Speed,I r.next.Weather.Current.From,I r.next.Weather.Current.Speed,I r.next.Weather.Wave.From,I r.next.Weather.Wave.Speed,I r.next.Heading,.os 1,.os 6,.os 3,I r.next.Request,.os 4,.os 5],v1_ r.next.Sights,.non,v3_ r.next.Faults,v4_ r.next.Seen,v0_ r.out,v2_ r.next.Acts]:=by
 unfold P1 at h
 refine co 25 Tryd.func48 λ C hC=>?_
 obtain⟨y1,h2,y3,h4,y5,h6,y7,h8,h⟩:=Nk h
 replace h:=sI h
 subst h
 exact wf [0,1] 21 [] [pr pI h2,pr pI h4,pr pI h6,pa q90 3 h8] [] 6 n7_ hC []
theorem V2:EN 48:=en Tryd.func48
theorem k7 (x0:List Int) (r:Am) (h:F7 x0=some r):CO 7 [.d (DS pI x0)] [] (.d (.o 0 0)) [.box 53 (d53 r)]:=by
 unfold F7 at h
 refine co 10 Tryd.func7 λ C hC=>?_
 obtain⟨y2,h1,h⟩:=Ak h
 replace h:=sI h
 subst h
 exact wr [0,2] 25 [] [pl pI x0,⟨.cut (x0.map pI) 1 0 (min (ln x0) 600) (y2.map pI),Tl pI 1 (λ _=>rfl) h1⟩] [] 0 [0] hC []
theorem e7:EN 7:=en Tryd.func7
theorem k24 (x0:Int) (x1:Int) (r:Int) (h:F24 x0 x1=some r):CO 24 [.d (I x0),.d (I x1)] [] (.d (I r)) []:=by
 unfold F24 at h
 refine co 14 Tryd.func24 λ C hC=>?_
 rcases cB h with⟨h1,h⟩ | ⟨h1,h⟩
 ·replace h:=sI h
  subst h
  exact wr [0,1,4,6] 29 [true] [] [] 0 [] hC [pq h1]
 ·obtain⟨u3,h2,u5,h4,h⟩:=Cg h
  replace h:=sI h
  subst h
  exact wr [0,1,4,6] 30 [false] [⟨.nz x1,J2 h2⟩,⟨.nz x1,J2 h4⟩] [] 0 [] hC [pq h1]
theorem e24:EN 24:=en Tryd.func24
theorem Ul (x0:Int) (h1:Ir x0=true):CO 26 [.d (I x0)] [] (.tup [.agg [.p (.v (.string ByteArray.empty)),I 0,.p (.v .nilFunc)],.d (Bo false)]) []:=by
 refine co 20 Tryd.func26 λ C hC=>?_
 exact wr [0,2,3,4,13] 31 [true] [pc e38 (k38 _ rfl) [],pL_ [(decide (x0<1),false)] q82 F38] [] 0 [] hC [pq h1]
theorem Fw (x0:Int) (r:Au) (h1:Ir x0=false) (h:Ao F38 (w64 (x0-1))=some r):CO 26 [.d (I x0)] [] (.tup [.agg (d82 r),.d (Bo true)]) []:=by
 refine co 20 Tryd.func26 λ C hC=>?_
 exact wr [0,2,3,4,13] 32 [false] [pc e38 (k38 _ rfl) [],pL_ [(decide (x0<1),false)] q82 F38,pr q82 h] [] 0 [] hC [pq h1]
theorem e26:EN 26:=en Tryd.func26
theorem Vn (x0:Ab) (x1:List Int) (r:Ab) (h:Pz x0 x1=some r):CO 51 [.d (.o 0 0),.d (DS pI x1)] [.box 79 [I x0.time,I x0.weather.Wind.From,I x0.weather.Wind.Speed,I x0.weather.Current.From,I x0.weather.Current.Speed,I x0.weather.Wave.From,I x0.weather.Wave.Speed,I x0.heading,I x0.next.Weather.Wind.From,I x0.next.Weather.Wind.Speed,I x0.next.Weather.Current.From,I x0.next.Weather.Current.Speed,I x0.next.Weather.Wave.From,I x0.next.Weather.Wave.Speed,I x0.next.Heading,.os 1,.os 2,.os 3,I x0.next.Request,.os 4,.os 5],v1_ x0.next.Sights,v2_ x0.next.Acts,v3_ x0.next.Faults,v4_ x0.next.Seen,v0_ x0.out] (.tup []) [.box 79 [I r.time,I r.weather.Wind.From,I r.weather.Wind.Speed,I r.weather.Current.From,I r.weather.Current.Speed,I r.weather.Wave.From,I r.weather.Wave.Speed,I r.heading,I r.next.Weather.Wind.From,I r.next.Weather.Wind.Speed,I r.next.Weather.Current.From,I r.next.Weather.Current.Speed,I r.next.Weather.Wave.From,I r.next.Weather.Wave.Speed,I r.next.Heading,.os 1,.os 2,.os 6,I r.next.Request,.os 4,.os 5],v1_ r.next.Sights,v2_ r.next.Acts,.non,v4_ r.next.Seen,v0_ r.out,v3_ r.next.Faults]:=by
 unfold Pz at h
 refine co 7 Tryd.func51 λ C hC=>?_
 obtain⟨y1,h2,h⟩:=Ak h
 replace h:=sI h
 subst h
 exact wf [0,1] 21 [] [pc S3 (S0 x0 2 x1 _ h2) n6_] [] 6 n7_ hC []
theorem V0:EN 51:=en Tryd.func51
theorem Vo (x0:Ab) (x1:List Int) (r:Ab) (h:P0 x0 x1=some r):CO 49 [.d (.o 0 0),.d (DS pI x1)] [.box 79 [I x0.time,I x0.weather.Wind.From,I x0.weather.Wind.Speed,I x0.weather.Current.From,I x0.weather.Current.Speed,I x0.weather.Wave.From,I x0.weather.Wave.Speed,I x0.heading,I x0.next.Weather.Wind.From,I x0.next.Weather.Wind.Speed,I x0.next.Weather.Current.From,I x0.next.Weather.Current.Speed,I x0.next.Weather.Wave.From,I x0.next.Weather.Wave.Speed,I x0.next.Heading,.os 1,.os 2,.os 3,I x0.next.Request,.os 4,.os 5],v1_ x0.next.Sights,v2_ x0.next.Acts,v3_ x0.next.Faults,v4_ x0.next.Seen,v0_ x0.out] (.tup []) [.box 79 [I r.time,I r.weather.Wind.From,I r.weather.Wind.Speed,I r.weather.Current.From,I r.weather.Current.Speed,I r.weather.Wave.From,I r.weather.Wave.Speed,I r.heading,I r.next.Weather.Wind.From,I r.next.Weather.Wind.Speed,I r.next.Weather.Current.From,I r.next.Weather.Current.Speed,I r.next.Weather.Wave.From,I r.next.Weather.Wave.Speed,I r.next.Heading,.os 1,.os 2,.os 6,I r.next.Request,.os 4,.os 5],v1_ r.next.Sights,v2_ r.next.Acts,.non,v4_ r.next.Seen,v0_ r.out,v3_ r.next.Faults]:=by
 unfold P0 at h
 refine co 7 Tryd.func49 λ C hC=>?_
 obtain⟨y1,h2,h⟩:=Ak h
 replace h:=sI h
 subst h
 exact wf [0,1] 21 [] [pc S3 (S0 x0 1 x1 _ h2) n6_] [] 6 n7_ hC []
theorem V1:EN 49:=en Tryd.func49
theorem k12 (x0:Am) (x1:Int) (r:Int×Am) (h:F12 x0 x1=some r):CO 12 [.d (.o 0 0),.d (I x1)] [.box 53 (d53 x0)] (.d (I r.1)) [.box 53 (d53 r.2)]:=by
 unfold F12 at h
 refine co 35 Tryd.func12 λ C hC=>?_
 rcases cB h with⟨h1,h⟩ | ⟨h1,h⟩
 ·replace h:=sI h
  subst h
  exact wr [0,1,4,14] 29 [true] [pl pI x0.L] [] 1 [0] hC [pq h1]
 ·obtain⟨y2,h3,y4,h5,h⟩:=Cg h
  replace h:=sI h
  subst h
  exact wr [0,1,4,14] 32 [false] [pl pI x0.L,pr pI h3,pc e24 (k24 y2 x1 _ h5) []] [] 1 [0] hC [pq h1]
theorem e12:EN 12:=en Tryd.func12
theorem k31 (x0:Aa) (r:Bool) (h:F31 x0=some r):CO 31 [.agg (d36 x0)] [] (.d (Bo r)) []:=by
 unfold F31 at h
 refine co 44 Tryd.func31 λ C hC=>?_
 rcases cB h with⟨h1,h⟩ | ⟨h1,h⟩
 ·obtain⟨y2,h3,h⟩:=Ak h
  replace h:=sI h
  subst h
  exact wr [0,1,2,3,4,26] 31 [true] [pc e26 (Ul x0.Kind h1) [],pL_ [(true,false)] pI x0.Numbers,pw e43 (λ hg=>k43 1000000000 x0.Numbers _ (Ce h3 hg)) []] [] 0 [] hC [⟨(true,true),rfl⟩]
 ·obtain⟨y4,h5,y6,h7,h⟩:=Cg h
  refine wn [0,1,2,3,4,26] 28 [] [pc e26 (Fw x0.Kind y4 h1 h5) [],pL_ [(false,false)] pI x0.Numbers,pw e43 (λ hg=>k43 1000000000 x0.Numbers _ (Ce h7 hg)) []] [] 0 [0] [1,2,26] hC [] ?_
  rcases cB h with⟨h8,h⟩ | ⟨h8,h⟩
  ·replace h:=sI h
   subst h
   exact wr [0,1,2,3,4,26] 24 [true] [] [] 0 [] hC [pq h8]
  ·obtain⟨y9,h10,y11,h12,h⟩:=Cg h
   replace h:=sI h
   subst h
   exact wr [0,1,2,3,4,26] 25 [false] [pR pI h10,pR pI h12] [] 0 [] hC [pq h8]
theorem e31:EN 31:=en Tryd.func31
def Hw:List Nat:=[0,1,2,3,5,7,18,19,20,21]
def Mc (x0:Aa) (n0:Nat) (z0:(List ByteArray)):St:=[(2,.d (.p (.v (.string (⟨#[]⟩:ByteArray))))),(5,dS 0),(18,.d (DS pI x0.Numbers)),(19,dI (ln x0.Numbers)),(20,dI (cnt 0 n0))]
def Pr  (n0:Nat) (z0:(List ByteArray)):List Res:=[.sl 9 1 (z0.map pS)]
def Qd  (z0:(List ByteArray)):St:=[(2,.d (.p (.v (.string (⟨#[]⟩:ByteArray))))),(5,dS 0)]
def Q_  (z0:(List ByteArray)):List Res:=[.sl 9 1 (z0.map pS)]
def Mb (x0:Aa) (n1:Nat) (z1:(List ByteArray)):St:=[(2,.d (.p (.v (.string (⟨#[]⟩:ByteArray))))),(5,dS 0),(18,.d (DS pI x0.Numbers)),(19,dI (ln x0.Numbers)),(20,dI (cnt 0 n1))]
def Pq  (n1:Nat) (z1:(List ByteArray)):List Res:=[.sl 9 1 (z1.map pS)]
def Qc  (z1:(List ByteArray)):St:=[(2,.d (.p (.v (.string (⟨#[]⟩:ByteArray))))),(5,dS 0)]
def Q9  (z1:(List ByteArray)):List Res:=[.sl 9 1 (z1.map pS)]
theorem k18 (x0:Aa) (r:ByteArray) (h:F18 x0=some r):CO 18 [.agg (d36 x0)] [] (.d (.p (.v (.string r)))) []:=by
 unfold F18 at h
 refine co 33 Tryd.func18 λ C hC=>?_
 rcases cB h with⟨h1,h⟩ | ⟨h1,h⟩
 ·refine ws Hw 30 [] [pc e26 (Ul x0.Kind h1) [],⟨.own,trivial⟩,pl pI x0.Numbers] [] 0 [2] (Mc x0 0 [ByteArray.empty]) (Pr 0 [ByteArray.empty]) hC [] ?_
  obtain⟨w0,hm0,hret0,hnext0⟩:=Bm h
  clear h
  refine wc w0 (Qd) (Q_) ?_ λ z0 hs0=>?_
  ·refine wb ?_
   refine Gt 18 rfl λ hl0=>?_
   refine wl (Mc x0) (Pr) hm0 (λ z0 hn0=>?_) λ n0 a0 z0 w0b hi0 hx0 h hb0 hr0=>?_
   ·clear hm0
    exact wx w0 (Qd) (Q_) Hw 26 [false] [] [] 0 [0] _ hC [pq (Ef hl0)] hn0
   ·unfold Rf at h
    obtain⟨y2,h3,y4,h5,h⟩:=Cg h
    exact wx w0b (Mc x0 (n0+1)) (Pr (n0+1)) Hw 33 [true] [pt hx0 hl0,pc e33 (k33 a0 _ h3) [],pa pS 1 h5] [] 0 [1] _ hC [pq (Br hi0 hl0)] (sI h).symm
  ·have h:=hnext0 _ hs0
   obtain⟨y6,h7,u9,h8,h⟩:=Cg h
   replace h:=sI h
   subst h
   exact wr Hw 23 [] [pb e34 (k34 z0 (⟨#[32]⟩:ByteArray) _ h7),⟨.nz (K4 y6 (⟨#[10]⟩:ByteArray)),J2 h8⟩] [] 0 [] hC []
 ·obtain⟨y10,h11,h⟩:=Ak h
  refine ws Hw 30 [] [pc e26 (Fw x0.Kind y10 h1 h11) [],⟨.own,trivial⟩,pl pI x0.Numbers] [] 0 [2] (Mb x0 0 [y10.word]) (Pq 0 [y10.word]) hC [] ?_
  obtain⟨w1,hm1,hret1,hnext1⟩:=Bm h
  clear h
  refine wc w1 (Qc) (Q9) ?_ λ z1 hs1=>?_
  ·refine wb ?_
   refine Gt 18 rfl λ hl1=>?_
   refine wl (Mb x0) (Pq) hm1 (λ z1 hn1=>?_) λ n1 a1 z1 w1b hi1 hx1 h hb1 hr1=>?_
   ·clear hm1
    exact wx w1 (Qc) (Q9) Hw 26 [false] [] [] 0 [0] _ hC [pq (Ef hl1)] hn1
   ·unfold Re at h
    obtain⟨y12,h13,y14,h15,h⟩:=Cg h
    exact wx w1b (Mb x0 (n1+1)) (Pq (n1+1)) Hw 33 [true] [pt hx1 hl1,pc e33 (k33 a1 _ h13) [],pa pS 1 h15] [] 0 [1] _ hC [pq (Br hi1 hl1)] (sI h).symm
  ·have h:=hnext1 _ hs1
   obtain⟨y16,h17,u19,h18,h⟩:=Cg h
   replace h:=sI h
   subst h
   exact wr Hw 23 [] [pb e34 (k34 z1 (⟨#[32]⟩:ByteArray) _ h17),⟨.nz (K4 y16 (⟨#[10]⟩:ByteArray)),J2 h18⟩] [] 0 [] hC []
theorem k10 (x0:ByteArray) (r:List Aa×Int×Int) (h:F10 x0=some r):CO 10 [.d (.p (.v (.string x0)))] [] (.tup [.d (DS q36 r.1),.d (I r.2.1),.d (I r.2.2)]) []:=Ui F31 F18 k31 k18 x0 r h
theorem e10:EN 10:=en Tryd.func10
def Mt:List Nat:=[0,2,3,5,6,7,8,9,18]
def Jv (x0:List Aa) (n0:Nat) (z0:Int):St:=[(2,dI 0),(3,dI z0),(6,.d (DS q36 x0)),(7,dI (ln x0)),(8,dI (cnt 0 n0))]
def L5  (n0:Nat) (z0:Int):List Res:=[]
def Qb  (z0:Int):St:=[(2,dI 0),(3,dI z0)]
def Q8  (z0:Int):List Res:=[]
theorem k25 (x0:List Aa) (r:Int) (h:F25 x0=some r):CO 25 [.d (DS q36 x0)] [] (.d (I r)) []:=by
 unfold F25 at h
 refine co 27 Tryd.func25 λ C hC=>?_
 refine ws Mt 28 [] [pl q36 x0] [] 0 [] (Jv x0 0 0) (L5 0 0) hC [] ?_
 obtain⟨w0,hm0,hret0,hnext0⟩:=Bm h
 clear h
 refine wc w0 (Qb) (Q8) ?_ λ z0 hs0=>?_
 ·refine wb ?_
  refine Gt 6 rfl λ hl0=>?_
  refine wl (Jv x0) (L5) hm0 (λ z0 hn0=>?_) λ n0 a0 z0 w0b hi0 hx0 h hb0 hr0=>?_
  ·clear hm0
   exact wx w0 (Qb) (Q8) Mt 26 [false] [] [] 0 [] _ hC [pq (Ef hl0)] hn0
  ·unfold Rc at h
   obtain⟨y1,h2,h⟩:=Ak h
   rcases cB h with⟨h3,h⟩ | ⟨h3,h⟩
   ·obtain⟨y4,h5,h⟩:=Ak h
    exact wx w0b (Jv x0 (n0+1)) (L5 (n0+1)) Mt 36 [true,true] [pt hx0 hl0,pw e31 (λ hg=>k31 a0 _ (Ce h2 hg)) [],pr pI h5] [] 0 [] _ hC [pq (Br hi0 hl0),pq h3] (sI h).symm
   ·exact wx w0b (Jv x0 (n0+1)) (L5 (n0+1)) Mt 36 [true,false] [pt hx0 hl0,pw e31 (λ hg=>k31 a0 _ (Ce h2 hg)) []] [] 0 [] _ hC [pq (Br hi0 hl0),pq h3] (sI h).symm
 ·have h:=hnext0 _ hs0
  replace h:=sI h
  subst h
  exact wr Mt 23 [] [] [] 0 [] hC []
theorem e25:EN 25:=en Tryd.func25
theorem k30 (x0:Aa) (r:Bool) (h:F30 x0=some r):CO 30 [.agg (d36 x0)] [] (.d (Bo r)) []:=by
 unfold F30 at h
 refine co 6 Tryd.func30 λ C hC=>?_
 obtain⟨y1,h2,h⟩:=Ak h
 replace h:=sI h
 subst h
 exact wr n3_ 25 [] [pc e31 (k31 x0 _ h2) []] [] 0 [] hC []
theorem e30:EN 30:=en Tryd.func30
def Hv:List Nat:=[0,1,4,5,7,8,9,16]
def Jd (x0:List Aa) (n0:Nat) (z0:Unit):St:=[(0,.d (DS q36 x0)),(1,.d (.fn (.func 30) [] [])),(4,dI 0),(7,dI (ln x0)),(8,dI (cnt 0 n0))]
def K8  (n0:Nat) (z0:Unit):List Res:=[]
def Mg  (z0:Unit):St:=[(4,dI 0)]
def Np  (z0:Unit):List Res:=[]
theorem Vq (x0:List Aa) (r:Int) (h:P2 x0=some r):CO 42 [.d (DS q36 x0),.d (.fn (.func 30) [] [])] [] (.d (I r)) []:=by
 unfold P2 at h
 refine co 19 Tryd.func42 λ C hC=>?_
 refine ws Hv 26 [] [pl q36 x0] [] 0 [] (Jd x0 0 ()) (K8 0 ()) hC [] ?_
 obtain⟨w0,hm0,hret0,hnext0⟩:=Bm h
 clear h
 refine wc w0 (Mg) (Np) ?_ λ z0 hs0=>?_
 ·refine wb ?_
  refine Gt 0 rfl λ hl0=>?_
  refine wl (Jd x0) (K8) hm0 (λ z0 hn0=>?_) λ n0 a0 z0 w0b hi0 hx0 h hb0 hr0=>?_
  ·clear hm0
   exact wx w0 (Mg) (Np) Hv 26 [false] [] [] 0 [] _ hC [pq (Ef hl0)] hn0
  ·unfold Nt at h
   obtain⟨y1,h2,h⟩:=Ak h
   rcases cB h with⟨h3,h⟩ | ⟨h3,h⟩
   ·have hq:=hret0 _ (hr0 _ (sI h).symm)
    replace hq:=sI hq
    subst hq
    exact wr Hv 35 [true,true] [pt hx0 hl0,pc e30 (k30 a0 _ h2) []] [] 0 [] hC [pq (Br hi0 hl0),pq h3]
   ·exact wx w0b (Jd x0 (n0+1)) (K8 (n0+1)) Hv 36 [true,false] [pt hx0 hl0,pc e30 (k30 a0 _ h2) []] [] 0 [] _ hC [pq (Br hi0 hl0),pq h3] (sI h).symm
 ·have h:=hnext0 _ hs0
  replace h:=sI h
  subst h
  exact wr Hv 23 [] [] [] 0 [] hC []
theorem V3:EN 42:=en Tryd.func42
theorem Vr (x0:List Aa) (r:Bool) (h:P3 x0=some r):CO 29 [.d (DS q36 x0),.d (.fn (.func 30) [] [])] [] (.d (Bo r)) []:=by
 unfold P3 at h
 refine co 9 Tryd.func29 λ C hC=>?_
 obtain⟨y1,h2,h⟩:=Ak h
 replace h:=sI h
 subst h
 exact wr [0,1,4] 25 [] [pc V3 (Vq x0 _ h2) []] [] 0 [] hC []
theorem V4:EN 29:=en Tryd.func29
theorem k16 (x0:List Aa) (r:Bool) (h:F16 x0=some r):CO 16 [.d (DS q36 x0)] [] (.d (Bo r)) []:=by
 unfold F16 at h
 refine co 5 Tryd.func16 λ C hC=>?_
 obtain⟨y1,h2,h⟩:=Ak h
 replace h:=sI h
 subst h
 exact wr [0,2] 25 [] [pc V4 (Vr x0 _ h2) []] [] 0 [] hC []
theorem e16:EN 16:=en Tryd.func16
def Dj:List Nat:=[0,1,4,5,6,8,9,18,19,22,32,33,34,35]
def Dc (x0:List Aa) (n0:Nat) (z0:Sg1):St:=[(4,.d (DS q50 [])),(5,dI 0),(6,dO 0 0),(32,.d (DS q36 x0)),(33,dI (ln x0)),(34,dI (cnt 0 n0))]
def Ej  (n0:Nat) (z0:Sg1):List Res:=[.box 79 [I z0.1,I z0.2.1,I z0.2.2.1,I (g3_ z0),I (g4_ z0),I (g5_ z0),I (g6_ z0),I (g7_ z0),I (g8_ z0),I (g9_ z0),I (Dm z0),I (Dl z0),I (Dk z0),I (F3 z0),I (F2 z0),.os 1,.os 2,.os 3,I (F1 z0),.os 4,.os 5],v1_ (F0 z0),v2_ (Fz z0),v3_ (Fy z0),v4_ (Fx z0),v0_ (Eh z0)]
def Qe  (z0:Sg1):St:=[(4,.d (DS q50 [])),(5,dI 0),(6,dO 0 0)]
def Ra  (z0:Sg1):List Res:=[.box 79 [I z0.1,I z0.2.1,I z0.2.2.1,I (g3_ z0),I (g4_ z0),I (g5_ z0),I (g6_ z0),I (g7_ z0),I (g8_ z0),I (g9_ z0),I (Dm z0),I (Dl z0),I (Dk z0),I (F3 z0),I (F2 z0),.os 1,.os 2,.os 3,I (F1 z0),.os 4,.os 5],v1_ (F0 z0),v2_ (Fz z0),v3_ (Fy z0),v4_ (Fx z0),v0_ (Eh z0)]
set_option maxHeartbeats 4000000 in
theorem k13 (x0 : List Aa) (x1 : Int) (r : (List Af) × Int) (h : F13 x0 x1 = some r) : CO 13 [.d (DS q36 x0), .d (I x1)] [] (.tup [.d (.os 0), .d (I r.2)]) [v0_ r.1] := by
 unfold F13 at h
 refine co 55 Tryd.func13 λ C hC=>?_
 obtain⟨y1,h2,h⟩:=Ak h
 rcases cB h with⟨h3,h⟩ | ⟨h3,h⟩
 ·replace h:=sI h
  subst h
  exact wr Dj 29 [true] [pl q36 x0,pw e25 (λ hg=>k25 x0 _ (Ce h2 hg)) []] [.own 4 50 12] 0 [0] hC [pq h3]
 ·obtain ⟨y4, h5, h⟩ := Ak h
  refine wn Dj 32 [false] [pl q36 x0,pw e25 (λ hg=>k25 x0 _ (Ce h2 hg)) [],pc e16 (k16 x0 _ h5) []] [] 0 [] [0,1,4,5,19] hC [pq h3] ?_
  rcases cB h with⟨h6,h⟩ | ⟨h6,h⟩
  ·replace h:=sI h
   subst h
   exact wr Dj 24 [true] [] [.own 4 50 12] 0 [0] hC [pq h6]
  ·rcases cB h with ⟨h7, h⟩ | ⟨h7, h⟩
   ·replace h:=sI h
    subst h
    exact wr Dj 27 [false,true] [] [.own 4 50 12] 0 [0] hC [pq h6,pq h7]
   ·refine ws Dj 32 [false, false] [pl q36 x0] [.ownb 0 15 88 5, .ownb 0 16 90 3, .ownb 0 17 94 4, .ownb 0 19 3 1, .ownb 0 20 50 12] 0 n6_ (Dc x0 0 (x1, 0, 0, 0, 0, 0, 0, 0, 0, 0, 0, 0, 0, 0, 0, 0, ([] : List As), ([] : List Cn), ([] : List Bs), ([] : List Int), ([] : List Af))) (Ej 0 (x1, 0, 0, 0, 0, 0, 0, 0, 0, 0, 0, 0, 0, 0, 0, 0, ([] : List As), ([] : List Cn), ([] : List Bs), ([] : List Int), ([] : List Af))) hC [pq h6, pq h7] ?_
    obtain⟨w0,hm0,hret0,hnext0⟩:=Bm h
    clear h
    refine wc w0 (Qe) (Ra) ?_ λ z0 hs0=>?_
    ·refine wb ?_
     refine Gt 32 rfl λ hl0=>?_
     refine wl (Dc x0) (Ej) hm0 (λ z0 hn0=>?_) λ n0 a0 z0 w0b hi0 hx0 h hb0 hr0=>?_
     ·clear hm0
      exact wx w0 (Qe) (Ra) Dj 26 [false] [] [] 0 n6_ _ hC [pq (Ef hl0)] hn0
     ·unfold Rh at h
      rcases cB h with⟨h8,h⟩ | ⟨h8,h⟩
      ·cases h
      ·obtain ⟨y9, h10, h⟩ := Ak h
       rcases cB h with⟨h32,h⟩ | ⟨h32,h⟩
       ·obtain⟨y33,h34,h⟩:=Ak h
        exact wx w0b (Dc x0 (n0+1)) (Ej (n0+1)) Dj 35 [true] [pt hx0 hl0,pc e26 (Fw a0.Kind y9 h8 h10) [],⟨.fnv (.func (.func y9.say) #[] #[]) 48,Dq h32⟩,pc V2 (Vp (⟨z0.1,(⟨(⟨z0.2.1,z0.2.2.1⟩:Ac),(⟨(g3_ z0),(g4_ z0)⟩:Ac),(⟨(g5_ z0),(g6_ z0)⟩:Ac)⟩:Ae),(g7_ z0),(⟨(⟨(⟨(g8_ z0),(g9_ z0)⟩:Ac),(⟨(Dm z0),(Dl z0)⟩:Ac),(⟨(Dk z0),(F3 z0)⟩:Ac)⟩:Ae),(F2 z0),(F0 z0),(Fz z0),(Fy z0),(F1 z0),(Fx z0)⟩:Af),(Eh z0)⟩:Ab) a0.Numbers _ h34) n6_] [] 0 [0,1,8,3,4,5] _ hC [pq (Br hi0 hl0)] (sI h).symm
       ·rcases cB h with ⟨h29, h⟩ | ⟨h29, h⟩
        ·obtain⟨y30,h31,h⟩:=Ak h
         exact wx w0b (Dc x0 (n0+1)) (Ej (n0+1)) Dj 35 [true] [pt hx0 hl0,pc e26 (Fw a0.Kind y9 h8 h10) [],⟨.fnv (.func (.func y9.say) #[] #[]) 49,Dq h29⟩,pc V1 (Vo (⟨z0.1,(⟨(⟨z0.2.1,z0.2.2.1⟩:Ac),(⟨(g3_ z0),(g4_ z0)⟩:Ac),(⟨(g5_ z0),(g6_ z0)⟩:Ac)⟩:Ae),(g7_ z0),(⟨(⟨(⟨(g8_ z0),(g9_ z0)⟩:Ac),(⟨(Dm z0),(Dl z0)⟩:Ac),(⟨(Dk z0),(F3 z0)⟩:Ac)⟩:Ae),(F2 z0),(F0 z0),(Fz z0),(Fy z0),(F1 z0),(Fx z0)⟩:Af),(Eh z0)⟩:Ab) a0.Numbers _ h31) n6_] [] 0 [0,1,2,8,4,5] _ hC [pq (Br hi0 hl0)] (sI h).symm
        ·rcases cB h with⟨h26,h⟩ | ⟨h26,h⟩
         ·obtain⟨y27,h28,h⟩:=Ak h
          exact wx w0b (Dc x0 (n0+1)) (Ej (n0+1)) Dj 35 [true] [pt hx0 hl0,pc e26 (Fw a0.Kind y9 h8 h10) [],⟨.fnv (.func (.func y9.say) #[] #[]) 51,Dq h26⟩,pc V0 (Vn (⟨z0.1,(⟨(⟨z0.2.1,z0.2.2.1⟩:Ac),(⟨(g3_ z0),(g4_ z0)⟩:Ac),(⟨(g5_ z0),(g6_ z0)⟩:Ac)⟩:Ae),(g7_ z0),(⟨(⟨(⟨(g8_ z0),(g9_ z0)⟩:Ac),(⟨(Dm z0),(Dl z0)⟩:Ac),(⟨(Dk z0),(F3 z0)⟩:Ac)⟩:Ae),(F2 z0),(F0 z0),(Fz z0),(Fy z0),(F1 z0),(Fx z0)⟩:Af),(Eh z0)⟩:Ab) a0.Numbers _ h28) n6_] [] 0 [0,1,2,8,4,5] _ hC [pq (Br hi0 hl0)] (sI h).symm
         ·rcases cB h with⟨h23,h⟩ | ⟨h23,h⟩
          ·obtain⟨y24,h25,h⟩:=Ak h
           exact wx w0b (Dc x0 (n0+1)) (Ej (n0+1)) Dj 35 [true] [pt hx0 hl0,pc e26 (Fw a0.Kind y9 h8 h10) [],⟨.fnv (.func (.func y9.say) #[] #[]) 52,Dq h23⟩,pc Vz (Vm (⟨z0.1,(⟨(⟨z0.2.1,z0.2.2.1⟩:Ac),(⟨(g3_ z0),(g4_ z0)⟩:Ac),(⟨(g5_ z0),(g6_ z0)⟩:Ac)⟩:Ae),(g7_ z0),(⟨(⟨(⟨(g8_ z0),(g9_ z0)⟩:Ac),(⟨(Dm z0),(Dl z0)⟩:Ac),(⟨(Dk z0),(F3 z0)⟩:Ac)⟩:Ae),(F2 z0),(F0 z0),(Fz z0),(Fy z0),(F1 z0),(Fx z0)⟩:Af),(Eh z0)⟩:Ab) a0.Numbers _ h25) n6_] [] 0 n6_ _ hC [pq (Br hi0 hl0)] (sI h).symm
          ·rcases cB h with⟨h20,h⟩ | ⟨h20,h⟩
           ·obtain⟨y21,h22,h⟩:=Ak h
            exact wx w0b (Dc x0 (n0+1)) (Ej (n0+1)) Dj 35 [true] [pt hx0 hl0,pc e26 (Fw a0.Kind y9 h8 h10) [],⟨.fnv (.func (.func y9.say) #[] #[]) 53,Dq h20⟩,pc Vy (Vl (⟨z0.1,(⟨(⟨z0.2.1,z0.2.2.1⟩:Ac),(⟨(g3_ z0),(g4_ z0)⟩:Ac),(⟨(g5_ z0),(g6_ z0)⟩:Ac)⟩:Ae),(g7_ z0),(⟨(⟨(⟨(g8_ z0),(g9_ z0)⟩:Ac),(⟨(Dm z0),(Dl z0)⟩:Ac),(⟨(Dk z0),(F3 z0)⟩:Ac)⟩:Ae),(F2 z0),(F0 z0),(Fz z0),(Fy z0),(F1 z0),(Fx z0)⟩:Af),(Eh z0)⟩:Ab) a0.Numbers _ h22) n6_] [] 0 [0,8,2,3,4,5] _ hC [pq (Br hi0 hl0)] (sI h).symm
           ·rcases cB h with⟨h17,h⟩ | ⟨h17,h⟩
            ·obtain⟨y18,h19,h⟩:=Ak h
             exact wx w0b (Dc x0 (n0+1)) (Ej (n0+1)) Dj 35 [true] [pt hx0 hl0,pc e26 (Fw a0.Kind y9 h8 h10) [],⟨.fnv (.func (.func y9.say) #[] #[]) 54,Dq h17⟩,pc Vx (Vk (⟨z0.1,(⟨(⟨z0.2.1,z0.2.2.1⟩:Ac),(⟨(g3_ z0),(g4_ z0)⟩:Ac),(⟨(g5_ z0),(g6_ z0)⟩:Ac)⟩:Ae),(g7_ z0),(⟨(⟨(⟨(g8_ z0),(g9_ z0)⟩:Ac),(⟨(Dm z0),(Dl z0)⟩:Ac),(⟨(Dk z0),(F3 z0)⟩:Ac)⟩:Ae),(F2 z0),(F0 z0),(Fz z0),(Fy z0),(F1 z0),(Fx z0)⟩:Af),(Eh z0)⟩:Ab) a0.Numbers _ h19) n6_] [] 0 n6_ _ hC [pq (Br hi0 hl0)] (sI h).symm
            ·rcases cB h with⟨h14,h⟩ | ⟨h14,h⟩
             ·obtain⟨y15,h16,h⟩:=Ak h
              exact wx w0b (Dc x0 (n0+1)) (Ej (n0+1)) Dj 35 [true] [pt hx0 hl0,pc e26 (Fw a0.Kind y9 h8 h10) [],⟨.fnv (.func (.func y9.say) #[] #[]) 55,Dq h14⟩,pc Vw (Vj (⟨z0.1,(⟨(⟨z0.2.1,z0.2.2.1⟩:Ac),(⟨(g3_ z0),(g4_ z0)⟩:Ac),(⟨(g5_ z0),(g6_ z0)⟩:Ac)⟩:Ae),(g7_ z0),(⟨(⟨(⟨(g8_ z0),(g9_ z0)⟩:Ac),(⟨(Dm z0),(Dl z0)⟩:Ac),(⟨(Dk z0),(F3 z0)⟩:Ac)⟩:Ae),(F2 z0),(F0 z0),(Fz z0),(Fy z0),(F1 z0),(Fx z0)⟩:Af),(Eh z0)⟩:Ab) a0.Numbers _ h16) n6_] [] 0 [0,1,2,3,8,5] _ hC [pq (Br hi0 hl0)] (sI h).symm
             ·rcases cB h with⟨h11,h⟩ | ⟨h11,h⟩
              ·obtain⟨y12,h13,h⟩:=Ak h
               exact wx w0b (Dc x0 (n0+1)) (Ej (n0+1)) Dj 35 [true] [pt hx0 hl0,pc e26 (Fw a0.Kind y9 h8 h10) [],⟨.fnv (.func (.func y9.say) #[] #[]) 56,Dq h11⟩,pc Vv (Vi (⟨z0.1,(⟨(⟨z0.2.1,z0.2.2.1⟩:Ac),(⟨(g3_ z0),(g4_ z0)⟩:Ac),(⟨(g5_ z0),(g6_ z0)⟩:Ac)⟩:Ae),(g7_ z0),(⟨(⟨(⟨(g8_ z0),(g9_ z0)⟩:Ac),(⟨(Dm z0),(Dl z0)⟩:Ac),(⟨(Dk z0),(F3 z0)⟩:Ac)⟩:Ae),(F2 z0),(F0 z0),(Fz z0),(Fy z0),(F1 z0),(Fx z0)⟩:Af),(Eh z0)⟩:Ab) a0.Numbers _ h13) n6_] [] 0 [0,8,9,10,11,12] _ hC [pq (Br hi0 hl0)] (sI h).symm
              ·cases h
    ·have h:=hnext0 _ hs0
     replace h:=sI h
     subst h
     exact wr Dj 23 [] [] [] 0 [5] hC []
theorem e13:EN 13:=en Tryd.func13
theorem k9 (x0:List Aa) (r:ByteArray×Int) (h:F9 x0=some r):CO 9 [.d (DS q36 x0)] [] (.tup [.d (.p (.v (.string r.1))),.d (I r.2)]) []:=Tj F16 F18 k16 k18 x0 r h
theorem e9:EN 9:=en Tryd.func9
theorem k6  (r:Bool) (h:F6  = some r):CO 6 [] [] (.d (Bo r)) []:=by
 unfold F6 at h
 refine co 78 Tryd.func6 λ C hC=>?_
 obtain⟨y1,h2,y3,h4,y5,h6,y7,h8,h⟩:=Nk h
 obtain⟨y9,h10,y11,h12,h⟩:=Cg h
 replace h:=sI h
 subst h
 exact wr [0,1,2,3,4,5,6,7,9,10] 33 [] [pc e10 (k10 (⟨#[98,114,101,97,107,32,49,32,48,10,116,105,99,107,32,50,10]⟩:ByteArray) _ h2) [],pc e13 (k13 y1.1 5 _ h4) [],pc e9 (k9 y1.1 _ h6) [],pc e10 (k10 (⟨#[116,105,99,107,32,49,10,116,105,99,107,32,48,49,10]⟩:ByteArray) _ h8) [],pL_ [(((((y1.2.2==0)&&(y1.2.1==0))&&(y3.2==0))&&(y5.2==0)),true)] q50 y3.1,pR q50 h10,pN q50 h10,pL_ [((((((y1.2.2==0)&&(y1.2.1==0))&&(y3.2==0))&&(y5.2==0))&&((ln y3.1)==2)),true)] q94 y9.Faults,pR q50 h12,pN q50 h12,pL_ [(((((((y1.2.2==0)&&(y1.2.1==0))&&(y3.2==0))&&(y5.2==0))&&((ln y3.1)==2))&&((ln y9.Faults)==1)),true)] q94 y11.Faults] [] 0 [] hC []
theorem e6:EN 6:=en Tryd.func6
def lv5:List Nat:=[0,1,4,5,6,7,8,9,10,11,14,64,65,66,67,68,108]
def Om (y8:(List Af)×Int) (n0:Nat) (z0:Unit):St:=[(4,dB false),(65,dS 0),(66,dI (ln y8.1)),(67,dI (cnt 0 n0))]
def Sn (y8:(List Af)×Int) (n0:Nat) (z0:Unit):List Res:=[v0_ y8.1]
def Su  (z0:Unit):St:=[(4,dB false)]
def S4  (z0:Unit):List Res:=[]
theorem k5 (x0:List Int) (x1:Int) (r:Bool) (h:F5 x0 x1=some r):CO 5 [.d (DS pI x0),.d (.p (.v (.int .u8 x1)))] [] (.d (Bo r)) []:=by
 unfold F5 at h
 refine co 111 Tryd.func5 λ C hC=>?_
 rcases cB h with⟨h1,h⟩ | ⟨h1,h⟩
 ·obtain⟨y2,h3,h⟩:=Ak h
  replace h:=sI h
  subst h
  exact wr lv5 29 [true] [pl pI x0,pc e6 (k6  _ h3) []] [] 0 [] hC [pq h1]
 ·obtain⟨y4,h5,y6,h7,y8,h9,h⟩:=H7 h
  obtain⟨y10,h11,y12,h13,h⟩:=Cg h
  refine wn lv5 39 [false] [pl pI x0,pc e7 (k7 x0 _ h5) [],⟨.nz 9,Uj rfl⟩,pc e12 (k12 y4 5 _ h7) [0],pc e13 (k13 [(⟨4,[1,2,3,4,5,6,7]⟩:Aa),(⟨6,[y6.1]⟩:Aa),(⟨7,[4]⟩:Aa),(⟨1,[1,2,3]⟩:Aa),(⟨8,[w64 (2+(Int.tmod (w64 x1) 9))]⟩:Aa)] 9 _ h9) [],pL_ [((y8.2 != 0),false)] q50 y8.1,pR q50 h11,pN q50 h11,pL_ [(((y8.2 != 0) || ((ln y8.1) != (w64 (2+(Int.tmod (w64 x1) 9))))),false)] pI y10.Seen,pR q50 h13,pN q50 h13,pL_ [((((y8.2 != 0) || ((ln y8.1) != (w64 (2+(Int.tmod (w64 x1) 9))))) || ((ln y10.Seen) != 1)),false)] q90 y12.Acts] [] 0 [2] [4,8,64] hC [pq h1] ?_
  rcases cB h with⟨h14,h⟩ | ⟨h14,h⟩
  ·replace h:=sI h
   subst h
   exact wr lv5 24 [true] [] [] 0 [] hC [pq h14]
  ·refine ws lv5 26 [false] [pl q50 y8.1] [] 0 [0] (Om y8 0 ()) (Sn y8 0 ()) hC [pq h14] ?_
   obtain⟨w0,hm0,hret0,hnext0⟩:=Bm h
   clear h
   refine wc w0 (Su) (S4) ?_ λ z0 hs0=>?_
   ·refine wb ?_
    refine Ty 65 0 rfl rfl λ hl0=>?_
    refine wl (Om y8) (Sn y8) hm0 (λ z0 hn0=>?_) λ n0 a0 z0 w0b hi0 hx0 h hb0 hr0=>?_
    ·clear hm0
     exact wx w0 (Su) (S4) lv5 26 [false] [] [] 0 [] _ hC [pq (Ef hl0)] hn0
    ·unfold Pt at h
     refine wn lv5 32 [true] [pr q50 (Of hx0 hl0),pn q50 (Of hx0 hl0),pL_ [(((a0.Heading != 7) || (!((a0.Weather.Wave.From==5)&&((a0.Weather.Wave.Speed==6)&&true)))),false),(decide ((cnt 0 n0)>0),true),((a0.Request != 0),false)] pI a0.Seen,pL_ [(((a0.Heading != 7) || (!((a0.Weather.Wave.From==5)&&((a0.Weather.Wave.Speed==6)&&true)))),false),(decide ((cnt 0 n0)>0),true),((a0.Request != 0),false)] q90 a0.Acts,pL_ [(((a0.Heading != 7) || (!((a0.Weather.Wave.From==5)&&((a0.Weather.Wave.Speed==6)&&true)))),false),(decide ((cnt 0 n0)>0),true),((a0.Request != 0),false)] q94 a0.Faults,pL_ [(((a0.Heading != 7) || (!((a0.Weather.Wave.From==5)&&((a0.Weather.Wave.Speed==6)&&true)))),false),(decide ((cnt 0 n0)>0),true),((a0.Request != 0),false)] q88 a0.Sights] [] 0 [0] [4,65,66,67,108] hC [pq (Br hi0 hl0)] ?_
     rcases cB h with⟨h15,h⟩ | ⟨h15,h⟩
     ·have hq:=hret0 _ (hr0 _ (sI h).symm)
      replace hq:=sI hq
      subst hq
      exact wr lv5 24 [true] [] [] 0 [] hC [pq h15]
     ·exact wx w0b (Om y8 (n0+1)) (Sn y8 (n0+1)) lv5 25 [false] [] [] 0 [0] _ hC [pq h15] (sI h).symm
   ·have h:=hnext0 _ hs0
    obtain⟨y16,h17,h⟩:=Ak h
    replace h:=sI h
    subst h
    exact wr lv5 23 [] [pc e6 (k6  _ h17) []] [] 0 [] hC []
end Go.Proofs.YtaplakgdkkmpfaaDoor
