import Derived.Test.YtcigbocngfaopaaGreatRows
import Derived.Test.YtcigbocngfaopaaGreatMo
import Derived.Test.YtcigbocngfaopaaGreatBw
import Derived.Test.YtcigbocngfaopaaGreatIn
set_option linter.unusedVariables false
set_option maxHeartbeats 4000000
namespace Go.Proofs.YtcigbocngfaopaaGreat
open Go.SL
abbrev v0_ (l:List Int):Res:=.sl 3 1 (l.map pI)
abbrev v1_ (l:List Bool):Res:=.sl 4 1 (l.map pB)
abbrev v2_ (l:List Ak):Res:=.sl 47 3 (l.map q47)
abbrev v3_ (l:List As):Res:=.sl 92 2 (l.map q92)
abbrev v4_ (l:List Ag):Res:=.sl 87 4 (l.map q87)
abbrev v5_ (l:List Aj):Res:=.sl 62 3 (l.map q62)
abbrev v6_ (l:List Ah):Res:=.sl 49 3 (l.map q49)
abbrev v7_ (l:List Be):Res:=.sl 98 3 (l.map q98)
abbrev v8_ (l:List A3):Res:=.sl 90 5 (l.map q90)
abbrev CO:=CallOk Tryz.prog
abbrev EN:=Gn Tryz.prog
abbrev Gq {α0 α1 α2 α3:Type} (z:α0×α1×α2×α3):α3:=z.2.2.2
abbrev g3_ {α0 α1 α2 α3 α4:Type} (z:α0×α1×α2×α3×α4):α3:=z.2.2.2.1
abbrev Ds {α0 α1 α2 α3 α4:Type} (z:α0×α1×α2×α3×α4):α4:=z.2.2.2.2
abbrev g4_ {α0 α1 α2 α3 α4 α5:Type} (z:α0×α1×α2×α3×α4×α5):α4:=z.2.2.2.2.1
abbrev g5_ {α0 α1 α2 α3 α4 α5 α6:Type} (z:α0×α1×α2×α3×α4×α5×α6):α5:=z.2.2.2.2.2.1
abbrev g6_ {α0 α1 α2 α3 α4 α5 α6 α7:Type} (z:α0×α1×α2×α3×α4×α5×α6×α7):α6:=z.2.2.2.2.2.2.1
abbrev g7_ {α0 α1 α2 α3 α4 α5 α6 α7 α8:Type} (z:α0×α1×α2×α3×α4×α5×α6×α7×α8):α7:=z.2.2.2.2.2.2.2.1
abbrev Ah8 {α0 α1 α2 α3 α4 α5 α6 α7 α8:Type} (z:α0×α1×α2×α3×α4×α5×α6×α7×α8):α8:=z.2.2.2.2.2.2.2.2
abbrev g8_ {α0 α1 α2 α3 α4 α5 α6 α7 α8 α9:Type} (z:α0×α1×α2×α3×α4×α5×α6×α7×α8×α9):α8:=z.2.2.2.2.2.2.2.2.1
abbrev g9_ {α0 α1 α2 α3 α4 α5 α6 α7 α8 α9 α10:Type} (z:α0×α1×α2×α3×α4×α5×α6×α7×α8×α9×α10):α9:=z.2.2.2.2.2.2.2.2.2.1
abbrev Gu {α0 α1 α2 α3 α4 α5 α6 α7 α8 α9 α10:Type} (z:α0×α1×α2×α3×α4×α5×α6×α7×α8×α9×α10):α10:=z.2.2.2.2.2.2.2.2.2.2
abbrev Ct {α0 α1 α2 α3 α4 α5 α6 α7 α8 α9 α10 α11:Type} (z:α0×α1×α2×α3×α4×α5×α6×α7×α8×α9×α10×α11):α10:=z.2.2.2.2.2.2.2.2.2.2.1
abbrev Dc {α0 α1 α2 α3 α4 α5 α6 α7 α8 α9 α10 α11:Type} (z:α0×α1×α2×α3×α4×α5×α6×α7×α8×α9×α10×α11):α11:=z.2.2.2.2.2.2.2.2.2.2.2
abbrev Pv {α0 α1 α2 α3 α4 α5 α6 α7 α8 α9 α10 α11 α12:Type} (z:α0×α1×α2×α3×α4×α5×α6×α7×α8×α9×α10×α11×α12):α11:=z.2.2.2.2.2.2.2.2.2.2.2.1
abbrev Ll {α0 α1 α2 α3 α4 α5 α6 α7 α8 α9 α10 α11 α12:Type} (z:α0×α1×α2×α3×α4×α5×α6×α7×α8×α9×α10×α11×α12):α12:=z.2.2.2.2.2.2.2.2.2.2.2.2
theorem sI {α:Type} {a b:α} (h:some a=some b):a=b:=bg h
abbrev zb (b:Aa) (l:List D):List D:=I b.Al::DS q49 b.Ad::DS q98 b.Ac::DS q90 b.Af::I b.Phase::I b.Ar::l
abbrev zp (p:Ab) (l:List Res):List Res:=.sl 4 1 (p.Ae.map pB) :: .sl 87 4 (p.Ac.map q87) :: .sl 3 1 (p.Am.map pI) :: .sl 92 2 (p.Ai.map q92)::l
abbrev ze (l:List Res):List Res:=.sl 4 1 (([]:List Bool).map pB) :: .sl 87 4 (([]:List Ag).map q87) :: .sl 3 1 (([]:List Int).map pI) :: .sl 92 2 (([]:List As).map q92)::l
abbrev zs (b:Aa) (l:List Res):List Res:=.sl 49 3 (b.Ad.map q49) :: .sl 98 3 (b.Ac.map q98) :: .sl 90 5 (b.Af.map q90)::l
abbrev zt {α:Type} (b:Aa) (r:α):Int×List Ah×List Be×List A3×Int×Int×α:=(b.Al,b.Ad,b.Ac,b.Af,b.Phase,b.Ar,r)
abbrev zu {α:Type} (p:Ab) (r:α):List Bool×List Ag×List Int×List As×α:=(p.Ae,p.Ac,p.Am,p.Ai,r)
abbrev n3_:List Nat:=[0,1,2]
abbrev n4_:List Nat:=[0,1,2,3]
abbrev n5_:List Nat:=[0,1,2,3,4]
abbrev n6_:List Nat:=[0,1,2,3,4,5]
abbrev n7_:List Nat:=[0,1,2,3,4,5,6]
abbrev n8_:List Nat:=[0,1,2,3,4,5,6,7]
abbrev n9_:List Nat:=[0,1,2,3,4,5,6,7,8]
abbrev Ia:List Nat:=[0,1,2,3,4,5,6,7,8,9]
abbrev Ao4:List Nat:=[0,1,2,3,4,5,6,7,8,9,10]
abbrev E3:List Nat:=[0,1,2,3,4,5,6,7,8,9,10,11]
abbrev Df:List Nat:=[0,1,2,3,4,5,6,7,8,9,10,11,12]
abbrev Yy:List Nat:=[0,1,2,3,4,5,6,7,8,9,10,11,12,13]
abbrev Eo:List Nat:=[0,1,2,3,4,5,6,7,8,9,10,11,12,13,14]
abbrev Nw:List Nat:=[0,1,2,3,4,5,6,7,8,9,10,11,12,13,14,15]
abbrev Ao3:List Nat:=[0,1,2,3,4,5,6,7,8,9,10,11,12,13,14,15,16]
theorem Jg:Tryz.prog.follows .mixedOrders=true:=by kernel_rfl
abbrev PC:={c:Cl // Cl.ok Tryz.prog c}
abbrev PB:={p:Bool×Bool // p.1=p.2}
theorem okP:∀ l:List PC,Ej Tryz.prog (l.map (·.1))
 | []=>trivial
 | c::l=>⟨c.2,okP l⟩
theorem okB:∀ l:List PB,D_ (l.map (·.1))
 | []=>trivial
 | ⟨(_,_),h⟩::l=>⟨h,okB l⟩
def pq {a b:Bool} (h:a=b):PB:=⟨(a,b),h⟩
def pc {f:FuncId} {args:List AV} {R R2:List Res} {res:AV} (e:Gn Tryz.prog f) (k:CallOk Tryz.prog f args R res R2) (pi:List Nat):PC:=⟨.call f args R res R2 pi,e,k⟩
def pb {f:FuncId} {args:List AV} {res:AV} (e:Gn Tryz.prog f) (k:CallOk Tryz.prog f args [] res []):PC:=⟨.callB f args res [[]] 0 [],U3 ⟨e,k⟩⟩
def pw {g:List (Bool×Bool)} {f:FuncId} {args:List AV} {R R2:List Res} {res:AV} (e:Gn Tryz.prog f) (k:D_ g->CallOk Tryz.prog f args R res R2) (pi:List Nat):PC:=⟨.when g (.call f args R res R2 pi),λ h=>⟨e,k h⟩⟩
def pv {g:List (Bool×Bool)} {f:FuncId} {args:List AV} {res:AV} (e:Gn Tryz.prog f) (k:D_ g->CallOk Tryz.prog f args [] res []):PC:=⟨.when g (.callB f args res [[]] 0 []),λ h=>U3 ⟨e,k h⟩⟩
section
variable {α:Type}
def pl (q:α->List Pd) (l:List α):PC:=⟨.len ((l.map q).length:Int) (l.length:Int),W7 l q⟩
def pL_ (g:List (Bool×Bool)) (q:α->List Pd) (l:List α):PC:=⟨.when g (.len ((l.map q).length:Int) (l.length:Int)),λ _=>W7 l q⟩
def pr (q:α->List Pd) {l:List α} {n:Int} {x:α} (h:getI l n=some x):PC:=⟨.row (l.map q) n (q x),Ws h⟩
def pn (q:α->List Pd) {l:List α} {n:Int} {x:α} (h:getI l n=some x):PC:=⟨.row (l.map q) ((n.toNat:Nat):Int) (q x),Ku h⟩
def pt {q:α->List Pd} {l:List α} {i:Nat} {x:α} (hx:l[i]? = some x) (hl:(l.map q).length<=maxLen):PC:=⟨.row (l.map q) (cnt 0 i) (q x),A2r hx hl⟩
def pR (q:α->List Pd) {g:List (Bool×Bool)} {l:List α} {n:Int} {x d:α} (h:Az g (getI l n) d=some x):PC:=⟨.when g (.row (l.map q) n (q x)),λ hg=>Ws (A1 h hg)⟩
def pN (q:α->List Pd) {g:List (Bool×Bool)} {l:List α} {n:Int} {x d:α} (h:Az g (getI l n) d=some x):PC:=⟨.when g (.row (l.map q) ((n.toNat:Nat):Int) (q x)),λ hg=>Ku (A1 h hg)⟩
def pa (q:α->List Pd) (size:Nat) {B:Nat} {l m y:List α} (h:appI (B+1) l m=some y) (hs:∀ x,(q x).length=size:=by exact λ _=>rfl):PC:=⟨.app (l.map q) (m.map q) size (((l.map q).length+(m.map q).length)*(B+1)) (y.map q),Lb q size hs h⟩
def pu (q:α->List Pd) {l y:List α} {n:Int} {x x':α} (hx:getI l n=some x) (h:setI l n x'=some y):PC:=⟨.upd (l.map q) n.toNat (q x) (q x') (y.map q),Amh hx h⟩
end
theorem ws {ro:Option Nat} {n:Nat} {C:Ctx} {Q:Exit->Act->World->Prop} {st:St} {R:List Res} {items:List It} (lv:List Nat) (fuel:Nat) (ds:List Bool) (cls:List PC) (adj:List Adj) (k:Nat) (pi:List Nat) (st':St) (R':List Res) (hk:C.h.length<=k) (bs:List PB) (hW:WI ro Tryz.prog n C Q (Cb fuel items ds) st' R') (h:Hr Tryz.prog n lv fuel items st R ds (cls.map (·.1)) adj k pi (Pt st')=some (st',R',cls.map (·.1),bs.map (·.1)):=by kernel_rfl):WI ro Tryz.prog n C Q items st R:=Aal Jg lv fuel ds (cls.map (·.1)) adj k pi st' R' hk (okP cls) (okB bs) h hW
def wo (o:Option (St×List Res×List Cl×List (Bool×Bool))):St×List Res:=match o with
 | some (s,r,_,_)=>(s,r)
 | none=>([],[])
theorem wn {ro:Option Nat} {n:Nat} {C:Ctx} {Q:Exit->Act->World->Prop} {st:St} {R:List Res} {items:List It} (lv:List Nat) (fuel:Nat) (ds:List Bool) (cls:List PC) (adj:List Adj) (k:Nat) (pi:List Nat) (ks:List Nat) (hk:C.h.length<=k) (bs:List PB) (hW:WI ro Tryz.prog n C Q (Cb fuel items ds) (wo (Hr Tryz.prog n lv fuel items st R ds (cls.map (·.1)) adj k pi ks)).1 (wo (Hr Tryz.prog n lv fuel items st R ds (cls.map (·.1)) adj k pi ks)).2) (h:(Hr Tryz.prog n lv fuel items st R ds (cls.map (·.1)) adj k pi ks).map (λ x=>(Pt x.1,x.2.2.1,x.2.2.2))=some (ks,cls.map (·.1),bs.map (·.1)):=by kernel_rfl):WI ro Tryz.prog n C Q items st R:=by
 cases e:Hr Tryz.prog n lv fuel items st R ds (cls.map (·.1)) adj k pi ks with
 | none=>rw [e] at h;cases h
 | some x=>
  obtain⟨s,r,c,b⟩:=x
  rw [e] at h hW
  simp only [bU,al,aO] at h
  obtain⟨h1,h2,h3⟩:=h
  subst h1;subst h2;subst h3
  exact Aal Jg lv fuel ds _ adj k pi s r hk (okP cls) (okB bs) e hW
theorem we {ro:Option Nat} {n:Nat} {C:Ctx} {Q:Exit->Act->World->Prop} {st:St} {R:List Res} {items:List It} {σ:Type} {φ:σ->Prop} {st':σ->St} {R':σ->List Res} (lv:List Nat) (fuel:Nat) (ds:List Bool) (cls:List PC) (adj:List Adj) (k:Nat) (pi:List Nat) (s:σ) (hk:C.h.length<=k) (bs:List PB) (h1:φ s) (hi:hdK (Cb fuel items ds)=Ex n C φ st' R':=by kernel_rfl) (h:Hr Tryz.prog n lv fuel items st R ds (cls.map (·.1)) adj k pi (Pt (st' s))=some (st' s,R' s,cls.map (·.1),bs.map (·.1)):=by kernel_rfl):WI ro Tryz.prog n C Q items st R:=Av8 Jg lv fuel ds (cls.map (·.1)) adj k pi s hk (okP cls) (okB bs) hi h h1
theorem wx {σ:Type} {τ:Type} (w:Ctl σ τ) (st':σ->St) (R':σ->List Res) {ro:Option Nat} {n:Nat} {C:Ctx} {Q:Exit->Act->World->Prop} {st:St} {R:List Res} {items:List It} (lv:List Nat) (fuel:Nat) (ds:List Bool) (cls:List PC) (adj:List Adj) (k:Nat) (pi:List Nat) (s:σ) (hk:C.h.length<=k) (bs:List PB) (h1:w = .next s) (hi:hdK (Cb fuel items ds)=Ex n C (λ s'=>w = .next s') st' R':=by kernel_rfl) (h:Hr Tryz.prog n lv fuel items st R ds (cls.map (·.1)) adj k pi (Pt (st' s))=some (st' s,R' s,cls.map (·.1),bs.map (·.1)):=by kernel_rfl):WI ro Tryz.prog n C Q items st R:=Av8 Jg lv fuel ds (cls.map (·.1)) adj k pi s hk (okP cls) (okB bs) hi h h1
theorem wc {ro:Option Nat} {n:Nat} {C:Ctx} {Q:Exit->Act->World->Prop} {st:St} {R:List Res} {items:List It} {σ τ:Type} (w:Ctl σ τ) (st':σ->St) (R':σ->List Res) (h:WI ro Tryz.prog n C Q (.c (hdC items) :: .k (Ex n C (λ s=>w = .next s) st' R')::tlI items) st R) (hK:∀ s,w = .next s->WI ro Tryz.prog n C Q (tlI items) (st' s) (R' s)) (hi:isC items=true:=by kernel_rfl):WI ro Tryz.prog n C Q items st R:=A63 hi _ st' R' h hK
theorem A9 {α β γ:Type} {o:Option α} {f:α->Option β} {g:α->β->Option γ} {r:γ} (h:(o.bind λ a=>(f a).bind λ b=>g a b)=some r):∃ a,o=some a/\∃ b,f a=some b/\g a b=some r:=by
 obtain⟨a,h1,h⟩:=Aw h
 obtain⟨b,h2,h⟩:=Aw h
 exact⟨a,h1,b,h2,h⟩
theorem By {α β γ δ:Type} {o:Option α} {f:α->Option β} {g:α->β->Option γ} {k:α->β->γ->Option δ} {r:δ} (h:(o.bind λ a=>(f a).bind λ b=>(g a b).bind λ c=>k a b c)=some r):∃ a,o=some a/\∃ b,f a=some b/\∃ c,g a b=some c/\k a b c=some r:=by
 obtain⟨a,h1,h⟩:=Aw h
 obtain⟨b,h2,c,h3,h⟩:=A9 h
 exact⟨a,h1,b,h2,c,h3,h⟩
theorem Dd {α β γ δ ε:Type} {o:Option α} {f:α->Option β} {g:α->β->Option γ} {k:α->β->γ->Option δ} {l:α->β->γ->δ->Option ε} {r:ε} (h:(o.bind λ a=>(f a).bind λ b=>(g a b).bind λ c=>(k a b c).bind λ d=>l a b c d)=some r):∃ a,o=some a/\∃ b,f a=some b/\∃ c,g a b=some c/\∃ d,k a b c=some d/\l a b c d=some r:=by
 obtain⟨a,h1,h⟩:=Aw h
 obtain⟨b,h2,c,h3,d,h4,h⟩:=By h
 exact⟨a,h1,b,h2,c,h3,d,h4,h⟩
theorem wl {ro:Option Nat} {n:Nat} {C:Ctx} {Q:Exit->Act->World->Prop} {st:St} {R:List Res} {α σ τ:Type} {items:List It} {f:Nat->α->σ->Option (Ctl σ τ)} (stF:Nat->σ->St) (RF:Nat->σ->List Res) {r:Ctl σ τ} {xs:List α} {s:σ} (hm:foldI f xs 0 s=some r) (hnil:∀ s,r = .next s->WI ro Tryz.prog n C Q (.c (lpC items) :: .k (λ _ _=>False)::tlI items) (stF xs.length s) (RF xs.length s)) (hcons:∀ i x s k,i<xs.length->xs[i]? = some x->f i x s=some k->(∀ s',k = .brk s'->r = .next s')->(∀ v,k = .ret v->r = .ret v)->WI ro Tryz.prog n C Q (.c (lpC items) :: .k (Ex n C (λ s'=>k = .next s') (stF (i+1)) (RF (i+1)))::tlI items) (stF i s) (RF i s)) (hi:isL items=true:=by kernel_rfl) (h0:st=stF 0 s:=by rfl) (h1:R=RF 0 s:=by rfl):WI ro Tryz.prog n C Q items st R:=A0p hi f stF RF r xs s hm h0 h1 hnil hcons
theorem ww {ro:Option Nat} {n:Nat} {C:Ctx} {Q:Exit->Act->World->Prop} {st:St} {R:List Res} {σ τ:Type} {items:List It} {f:σ->Option (Ctl σ τ)} (stF:σ->St) (RF:σ->List Res) {r:Ctl σ τ} {fuel:Nat} {s:σ} (hm:whileN f fuel s=some r) (h:∀ s k,f s=some k->(∀ s',k = .brk s'->r = .next s')->(∀ v,k = .ret v->r = .ret v)->WI ro Tryz.prog n C Q (.c (lpC items) :: .k (Ex n C (λ s'=>k = .next s') stF RF)::tlI items) (stF s) (RF s)) (hi:isL items=true:=by kernel_rfl) (h0:st=stF s:=by rfl) (h1:R=RF s:=by rfl):WI ro Tryz.prog n C Q items st R:=A0n hi f stF RF r fuel s hm h0 h1 h
theorem cB {α:Type} {c:Bool} {x y z:α} (h:(bif c then x else y)=z):(c=true/\x=z)\/(c=false/\y=z):=by cases c;exact .inr ⟨rfl,h⟩;exact .inl ⟨rfl,h⟩
theorem wb {ro:Option Nat} {n:Nat} {C:Ctx} {Q:Exit->Act->World->Prop} {st:St} {R:List Res} {items:List It} (h:WI ro Tryz.prog n C Q (.c (A6w items) :: .b (A6v items)::tlI items) st R) (hi:isB items=true:=by kernel_rfl):WI ro Tryz.prog n C Q items st R:=A64 hi h
theorem co {f:FuncId} {fn:Func} {c:Code} {args:List AV} {res:AV} {R R2:List Res} (n:Nat) (hf:Tryz.prog.funcs[f]? = some fn) (h:∀ C:Ctx,C.h.length<=R.length->WI none Tryz.prog n C.z (P1 Tryz.prog fn C.z res R2) [.c c] (uW 0 args) R) (hb:fn.body=some c:=by rfl) (hn:fn.ntmps=n:=by rfl) (hl:Nat.ble args.length n=true:=by rfl):CallOk Tryz.prog f args R res R2:=Avr n hf hb hn hl h
theorem wr {ro:Option Nat} {n:Nat} {C:Ctx} {st:St} {R:List Res} {fn:Func} {res:AV} {R2:List Res} {items:List It} (lv:List Nat) (fuel:Nat) (ds:List Bool) (cls:List PC) (adj:List Adj) (k:Nat) (pi:List Nat) (hk:C.h.length<=k) (bs:List PB) (h:jB Tryz.prog n lv fuel items st R ds (cls.map (·.1)) adj fn.results.toList k pi=some (res,R2,cls.map (·.1),bs.map (·.1)):=by kernel_rfl):WI ro Tryz.prog n C.z (P1 Tryz.prog fn C.z res R2) items st R:=uY Jg lv fuel ds (cls.map (·.1)) adj _ k pi rfl hk (okP cls) (okB bs) h
theorem wf {ro:Option Nat} {n:Nat} {C:Ctx} {st:St} {R:List Res} {fn:Func} {res:AV} {R2:List Res} {items:List It} (lv:List Nat) (fuel:Nat) (ds:List Bool) (cls:List PC) (adj:List Adj) (k:Nat) (pi:List Nat) (hk:C.h.length<=k) (bs:List PB) (hn:Ayw (Cb fuel items ds)=true:=by kernel_rfl) (h:jC Tryz.prog n lv fuel items st R ds (cls.map (·.1)) adj fn.results.toList k pi=some (res,R2,cls.map (·.1),bs.map (·.1)):=by kernel_rfl):WI ro Tryz.prog n C.z (P1 Tryz.prog fn C.z res R2) items st R:=A3v Jg lv fuel ds (cls.map (·.1)) adj _ k pi rfl hk (okP cls) (okB bs) hn h
theorem en {f : FuncId} {fn : Func} (hf : Tryz.prog.funcs[f]? = some fn) (hb : fn.body.isNone = false := by kernel_rfl) (hn : (fn.name == "runtime.NumGoroutine") = false := by kernel_rfl) : Gn Tryz.prog f := Go.SL.Aco hf hb hn
abbrev ln {α:Type} (l:List α):Int:=(l.length:Int)
abbrev dI (x:Int):AV:=.d (I x)
abbrev dB (x:Bool):AV:=.d (Bo x)
abbrev dO (a b:Nat):AV:=.d (.o a b)
abbrev dS (a:Nat):AV:=.d (.os a)
theorem k6 (x0:List Int) (r:Au) (h:F6 x0=some r):CO 6 [.d (DS pI x0)] [] (.d (.o 0 0)) [.box 70 (d70 r)]:=by
 unfold F6 at h
 refine co 10 Tryz.func6 λ C hC=>?_
 obtain⟨y2,h1,h⟩:=Aw h
 replace h:=sI h
 subst h
 exact wr [0,2] 25 [] [pl pI x0,⟨.cut (x0.map pI) 1 0 (min (ln x0) 600) (y2.map pI),Anm pI 1 (λ _=>rfl) h1⟩] [] 0 [0] hC []
theorem e6:EN 6:=en Tryz.func6
theorem A83 (x0:Int) (x1:Int) (r:Int) (h:Alr x0 x1=some r):CO 107 [.d (I x0),.d (I x1)] [] (.d (I r)) []:=by
 unfold Alr at h
 refine co 14 Tryz.func107 λ C hC=>?_
 rcases cB h with⟨h1,h⟩ | ⟨h1,h⟩
 ·replace h:=sI h
  subst h
  exact wr [0,1,4,6] 29 [true] [] [] 0 [] hC [pq h1]
 ·obtain⟨u3,h2,u5,h4,h⟩:=A9 h
  replace h:=sI h
  subst h
  exact wr [0,1,4,6] 30 [false] [⟨.nz x1,Ahj h2⟩,⟨.nz x1,Ahj h4⟩] [] 0 [] hC [pq h1]
theorem A9s:EN 107:=en Tryz.func107
theorem k46 (x0:Int) (x1:Int) (x2:Int) (r:Bool) (h:F46 x0 x1 x2=r):CO 46 [.d (I x0),.d (I x1),.d (I x2)] [] (.d (Bo r)) []:=by
 unfold F46 at h
 refine co 15 Tryz.func46 λ C hC=>?_
 subst h
 exact wr [0,1,2,6] 25 [] [] [] 0 [] hC []
theorem e46:EN 46:=en Tryz.func46
def Ahw:List Nat:=[0,1,2,3,6,7,8,9,11,12,13,14,37]
def jQ (x0:Aa) (x1:Int) (x2:Int) (n0:Nat) (z0:(List Int)):St:=[(1,dI x1),(2,dI x2),(6,.d (DS pI [])),(7,dS 0),(11,.d (DS q49 x0.Ad)),(12,dI (ln x0.Ad)),(13,dI (cnt 0 n0))]
def Aex  (n0:Nat) (z0:(List Int)):List Res:=[v0_ z0]
def Atd  (z0:(List Int)):St:=[(6,.d (DS pI [])),(7,dS 0)]
def Aw8  (z0:(List Int)):List Res:=[v0_ z0]
theorem k49 (x0:Aa) (x1:Int) (x2:Int) (r:(List Int)) (h:F49 x0 x1 x2=some r):CO 49 [.agg (d29 x0),.d (I x1),.d (I x2)] [] (.d (.os 0)) [v0_ r]:=by
 unfold F49 at h
 refine co 44 Tryz.func49 λ C hC=>?_
 refine ws Ahw 28 [] [pl q49 x0.Ad] [.own 7 3 1] 0 [1] (jQ x0 x1 x2 0 ([]:List Int)) (Aex 0 ([]:List Int)) hC [] ?_
 obtain⟨w0,hm0,hret0,hnext0⟩:=Av h
 clear h
 refine wc w0 (Atd) (Aw8) ?_ λ z0 hs0=>?_
 ·refine wb ?_
  refine Bq 11 rfl λ hl0=>?_
  refine wl (jQ x0 x1 x2) (Aex) hm0 (λ z0 hn0=>?_) λ n0 a0 z0 w0b hi0 hx0 h hb0 hr0=>?_
  ·clear hm0
   exact wx w0 (Atd) (Aw8) Ahw 26 [false] [] [] 0 [0] _ hC [pq (A6 hl0)] hn0
  ·unfold Ak2 at h
   rcases cB h with⟨h1,h⟩ | ⟨h1,h⟩
   ·obtain⟨y2,h3,h⟩:=Aw h
    exact wx w0b (jQ x0 x1 x2 (n0+1)) (Aex (n0+1)) Ahw 36 [true,true] [pt hx0 hl0,pa pI 1 h3] [] 0 [2] _ hC [pq (A4 hi0 hl0),pq h1] (sI h).symm
   ·exact wx w0b (jQ x0 x1 x2 (n0+1)) (Aex (n0+1)) Ahw 36 [true,false] [pt hx0 hl0] [] 0 [0] _ hC [pq (A4 hi0 hl0),pq h1] (sI h).symm
 ·have h:=hnext0 _ hs0
  replace h:=sI h
  subst h
  exact wr Ahw 23 [] [] [] 0 [0] hC []
theorem e49:EN 49:=en Tryz.func49
theorem k48 (x0:As) (x1:As) (r:Bool) (h:F48 x0 x1=r):CO 48 [.agg (d92 x0),.agg (d92 x1)] [] (.d (Bo r)) []:=by
 unfold F48 at h
 refine co 24 Tryz.func48 λ C hC=>?_
 subst h
 exact wr n5_ 25 [] [] [] 0 [] hC []
theorem e48:EN 48:=en Tryz.func48
theorem Azg (x0:Ab) (r:Ab) (h:Z7 x0=some r):CO 117 [.agg (d34 x0)] [] (.agg [.os 0,.os 1,.os 2,.os 3]) (zp r []):=by
 unfold Z7 at h
 refine co 16 Tryz.func117 λ C hC=>?_
 obtain⟨y1,h2,y3,h4,y5,h6,y7,h8,h⟩:=Dd h
 replace h:=sI h
 subst h
 exact wr n3_ 25 [] [⟨.app [] (x0.Ae.map pB) 1 ((x0.Ae.map pB).length*(1+1)) (y1.map pB),Sy pB 1 (λ _=>rfl) h2⟩,⟨.app [] (x0.Ac.map q87) 4 ((x0.Ac.map q87).length*(32+1)) (y3.map q87),Sy q87 4 (λ _=>rfl) h4⟩,⟨.app [] (x0.Am.map pI) 1 ((x0.Am.map pI).length*(8+1)) (y5.map pI),Sy pI 1 (λ _=>rfl) h6⟩,⟨.app [] (x0.Ai.map q92) 2 ((x0.Ai.map q92).length*(16+1)) (y7.map q92),Sy q92 2 (λ _=>rfl) h8⟩] [] 0 [3,5,7,9] hC []
theorem Az1:EN 117:=en Tryz.func117
def Ahz:List Nat:=[0,1,2,3,6,8,10,11,12,13,25]
def Agb (x0:Ab) (x1:Int) (x2:Int) (n0:Nat) (z0:Unit):St:=[(1,dI x1),(2,dI x2),(6,dB false),(10,.d (DS q92 x0.Ai)),(11,dI (ln x0.Ai)),(12,dI (cnt 0 n0))]
def Aq7  (n0:Nat) (z0:Unit):List Res:=[]
def Atu  (z0:Unit):St:=[(6,dB false)]
def Axp  (z0:Unit):List Res:=[]
theorem k15 (x0:Ab) (x1:Int) (x2:Int) (r:Bool) (h:F15 x0 x1 x2=some r):CO 15 [.agg (d34 x0),.d (I x1),.d (I x2)] [] (.d (Bo r)) []:=by
 unfold F15 at h
 refine co 27 Tryz.func15 λ C hC=>?_
 refine ws Ahz 26 [] [pl q92 x0.Ai] [] 0 [] (Agb x0 x1 x2 0 ()) (Aq7 0 ()) hC [] ?_
 obtain⟨w0,hm0,hret0,hnext0⟩:=Av h
 clear h
 refine wc w0 (Atu) (Axp) ?_ λ z0 hs0=>?_
 ·refine wb ?_
  refine Bq 10 rfl λ hl0=>?_
  refine wl (Agb x0 x1 x2) (Aq7) hm0 (λ z0 hn0=>?_) λ n0 a0 z0 w0b hi0 hx0 h hb0 hr0=>?_
  ·clear hm0
   exact wx w0 (Atu) (Axp) Ahz 26 [false] [] [] 0 [] _ hC [pq (A6 hl0)] hn0
  ·unfold yC at h
   rcases cB h with⟨h1,h⟩ | ⟨h1,h⟩
   ·have hq:=hret0 _ (hr0 _ (sI h).symm)
    replace hq:=sI hq
    subst hq
    exact wr Ahz 35 [true,true] [pt hx0 hl0] [] 0 [] hC [pq (A4 hi0 hl0),pq h1]
   ·exact wx w0b (Agb x0 x1 x2 (n0+1)) (Aq7 (n0+1)) Ahz 36 [true,false] [pt hx0 hl0] [] 0 [] _ hC [pq (A4 hi0 hl0),pq h1] (sI h).symm
 ·have h:=hnext0 _ hs0
  replace h:=sI h
  subst h
  exact wr Ahz 23 [] [] [] 0 [] hC []
theorem e15:EN 15:=en Tryz.func15
def K3:List Nat:=[0,1,2,3,4,6,7,8,9,10,11,19,20,21,23,24,25,26,53,65,66,67,72]
def Afg (y5:List Bool) (n0:Nat) (z0:(List Bool)):St:=[(3,dO 0 0),(4,dO 1 0),(6,.d (DS pI [])),(7,dS 2),(19,dI (ln y5)),(20,dI (cnt 0 n0))]
def Aqd (x0:Aa) (x1:Ab) (n0:Nat) (z0:(List Bool)):List Res:=[.box 29 (d29 x0),.box 34 (d34 x1),v1_ z0]
def Ash  (z0:(List Bool)):St:=[(6,.d (DS pI [])),(7,dS 0)]
def Awc  (z0:(List Bool)):List Res:=[v1_ z0]
def jG (x0:Aa) (y5:List Bool) (n0:Nat) (n1:Nat) (z1:(List Bool)):St:=[(3,dO 0 0),(4,dO 1 0),(6,.d (DS pI [])),(7,dS 2),(19,dI (ln y5)),(20,dI (cnt 0 n0)),(23,.d (DS q49 x0.Ad)),(24,dI (ln x0.Ad)),(25,dI (cnt 0 n1))]
def Aen (x0:Aa) (x1:Ab) (n1:Nat) (z1:(List Bool)):List Res:=[.box 29 (d29 x0),.box 34 (d34 x1),v1_ z1]
def Asg (y5:List Bool) (n0:Nat) (z1:(List Bool)):St:=[(3,dO 0 0),(4,dO 1 0),(6,.d (DS pI [])),(7,dS 2),(19,dI (ln y5)),(20,dI (cnt 0 n0))]
def Awb (x0:Aa) (x1:Ab) (z1:(List Bool)):List Res:=[.box 29 (d29 x0),.box 34 (d34 x1),v1_ z1]
def jF (z0:(List Bool)) (n2:Nat) (z2:(List Int)):St:=[(6,.d (DS pI [])),(7,dS 0),(10,dS 1),(65,dI (ln z0)),(66,dI (cnt 0 n2))]
def Aem (z0:(List Bool)) (n2:Nat) (z2:(List Int)):List Res:=[v1_ z0,v0_ z2]
def Asf  (z2:(List Int)):St:=[(6,.d (DS pI [])),(10,dS 0)]
def Awa  (z2:(List Int)):List Res:=[v0_ z2]
theorem k98 (x0:Aa) (x1:Ab) (x2:Int) (r:(List Int)) (h:F98 x0 x1 x2=some r):CO 98 [.agg (d29 x0),.agg (d34 x1),.d (I x2)] [] (.d (.os 0)) [v0_ r]:=by
 unfold F98 at h
 refine co 79 Tryz.func98 λ C hC=>?_
 obtain⟨y1,h2,y3,h4,y5,h6,h⟩:=By h
 refine ws K3 30 [] [⟨.room (x0.Al*(1+1)) (List.replicate (Int.toNat x0.Al) (pB false)) (y1.map pB),K1 h2⟩,pr pB h4,pu pB h4 h6,pl pB y5] [] 0 n3_ (Afg y5 0 y5) (Aqd x0 x1 0 y5) hC [] ?_
 obtain⟨w0,hm0,hret0,hnext0⟩:=Av h
 clear h
 refine wc w0 (Ash) (Awc) ?_ λ z0 hs0=>?_
 ·refine wb ?_
  refine B2 7 2 rfl rfl λ hl0=>?_
  refine wl (Afg y5) (Aqd x0 x1) hm0 (λ z0 hn0=>?_) λ n0 a0 z0 w0b hi0 hx0 h hb0 hr0=>?_
  ·clear hm0
   exact wx w0 (Ash) (Awc) K3 26 [false] [] [] 0 [2] _ hC [pq (A6 hl0)] hn0
  ·unfold Akd at h
   refine ws K3 30 [true] [pl q49 x0.Ad] [] 0 n3_ (jG x0 y5 n0 0 z0) (Aen x0 x1 0 z0) hC [pq (A4 hi0 hl0)] ?_
   obtain⟨w1,hm1,hret1,hnext1⟩:=Av h
   clear h
   refine wc w1 (Asg y5 n0) (Awb x0 x1) ?_ λ z1 hs1=>?_
   ·refine wb ?_
    refine Bq 23 rfl λ hl1=>?_
    refine wl (jG x0 y5 n0) (Aen x0 x1) hm1 (λ z1 hn1=>?_) λ n1 a1 z1 w1b hi1 hx1 h hb1 hr1=>?_
    ·clear hm1
     exact wx w1 (Asg y5 n0) (Awb x0 x1) K3 26 [false] [] [] 0 n3_ _ hC [pq (A6 hl1)] hn1
    ·unfold Akc at h
     obtain⟨y7,h8,y9,h10,y11,h12,h⟩:=By h
     refine wn K3 32 [true] [pt hx1 hl1,pR pB h8,pR pB h10,pN pB h10,pR pB h12,pN pB h12] [] 0 n4_ [3,4,6,7,9,19,20,23,24,25,53] hC [pq (A4 hi1 hl1)] ?_
     rcases cB h with⟨h13,h⟩ | ⟨h13,h⟩
     ·obtain⟨y14,h15,y16,h17,y18,h19,y20,h21,h⟩:=Dd h
      exact wx w1b (jG x0 y5 n0 (n1+1)) (Aen x0 x1 (n1+1)) K3 25 [true] [pr pB h15,pu pB h15 h17,pr pB h19,pu pB h19 h21] [] 0 n3_ _ hC [pq h13] (sI h).symm
     ·exact wx w1b (jG x0 y5 n0 (n1+1)) (Aen x0 x1 (n1+1)) K3 25 [false] [] [] 0 n3_ _ hC [pq h13] (sI h).symm
   ·have h:=hnext1 _ hs1
    exact wx w0b (Afg y5 (n0+1)) (Aqd x0 x1 (n0+1)) K3 23 [] [] [] 0 n3_ _ hC [] (sI h).symm
 ·have h:=hnext0 _ hs0
  refine ws K3 26 [] [pl pB z0] [.own 10 3 1] 0 [0,1] (jF z0 0 ([]:List Int)) (Aem z0 0 ([]:List Int)) hC [] ?_
  obtain⟨w2,hm2,hret2,hnext2⟩:=Av h
  clear h
  refine wc w2 (Asf) (Awa) ?_ λ z2 hs2=>?_
  ·refine wb ?_
   refine B2 7 0 rfl rfl λ hl2=>?_
   refine wl (jF z0) (Aem z0) hm2 (λ z2 hn2=>?_) λ n2 a2 z2 w2b hi2 hx2 h hb2 hr2=>?_
   ·clear hm2
    exact wx w2 (Asf) (Awa) K3 26 [false] [] [] 0 [1] _ hC [pq (A6 hl2)] hn2
   ·unfold Akb at h
    rcases cB h with⟨h22,h⟩ | ⟨h22,h⟩
    ·obtain⟨y23,h24,h⟩:=Aw h
     exact wx w2b (jF z0 (n2+1)) (Aem z0 (n2+1)) K3 36 [true,true] [pr pB (Bd hx2 hl2),pn pB (Bd hx2 hl2),pa pI 1 h24] [] 0 [0,2] _ hC [pq (A4 hi2 hl2),pq h22] (sI h).symm
    ·exact wx w2b (jF z0 (n2+1)) (Aem z0 (n2+1)) K3 36 [true,false] [pr pB (Bd hx2 hl2),pn pB (Bd hx2 hl2)] [] 0 [0,1] _ hC [pq (A4 hi2 hl2),pq h22] (sI h).symm
  ·have h:=hnext2 _ hs2
   replace h:=sI h
   subst h
   exact wr K3 23 [] [] [] 0 [0] hC []
theorem e98:EN 98:=en Tryz.func98
def Ahu:List Nat:=[0,1,4,6,7,8,9,10,15]
def Afy (x0:List Int) (x1:Int) (n0:Nat) (z0:Unit):St:=[(1,dI x1),(4,dB false),(7,.d (DS pI x0)),(8,dI (ln x0)),(9,dI (cnt 0 n0))]
def Aqu  (n0:Nat) (z0:Unit):List Res:=[]
def As8  (z0:Unit):St:=[(4,dB false)]
def Aw3  (z0:Unit):List Res:=[]
theorem k53 (x0:List Int) (x1:Int) (r:Bool) (h:F53 x0 x1=some r):CO 53 [.d (DS pI x0),.d (I x1)] [] (.d (Bo r)) []:=by
 unfold F53 at h
 refine co 17 Tryz.func53 λ C hC=>?_
 refine ws Ahu 26 [] [pl pI x0] [] 0 [] (Afy x0 x1 0 ()) (Aqu 0 ()) hC [] ?_
 obtain⟨w0,hm0,hret0,hnext0⟩:=Av h
 clear h
 refine wc w0 (As8) (Aw3) ?_ λ z0 hs0=>?_
 ·refine wb ?_
  refine Bq 7 rfl λ hl0=>?_
  refine wl (Afy x0 x1) (Aqu) hm0 (λ z0 hn0=>?_) λ n0 a0 z0 w0b hi0 hx0 h hb0 hr0=>?_
  ·clear hm0
   exact wx w0 (As8) (Aw3) Ahu 26 [false] [] [] 0 [] _ hC [pq (A6 hl0)] hn0
  ·unfold vP at h
   rcases cB h with⟨h1,h⟩ | ⟨h1,h⟩
   ·have hq:=hret0 _ (hr0 _ (sI h).symm)
    replace hq:=sI hq
    subst hq
    exact wr Ahu 35 [true,true] [pt hx0 hl0] [] 0 [] hC [pq (A4 hi0 hl0),pq h1]
   ·exact wx w0b (Afy x0 x1 (n0+1)) (Aqu (n0+1)) Ahu 36 [true,false] [pt hx0 hl0] [] 0 [] _ hC [pq (A4 hi0 hl0),pq h1] (sI h).symm
 ·have h:=hnext0 _ hs0
  replace h:=sI h
  subst h
  exact wr Ahu 23 [] [] [] 0 [] hC []
theorem e53:EN 53:=en Tryz.func53
theorem k93 (x0:Int) (x1:Int) (x2:Int) (r:Bool) (h:F93 x0 x1 x2=r):CO 93 [.d (I x0),.d (I x1),.d (I x2)] [] (.d (Bo r)) []:=by
 unfold F93 at h
 refine co 15 Tryz.func93 λ C hC=>?_
 subst h
 exact wr [0,1,2,6] 25 [] [] [] 0 [] hC []
theorem e93:EN 93:=en Tryz.func93
def qS:List Nat:=[0,1,4,5,7,8,9,16]
def yS (x0:List Int) (x1:Int) (n0:Nat) (z0:Unit):St:=[(0,.d (DS pI x0)),(1,dI x1),(4,dI 0),(7,dI (ln x0)),(8,dI (cnt 0 n0))]
def Aj5  (n0:Nat) (z0:Unit):List Res:=[]
def Am2  (z0:Unit):St:=[(4,dI 0)]
def An7  (z0:Unit):List Res:=[]
theorem A84 (x0:List Int) (x1:Int) (r:Int) (h:Arq x0 x1=some r):CO 106 [.d (DS pI x0),.d (I x1)] [] (.d (I r)) []:=by
 unfold Arq at h
 refine co 19 Tryz.func106 λ C hC=>?_
 refine ws qS 26 [] [pl pI x0] [] 0 [] (yS x0 x1 0 ()) (Aj5 0 ()) hC [] ?_
 obtain⟨w0,hm0,hret0,hnext0⟩:=Av h
 clear h
 refine wc w0 (Am2) (An7) ?_ λ z0 hs0=>?_
 ·refine wb ?_
  refine Bq 0 rfl λ hl0=>?_
  refine wl (yS x0 x1) (Aj5) hm0 (λ z0 hn0=>?_) λ n0 a0 z0 w0b hi0 hx0 h hb0 hr0=>?_
  ·clear hm0
   exact wx w0 (Am2) (An7) qS 26 [false] [] [] 0 [] _ hC [pq (A6 hl0)] hn0
  ·unfold Aob at h
   rcases cB h with⟨h1,h⟩ | ⟨h1,h⟩
   ·have hq:=hret0 _ (hr0 _ (sI h).symm)
    replace hq:=sI hq
    subst hq
    exact wr qS 35 [true,true] [pt hx0 hl0] [] 0 [] hC [pq (A4 hi0 hl0),pq h1]
   ·exact wx w0b (yS x0 x1 (n0+1)) (Aj5 (n0+1)) qS 36 [true,false] [pt hx0 hl0] [] 0 [] _ hC [pq (A4 hi0 hl0),pq h1] (sI h).symm
 ·have h:=hnext0 _ hs0
  replace h:=sI h
  subst h
  exact wr qS 23 [] [] [] 0 [] hC []
theorem A9t:EN 106:=en Tryz.func106
theorem A4q (x0:List Int) (r:Bool) (h:A0w x0=r):CO 140 [.d (DS pI x0)] [] (.d (Bo r)) []:=by
 unfold A0w at h
 refine co 6 Tryz.func140 λ C hC=>?_
 subst h
 exact wr [0,2] 25 [] [pl pI x0] [] 0 [] hC []
theorem A5y:EN 140:=en Tryz.func140
def qQ:List Nat:=[0,1,2,4,5,6,11,16,20]
theorem A8v (x0:Aa) (x1:Int) (r:Int) (h:Mo x0 x1=r):CO 136 [.agg (d29 x0),.d (I x1)] [] (.d (I r)) []:=by
 unfold Mo at h
 refine co 25 Tryz.func136 λ C hC=>?_
 rcases cB h with⟨h1,h⟩ | ⟨h1,h⟩
 ·subst h
  exact wr qQ 32 [true] [pl q98 x0.Ac] [] 0 [] hC [pq h1]
 ·rcases cB h with⟨h2,h⟩ | ⟨h2,h⟩
  ·subst h
   exact wr qQ 35 [false,true] [pl q49 x0.Ad] [] 0 [] hC [pq h1,pq h2]
  ·rcases cB h with⟨h3,h⟩ | ⟨h3,h⟩
   ·subst h
    exact wr qQ 38 [false,false,true] [] [] 0 [] hC [pq h1,pq h2,pq h3]
   ·rcases cB h with⟨h4,h⟩ | ⟨h4,h⟩
    ·subst h
     exact wr qQ 41 [false,false,false,true] [pl q90 x0.Af] [] 0 [] hC [pq h1,pq h2,pq h3,pq h4]
    ·subst h
     exact wr qQ 43 [false,false,false,false] [] [] 0 [] hC [pq h1,pq h2,pq h3,pq h4]
theorem A9k:EN 136:=en Tryz.func136
theorem Mi (x0:Int) (r:Bool) (h:Z2 x0=r):CO 166 [.d (I x0)] [] (.d (Bo r)) []:=by
 unfold Z2 at h
 refine co 6 Tryz.func166 λ C hC=>?_
 subst h
 exact wr [0,2] 25 [] [] [] 0 [] hC []
theorem Mk:EN 166:=en Tryz.func166
def qP:List Nat:=[0,2,3,5,6,7,8,9,14]
def yQ (x0:List Int) (n0:Nat) (z0:Unit):St:=[(2,dI 0),(3,dI 0),(6,.d (DS pI x0)),(7,dI (ln x0)),(8,dI (cnt 0 n0))]
def Aj3  (n0:Nat) (z0:Unit):List Res:=[]
def Amx  (z0:Unit):St:=[(2,dI 0),(3,dI 0)]
def An2  (z0:Unit):List Res:=[]
theorem A8u (x0:List Int) (r:Int) (h:Aa2 x0=some r):CO 137 [.d (DS pI x0)] [] (.d (I r)) []:=by
 unfold Aa2 at h
 refine co 18 Tryz.func137 λ C hC=>?_
 refine ws qP 28 [] [pl pI x0] [] 0 [] (yQ x0 0 ()) (Aj3 0 ()) hC [] ?_
 obtain⟨w0,hm0,hret0,hnext0⟩:=Av h
 clear h
 refine wc w0 (Amx) (An2) ?_ λ z0 hs0=>?_
 ·refine wb ?_
  refine Bq 6 rfl λ hl0=>?_
  refine wl (yQ x0) (Aj3) hm0 (λ z0 hn0=>?_) λ n0 a0 z0 w0b hi0 hx0 h hb0 hr0=>?_
  ·clear hm0
   exact wx w0 (Amx) (An2) qP 26 [false] [] [] 0 [] _ hC [pq (A6 hl0)] hn0
  ·unfold Xw at h
   rcases cB h with⟨h1,h⟩ | ⟨h1,h⟩
   ·have hq:=hret0 _ (hr0 _ (sI h).symm)
    replace hq:=sI hq
    subst hq
    exact wr qP 35 [true,true] [pt hx0 hl0] [] 0 [] hC [pq (A4 hi0 hl0),pq h1]
   ·exact wx w0b (yQ x0 (n0+1)) (Aj3 (n0+1)) qP 36 [true,false] [pt hx0 hl0] [] 0 [] _ hC [pq (A4 hi0 hl0),pq h1] (sI h).symm
 ·have h:=hnext0 _ hs0
  replace h:=sI h
  subst h
  exact wr qP 23 [] [] [] 0 [] hC []
theorem A9j:EN 137:=en Tryz.func137
def Ahq:List Nat:=[0,1,2,3,4,6,7,8,9,11,12,13,14,33]
def jH (x0:Aa) (x2:Int) (n0:Nat) (z0:Int):St:=[(2,dI x2),(4,dO 0 0),(6,dI 0),(7,dI z0),(11,.d (DS q49 x0.Ad)),(12,dI (ln x0.Ad)),(13,dI (cnt 0 n0))]
def Aeo (x1:Ab) (n0:Nat) (z0:Int):List Res:=[.box 34 (d34 x1)]
def Asp  (z0:Int):St:=[(6,dI 0),(7,dI z0)]
def Awk  (z0:Int):List Res:=[]
theorem k94 (x0:Aa) (x1:Ab) (x2:Int) (r:Int) (h:F94 x0 x1 x2=some r):CO 94 [.agg (d29 x0),.agg (d34 x1),.d (I x2)] [] (.d (I r)) []:=by
 unfold F94 at h
 refine co 38 Tryz.func94 λ C hC=>?_
 refine ws Ahq 28 [] [pl q49 x0.Ad] [] 0 [1] (jH x0 x2 0 0) (Aeo x1 0 0) hC [] ?_
 obtain⟨w0,hm0,hret0,hnext0⟩:=Av h
 clear h
 refine wc w0 (Asp) (Awk) ?_ λ z0 hs0=>?_
 ·refine wb ?_
  refine Bq 11 rfl λ hl0=>?_
  refine wl (jH x0 x2) (Aeo x1) hm0 (λ z0 hn0=>?_) λ n0 a0 z0 w0b hi0 hx0 h hb0 hr0=>?_
  ·clear hm0
   exact wx w0 (Asp) (Awk) Ahq 26 [false] [] [] 0 [] _ hC [pq (A6 hl0)] hn0
  ·unfold Akk at h
   obtain⟨y1,h2,h⟩:=Aw h
   rcases cB h with⟨h3,h⟩ | ⟨h3,h⟩
   ·exact wx w0b (jH x0 x2 (n0+1)) (Aeo x1 (n0+1)) Ahq 36 [true,true] [pt hx0 hl0,pR pB h2] [] 0 [0] _ hC [pq (A4 hi0 hl0),pq h3] (sI h).symm
   ·exact wx w0b (jH x0 x2 (n0+1)) (Aeo x1 (n0+1)) Ahq 36 [true,false] [pt hx0 hl0,pR pB h2] [] 0 [0] _ hC [pq (A4 hi0 hl0),pq h3] (sI h).symm
 ·have h:=hnext0 _ hs0
  replace h:=sI h
  subst h
  exact wr Ahq 23 [] [] [] 0 [] hC []
theorem e94:EN 94:=en Tryz.func94
theorem k78 (x0:List Bool) (r:List Bool) (h:F78 x0=some r):CO 78 [.d (.p (.s (x0.map pB)))] [] (.d (.os 0)) [v1_ r]:=by
 unfold F78 at h
 refine co 8 Tryz.func78 λ C hC=>?_
 refine ws [0,4] 40 [] [] [] 0 [] [(0,.d (.p (.s (x0.map pB)))),(4,.d (.nq (x0.map pB)))] [] hC [] ?_
 refine Aek 4 (by kernel_rfl) (by kernel_rfl) rfl (λ hn=>?_) ?_
 ·have hx:x0=[]:=by cases x0 with | nil=>rfl | cons=>cases hn
  subst hx
  have hr:r=[]:=by simpa [appI] using h.symm
  subst hr
  exact wr [2] 40 [] [] [.own 2 4 1] 0 [0] hC []
 ·exact wr [2] 40 [] [⟨.own,trivial⟩,⟨.app [] (x0.map pB) 1 ((([]:List (List Pd)).length+(x0.map pB).length)*(1+1)) (r.map pB),Lb (l:=[]) pB 1 (λ _=>rfl) h⟩] [] 0 [1] hC []
theorem e78:EN 78:=en Tryz.func78
theorem k79 (x0:List Ag) (r:List Ag) (h:F79 x0=some r):CO 79 [.d (.p (.s (x0.map q87)))] [] (.d (.os 0)) [v4_ r]:=by
 unfold F79 at h
 refine co 8 Tryz.func79 λ C hC=>?_
 refine ws [0,4] 40 [] [] [] 0 [] [(0,.d (.p (.s (x0.map q87)))),(4,.d (.nq (x0.map q87)))] [] hC [] ?_
 refine Aek 4 (by kernel_rfl) (by kernel_rfl) rfl (λ hn=>?_) ?_
 ·have hx:x0=[]:=by cases x0 with | nil=>rfl | cons=>cases hn
  subst hx
  have hr:r=[]:=by simpa [appI] using h.symm
  subst hr
  exact wr [2] 40 [] [] [.own 2 87 4] 0 [0] hC []
 ·exact wr [2] 40 [] [⟨.own,trivial⟩,⟨.app [] (x0.map q87) 4 ((([]:List (List Pd)).length+(x0.map q87).length)*(32+1)) (r.map q87),Lb (l:=[]) q87 4 (λ _=>rfl) h⟩] [] 0 [1] hC []
theorem e79:EN 79:=en Tryz.func79
theorem k80 (x0:List Int) (r:List Int) (h:F80 x0=some r):CO 80 [.d (.p (.s (x0.map pI)))] [] (.d (.os 0)) [v0_ r]:=by
 unfold F80 at h
 refine co 8 Tryz.func80 λ C hC=>?_
 refine ws [0,4] 40 [] [] [] 0 [] [(0,.d (.p (.s (x0.map pI)))),(4,.d (.nq (x0.map pI)))] [] hC [] ?_
 refine Aek 4 (by kernel_rfl) (by kernel_rfl) rfl (λ hn=>?_) ?_
 ·have hx:x0=[]:=by cases x0 with | nil=>rfl | cons=>cases hn
  subst hx
  have hr:r=[]:=by simpa [appI] using h.symm
  subst hr
  exact wr [2] 40 [] [] [.own 2 3 1] 0 [0] hC []
 ·exact wr [2] 40 [] [⟨.own,trivial⟩,⟨.app [] (x0.map pI) 1 ((([]:List (List Pd)).length+(x0.map pI).length)*(8+1)) (r.map pI),Lb (l:=[]) pI 1 (λ _=>rfl) h⟩] [] 0 [1] hC []
theorem e80:EN 80:=en Tryz.func80
theorem k81 (x0:List As) (r:List As) (h:F81 x0=some r):CO 81 [.d (.p (.s (x0.map q92)))] [] (.d (.os 0)) [v3_ r]:=by
 unfold F81 at h
 refine co 8 Tryz.func81 λ C hC=>?_
 refine ws [0,4] 40 [] [] [] 0 [] [(0,.d (.p (.s (x0.map q92)))),(4,.d (.nq (x0.map q92)))] [] hC [] ?_
 refine Aek 4 (by kernel_rfl) (by kernel_rfl) rfl (λ hn=>?_) ?_
 ·have hx:x0=[]:=by cases x0 with | nil=>rfl | cons=>cases hn
  subst hx
  have hr:r=[]:=by simpa [appI] using h.symm
  subst hr
  exact wr [2] 40 [] [] [.own 2 92 2] 0 [0] hC []
 ·exact wr [2] 40 [] [⟨.own,trivial⟩,⟨.app [] (x0.map q92) 2 ((([]:List (List Pd)).length+(x0.map q92).length)*(16+1)) (r.map q92),Lb (l:=[]) q92 2 (λ _=>rfl) h⟩] [] 0 [1] hC []
theorem e81:EN 81:=en Tryz.func81
def qO:List Nat:=[0,1,3,4,5,7,8,9,16]
def yL (x0:List As) (n0:Nat) (z0:Unit):St:=[(0,.d (DS q92 x0)),(3,dO 0 0),(4,dI 0),(7,dI (ln x0)),(8,dI (cnt 0 n0))]
def Ajy (x1:As) (n0:Nat) (z0:Unit):List Res:=[.box 92 (d92 x1)]
def Amq  (z0:Unit):St:=[(4,dI 0)]
def Anv  (z0:Unit):List Res:=[]
theorem A8p (x0:List As) (x1:As) (r:Int) (h:Arm x0 x1=some r):CO 162 [.d (DS q92 x0),.agg (d92 x1)] [] (.d (I r)) []:=by
 unfold Arm at h
 refine co 19 Tryz.func162 λ C hC=>?_
 refine ws qO 26 [] [pl q92 x0] [] 0 [0] (yL x0 0 ()) (Ajy x1 0 ()) hC [] ?_
 obtain⟨w0,hm0,hret0,hnext0⟩:=Av h
 clear h
 refine wc w0 (Amq) (Anv) ?_ λ z0 hs0=>?_
 ·refine wb ?_
  refine Bq 0 rfl λ hl0=>?_
  refine wl (yL x0) (Ajy x1) hm0 (λ z0 hn0=>?_) λ n0 a0 z0 w0b hi0 hx0 h hb0 hr0=>?_
  ·clear hm0
   exact wx w0 (Amq) (Anv) qO 26 [false] [] [] 0 [] _ hC [pq (A6 hl0)] hn0
  ·unfold Aoa at h
   rcases cB h with⟨h1,h⟩ | ⟨h1,h⟩
   ·have hq:=hret0 _ (hr0 _ (sI h).symm)
    replace hq:=sI hq
    subst hq
    exact wr qO 35 [true,true] [pt hx0 hl0] [] 0 [] hC [pq (A4 hi0 hl0),pq h1]
   ·exact wx w0b (yL x0 (n0+1)) (Ajy x1 (n0+1)) qO 36 [true,false] [pt hx0 hl0] [] 0 [0] _ hC [pq (A4 hi0 hl0),pq h1] (sI h).symm
 ·have h:=hnext0 _ hs0
  replace h:=sI h
  subst h
  exact wr qO 23 [] [] [] 0 [] hC []
theorem A9e:EN 162:=en Tryz.func162
theorem Ah2 (x0:Ax) (x1:Int) (r:Ax) (h:Oe x0 x1=some r):CO 153 [.d (.o 0 0),.d (I x1)] (.box 147 (zb x0.An [.os 1,.os 2,.os 3,.os 4,.os 5])::zp x0.Aq [v2_ x0.acts]) (.tup []) (.box 147 (zb r.An [.os 1,.os 2,.os 3,.os 4,.os 6])::zp r.Aq [.non,v2_ r.acts]):=by
 unfold Oe at h
 refine co 22 Tryz.func153 λ C hC=>?_
 obtain⟨y1,h2,y3,h4,y5,h6,h⟩:=By h
 replace h:=sI h
 subst h
 exact wf [0,1] 23 [] [pr pB h2,pu pB h2 h4,pa q47 3 h6] [] 6 n7_ hC []
theorem Ais:EN 153:=en Tryz.func153
def Kb:List Nat:=[0,1,2,3,4,5,6,7,8,9,14,15,16,24,25,26,28,29,30,31,44]
def yN (y1:List Int) (n0:Nat) (z0:(List Int)):St:=[(2,dO 0 0),(3,dO 1 0),(4,.d (DS pI [])),(5,dS 2),(14,dI (ln y1)),(15,dI (cnt 0 n0))]
def Aj0 (x0:Aa) (x1:Ab) (n0:Nat) (z0:(List Int)):List Res:=[.box 29 (d29 x0),.box 34 (d34 x1),v0_ z0]
def Amt  (z0:(List Int)):St:=[(2,dO 0 0),(3,dO 1 0),(4,.d (DS pI [])),(5,dS 2)]
def Any (x0:Aa) (x1:Ab) (z0:(List Int)):List Res:=[.box 29 (d29 x0),.box 34 (d34 x1),v0_ z0]
def yM (z0:(List Int)) (n1:Nat) (z1:(List Int)):St:=[(2,dO 0 0),(3,dO 1 0),(4,.d (DS pI [])),(5,dS 2),(24,dI (ln z0)),(25,dI (cnt 0 n1))]
def Ajz (x0:Aa) (x1:Ab) (n1:Nat) (z1:(List Int)):List Res:=[.box 29 (d29 x0),.box 34 (d34 x1),v0_ z1]
def Ams  (z1:(List Int)):St:=[(4,.d (DS pI [])),(5,dS 0)]
def Anx  (z1:(List Int)):List Res:=[v0_ z1]
def Wm (x0:Aa) (z0:(List Int)) (n1:Nat) (n2:Nat) (z2:(List Int)):St:=[(2,dO 0 0),(3,dO 1 0),(4,.d (DS pI [])),(5,dS 2),(24,dI (ln z0)),(25,dI (cnt 0 n1)),(28,.d (DS q49 x0.Ad)),(29,dI (ln x0.Ad)),(30,dI (cnt 0 n2))]
def vC (x0:Aa) (x1:Ab) (n2:Nat) (z2:(List Int)):List Res:=[.box 29 (d29 x0),.box 34 (d34 x1),v0_ z2]
def Amr (z0:(List Int)) (n1:Nat) (z2:(List Int)):St:=[(2,dO 0 0),(3,dO 1 0),(4,.d (DS pI [])),(5,dS 2),(24,dI (ln z0)),(25,dI (cnt 0 n1))]
def Anw (x0:Aa) (x1:Ab) (z2:(List Int)):List Res:=[.box 29 (d29 x0),.box 34 (d34 x1),v0_ z2]
theorem A4m (x0:Aa) (x1:Ab) (r:(List Int)) (h:Aaz x0 x1=some r):CO 155 [.agg (d29 x0),.agg (d34 x1)] [] (.d (.os 0)) [v0_ r]:=by
 unfold Aaz at h
 refine co 69 Tryz.func155 λ C hC=>?_
 obtain⟨y1,h2,h⟩:=Aw h
 refine ws Kb 28 [] [⟨.room (x0.Al*(8+1)) (List.replicate (Int.toNat x0.Al) (pI 0)) (y1.map pI),K1 h2⟩,pl pI y1] [] 0 n3_ (yN y1 0 y1) (Aj0 x0 x1 0 y1) hC [] ?_
 obtain⟨w0,hm0,hret0,hnext0⟩:=Av h
 clear h
 refine wc w0 (Amt) (Any x0 x1) ?_ λ z0 hs0=>?_
 ·refine wb ?_
  refine B2 5 2 rfl rfl λ hl0=>?_
  refine wl (yN y1) (Aj0 x0 x1) hm0 (λ z0 hn0=>?_) λ n0 a0 z0 w0b hi0 hx0 h hb0 hr0=>?_
  ·clear hm0
   exact wx w0 (Amt) (Any x0 x1) Kb 26 [false] [] [] 0 n3_ _ hC [pq (A6 hl0)] hn0
  ·unfold Aay at h
   obtain⟨y3,h4,y5,h6,h⟩:=A9 h
   exact wx w0b (yN y1 (n0+1)) (Aj0 x0 x1 (n0+1)) Kb 33 [true] [pr pI h4,pu pI h4 h6] [] 0 n3_ _ hC [pq (A4 hi0 hl0)] (sI h).symm
 ·have h := hnext0 _ hs0
  refine ws Kb 24 [] [pl pI z0] [] 0 n3_ (yM z0 0 z0) (Ajz x0 x1 0 z0) hC [] ?_
  obtain⟨w1,hm1,hret1,hnext1⟩:=Av h
  clear h
  refine wc w1 (Ams) (Anx) ?_ λ z1 hs1=>?_
  ·refine wb ?_
   refine B2 5 2 rfl rfl λ hl1=>?_
   refine wl (yM z0) (Ajz x0 x1) hm1 (λ z1 hn1=>?_) λ n1 a1 z1 w1b hi1 hx1 h hb1 hr1=>?_
   ·clear hm1
    exact wx w1 (Ams) (Anx) Kb 26 [false] [] [] 0 [2] _ hC [pq (A6 hl1)] hn1
   ·unfold Aax at h
    refine ws Kb 30 [true] [pl q49 x0.Ad] [] 0 n3_ (Wm x0 z0 n1 0 z1) (vC x0 x1 0 z1) hC [pq (A4 hi1 hl1)] ?_
    obtain⟨w2,hm2,hret2,hnext2⟩:=Av h
    clear h
    refine wc w2 (Amr z0 n1) (Anw x0 x1) ?_ λ z2 hs2=>?_
    ·refine wb ?_
     refine Bq 28 rfl λ hl2=>?_
     refine wl (Wm x0 z0 n1) (vC x0 x1) hm2 (λ z2 hn2=>?_) λ n2 a2 z2 w2b hi2 hx2 h hb2 hr2=>?_
     ·clear hm2
      exact wx w2 (Amr z0 n1) (Anw x0 x1) Kb 26 [false] [] [] 0 n3_ _ hC [pq (A6 hl2)] hn2
     ·unfold Xu at h
      obtain⟨y7,h8,h⟩:=Aw h
      rcases cB h with⟨h9,h⟩ | ⟨h9,h⟩
      ·obtain⟨y10,h11,y12,h13,y14,h15,h⟩:=By h
       obtain⟨y16,h17,y18,h19,h⟩:=A9 h
       exact wx w2b (Wm x0 z0 n1 (n2+1)) (vC x0 x1 (n2+1)) Kb 38 [true,true] [pt hx2 hl2,pR pB h8,pr pI h11,pn pI h11,pr pI h13,pn pI h13,pr pI h11,pu pI h11 h15,pr pI h17,pu pI h17 h19] [] 0 n3_ _ hC [pq (A4 hi2 hl2),pq h9] (sI h).symm
      ·exact wx w2b (Wm x0 z0 n1 (n2+1)) (vC x0 x1 (n2+1)) Kb 36 [true,false] [pt hx2 hl2,pR pB h8] [] 0 n3_ _ hC [pq (A4 hi2 hl2),pq h9] (sI h).symm
    ·have h:=hnext2 _ hs2
     exact wx w1b (yM z0 (n1+1)) (Ajz x0 x1 (n1+1)) Kb 23 [] [] [] 0 n3_ _ hC [] (sI h).symm
  ·have h:=hnext1 _ hs1
   replace h:=sI h
   subst h
   exact wr Kb 23 [] [] [] 0 [0] hC []
theorem A5u:EN 155:=en Tryz.func155
def qN:List Nat:=[0,1,2,3,4,5,8,9,10,11,13,14,15,16,36]
def yK (x0:Aa) (x2:Int) (x3:Int) (n0:Nat) (z0:Unit):St:=[(2,dI x2),(3,dI x3),(5,dO 0 0),(8,dI 0),(9,dB false),(13,.d (DS q49 x0.Ad)),(14,dI (ln x0.Ad)),(15,dI (cnt 0 n0))]
def Ajw (x1:Ab) (n0:Nat) (z0:Unit):List Res:=[.box 34 (d34 x1)]
def Amp  (z0:Unit):St:=[(8,dI 0),(9,dB false)]
def Anu  (z0:Unit):List Res:=[]
theorem A4h (x0:Aa) (x1:Ab) (x2:Int) (x3:Int) (r:Int×Bool) (h:Aaw x0 x1 x2 x3=some r):CO 167 [.agg (d29 x0),.agg (d34 x1),.d (I x2),.d (I x3)] [] (.tup [.d (I r.1),.d (Bo r.2)]) []:=by
 unfold Aaw at h
 refine co 40 Tryz.func167 λ C hC=>?_
 refine ws qN 26 [] [pl q49 x0.Ad] [] 0 [1] (yK x0 x2 x3 0 ()) (Ajw x1 0 ()) hC [] ?_
 obtain⟨w0,hm0,hret0,hnext0⟩:=Av h
 clear h
 refine wc w0 (Amp) (Anu) ?_ λ z0 hs0=>?_
 ·refine wb ?_
  refine Bq 13 rfl λ hl0=>?_
  refine wl (yK x0 x2 x3) (Ajw x1) hm0 (λ z0 hn0=>?_) λ n0 a0 z0 w0b hi0 hx0 h hb0 hr0=>?_
  ·clear hm0
   exact wx w0 (Amp) (Anu) qN 26 [false] [] [] 0 [] _ hC [pq (A6 hl0)] hn0
  ·unfold Xt at h
   obtain⟨y1,h2,h⟩:=Aw h
   rcases cB h with⟨h3,h⟩ | ⟨h3,h⟩
   ·have hq:=hret0 _ (hr0 _ (sI h).symm)
    replace hq:=sI hq
    subst hq
    exact wr qN 35 [true,true] [pt hx0 hl0,pR pB h2] [] 0 [] hC [pq (A4 hi0 hl0),pq h3]
   ·exact wx w0b (yK x0 x2 x3 (n0+1)) (Ajw x1 (n0+1)) qN 36 [true,false] [pt hx0 hl0,pR pB h2] [] 0 [0] _ hC [pq (A4 hi0 hl0),pq h3] (sI h).symm
 ·have h:=hnext0 _ hs0
  replace h:=sI h
  subst h
  exact wr qN 23 [] [] [] 0 [] hC []
theorem A5p:EN 167:=en Tryz.func167
theorem A4l (x0:Aj) (r:Bool) (h:Arn x0=r):CO 158 [.agg (d62 x0)] [] (.d (Bo r)) []:=by
 unfold Arn at h
 refine co 7 Tryz.func158 λ C hC=>?_
 subst h
 exact wr n3_ 25 [] [pl pI x0.Al] [] 0 [] hC []
theorem A5t:EN 158:=en Tryz.func158
def Wx:List Nat:=[0,1,2,3,5,7,8,9,10,11]
def Uc (x1:List Int) (n0:Nat) (z0:(List Ag)):St:=[(3,dO 4 0),(5,dO 5 0),(8,.d (DS pI x1)),(9,dI (ln x1)),(10,dI (cnt 0 n0))]
def Zm (x0:Ab) (x2:Ag) (n0:Nat) (z0:(List Ag)):List Res:=[v1_ x0.Ae,v4_ z0,v0_ x0.Am,v3_ x0.Ai,.box 34 [.os 0,.os 1,.os 2,.os 3],.box 87 (d87 x2)]
def Abw  (z0:(List Ag)):St:=[]
def Ada (x0:Ab) (z0:(List Ag)):List Res:=[v1_ x0.Ae,v4_ z0,v0_ x0.Am,v3_ x0.Ai]
theorem Ah4 (x0:Ab) (x1:List Int) (x2:Ag) (r:(List Ag)) (h:Of x0 x1 x2=some r):CO 145 [.agg [.os 0,.os 1,.os 2,.os 3],.d (DS pI x1),.agg (d87 x2)] (zp x0 []) (.tup []) [v1_ x0.Ae,v4_ r,v0_ x0.Am,v3_ x0.Ai]:=by
 unfold Of at h
 refine co 29 Tryz.func145 λ C hC=>?_
 refine ws Wx 25 [] [pl pI x1] [] 4 n6_ (Uc x1 0 x0.Ac) (Zm x0 x2 0 x0.Ac) hC [] ?_
 obtain⟨w0,hm0,hret0,hnext0⟩:=Av h
 clear h
 refine wc w0 (Abw) (Ada x0) ?_ λ z0 hs0=>?_
 ·refine wb ?_
  refine Bq 8 rfl λ hl0=>?_
  refine wl (Uc x1) (Zm x0 x2) hm0 (λ z0 hn0=>?_) λ n0 a0 z0 w0b hi0 hx0 h hb0 hr0=>?_
  ·clear hm0
   exact wx w0 (Abw) (Ada x0) Wx 26 [false] [] [] 4 n4_ _ hC [pq (A6 hl0)] hn0
  ·unfold V7 at h
   obtain⟨y1,h2,y3,h4,y5,h6,y7,h8,h⟩:=Dd h
   exact wx w0b (Uc x1 (n0+1)) (Zm x0 x2 (n0+1)) Wx 33 [true] [pt hx0 hl0,pr q87 h2,pu q87 h2 h4,pr q87 h6,pu q87 h6 h8] [] 4 n6_ _ hC [pq (A4 hi0 hl0)] (sI h).symm
 ·have h:=hnext0 _ hs0
  replace h:=sI h
  subst h
  exact wf Wx 20 [] [] [] 4 n4_ hC []
theorem Aiu:EN 145:=en Tryz.func145
theorem A4j (x0:Ah) (x1:Int) (r:Bool) (h:V2 x0 x1=r):CO 161 [.agg (d49 x0),.d (.ip [.v (.int .i64 x1)])] [] (.d (Bo r)) []:=by
 unfold V2 at h
 refine co 13 Tryz.func161 λ C hC=>?_
 subst h
 exact wr n4_ 25 [] [] [] 0 [] hC []
theorem A5r:EN 161:=en Tryz.func161
def zN:List Nat:=[0,1,4,5,10,12,13,14,24]
def Afw (x0:List Bool) (x1:List Bool) (n0:Nat) (z0:Unit):St:=[(0,.d (DS pB x0)),(1,.d (DS pB x1)),(4,dB false),(12,dI (ln x0)),(13,dI (cnt 0 n0))]
def Aqs  (n0:Nat) (z0:Unit):List Res:=[]
def As1  (z0:Unit):St:=[(4,dB false)]
def Aww  (z0:Unit):List Res:=[]
theorem k72 (x0:List Bool) (x1:List Bool) (r:Bool) (h:F72 x0 x1=some r):CO 72 [.d (DS pB x0),.d (DS pB x1)] [] (.d (Bo r)) []:=by
 unfold F72 at h
 refine co 26 Tryz.func72 λ C hC=>?_
 rcases cB h with⟨h1,h⟩ | ⟨h1,h⟩
 ·replace h:=sI h
  subst h
  exact wr zN 29 [true] [pl pB x0,pl pB x1] [] 0 [] hC [pq h1]
 ·refine ws zN 31 [false] [pl pB x0,pl pB x1,pl pB x0] [] 0 [] (Afw x0 x1 0 ()) (Aqs 0 ()) hC [pq h1] ?_
  obtain⟨w0,hm0,hret0,hnext0⟩:=Av h
  clear h
  refine wc w0 (As1) (Aww) ?_ λ z0 hs0=>?_
  ·refine wb ?_
   refine Bq 0 rfl λ hl0=>?_
   refine wl (Afw x0 x1) (Aqs) hm0 (λ z0 hn0=>?_) λ n0 a0 z0 w0b hi0 hx0 h hb0 hr0=>?_
   ·clear hm0
    exact wx w0 (As1) (Aww) zN 26 [false] [] [] 0 [] _ hC [pq (A6 hl0)] hn0
   ·unfold vN at h
    obtain⟨y2,h3,h⟩:=Aw h
    rcases cB h with⟨h4,h⟩ | ⟨h4,h⟩
    ·have hq:=hret0 _ (hr0 _ (sI h).symm)
     replace hq:=sI hq
     subst hq
     exact wr zN 35 [true,true] [pt hx0 hl0,pr pB h3] [] 0 [] hC [pq (A4 hi0 hl0),pq h4]
    ·exact wx w0b (Afw x0 x1 (n0+1)) (Aqs (n0+1)) zN 36 [true,false] [pt hx0 hl0,pr pB h3] [] 0 [] _ hC [pq (A4 hi0 hl0),pq h4] (sI h).symm
  ·have h:=hnext0 _ hs0
   replace h:=sI h
   subst h
   exact wr zN 23 [] [] [] 0 [] hC []
theorem e72:EN 72:=en Tryz.func72
def zM:List Nat:=[0,1,4,5,10,12,13,14,24]
def Afv (x0:List Ag) (x1:List Ag) (n0:Nat) (z0:Unit):St:=[(0,.d (DS q87 x0)),(1,.d (DS q87 x1)),(4,dB false),(12,dI (ln x0)),(13,dI (cnt 0 n0))]
def Aqr  (n0:Nat) (z0:Unit):List Res:=[]
def As0  (z0:Unit):St:=[(4,dB false)]
def Awv  (z0:Unit):List Res:=[]
theorem k73 (x0:List Ag) (x1:List Ag) (r:Bool) (h:F73 x0 x1=some r):CO 73 [.d (DS q87 x0),.d (DS q87 x1)] [] (.d (Bo r)) []:=by
 unfold F73 at h
 refine co 26 Tryz.func73 λ C hC=>?_
 rcases cB h with⟨h1,h⟩ | ⟨h1,h⟩
 ·replace h:=sI h
  subst h
  exact wr zM 29 [true] [pl q87 x0,pl q87 x1] [] 0 [] hC [pq h1]
 ·refine ws zM 31 [false] [pl q87 x0,pl q87 x1,pl q87 x0] [] 0 [] (Afv x0 x1 0 ()) (Aqr 0 ()) hC [pq h1] ?_
  obtain⟨w0,hm0,hret0,hnext0⟩:=Av h
  clear h
  refine wc w0 (As0) (Awv) ?_ λ z0 hs0=>?_
  ·refine wb ?_
   refine Bq 0 rfl λ hl0=>?_
   refine wl (Afv x0 x1) (Aqr) hm0 (λ z0 hn0=>?_) λ n0 a0 z0 w0b hi0 hx0 h hb0 hr0=>?_
   ·clear hm0
    exact wx w0 (As0) (Awv) zM 26 [false] [] [] 0 [] _ hC [pq (A6 hl0)] hn0
   ·unfold vM at h
    obtain⟨y2,h3,h⟩:=Aw h
    rcases cB h with⟨h4,h⟩ | ⟨h4,h⟩
    ·have hq:=hret0 _ (hr0 _ (sI h).symm)
     replace hq:=sI hq
     subst hq
     exact wr zM 35 [true,true] [pt hx0 hl0,pr q87 h3] [] 0 [] hC [pq (A4 hi0 hl0),pq h4]
    ·exact wx w0b (Afv x0 x1 (n0+1)) (Aqr (n0+1)) zM 36 [true,false] [pt hx0 hl0,pr q87 h3] [] 0 [] _ hC [pq (A4 hi0 hl0),pq h4] (sI h).symm
  ·have h:=hnext0 _ hs0
   replace h:=sI h
   subst h
   exact wr zM 23 [] [] [] 0 [] hC []
theorem e73:EN 73:=en Tryz.func73
def zL:List Nat:=[0,1,4,5,10,12,13,14,24]
def Afu (x0:List Int) (x1:List Int) (n0:Nat) (z0:Unit):St:=[(0,.d (DS pI x0)),(1,.d (DS pI x1)),(4,dB false),(12,dI (ln x0)),(13,dI (cnt 0 n0))]
def Aqq  (n0:Nat) (z0:Unit):List Res:=[]
def Asz  (z0:Unit):St:=[(4,dB false)]
def Awu  (z0:Unit):List Res:=[]
theorem k74 (x0:List Int) (x1:List Int) (r:Bool) (h:F74 x0 x1=some r):CO 74 [.d (DS pI x0),.d (DS pI x1)] [] (.d (Bo r)) []:=by
 unfold F74 at h
 refine co 26 Tryz.func74 λ C hC=>?_
 rcases cB h with⟨h1,h⟩ | ⟨h1,h⟩
 ·replace h:=sI h
  subst h
  exact wr zL 29 [true] [pl pI x0,pl pI x1] [] 0 [] hC [pq h1]
 ·refine ws zL 31 [false] [pl pI x0,pl pI x1,pl pI x0] [] 0 [] (Afu x0 x1 0 ()) (Aqq 0 ()) hC [pq h1] ?_
  obtain⟨w0,hm0,hret0,hnext0⟩:=Av h
  clear h
  refine wc w0 (Asz) (Awu) ?_ λ z0 hs0=>?_
  ·refine wb ?_
   refine Bq 0 rfl λ hl0=>?_
   refine wl (Afu x0 x1) (Aqq) hm0 (λ z0 hn0=>?_) λ n0 a0 z0 w0b hi0 hx0 h hb0 hr0=>?_
   ·clear hm0
    exact wx w0 (Asz) (Awu) zL 26 [false] [] [] 0 [] _ hC [pq (A6 hl0)] hn0
   ·unfold vL at h
    obtain⟨y2,h3,h⟩:=Aw h
    rcases cB h with⟨h4,h⟩ | ⟨h4,h⟩
    ·have hq:=hret0 _ (hr0 _ (sI h).symm)
     replace hq:=sI hq
     subst hq
     exact wr zL 35 [true,true] [pt hx0 hl0,pr pI h3] [] 0 [] hC [pq (A4 hi0 hl0),pq h4]
    ·exact wx w0b (Afu x0 x1 (n0+1)) (Aqq (n0+1)) zL 36 [true,false] [pt hx0 hl0,pr pI h3] [] 0 [] _ hC [pq (A4 hi0 hl0),pq h4] (sI h).symm
  ·have h:=hnext0 _ hs0
   replace h:=sI h
   subst h
   exact wr zL 23 [] [] [] 0 [] hC []
theorem e74:EN 74:=en Tryz.func74
def zK:List Nat:=[0,1,4,5,10,12,13,14,24]
def Afs (x0:List As) (x1:List As) (n0:Nat) (z0:Unit):St:=[(0,.d (DS q92 x0)),(1,.d (DS q92 x1)),(4,dB false),(12,dI (ln x0)),(13,dI (cnt 0 n0))]
def Aqp  (n0:Nat) (z0:Unit):List Res:=[]
def Asy  (z0:Unit):St:=[(4,dB false)]
def Awt  (z0:Unit):List Res:=[]
theorem k75 (x0:List As) (x1:List As) (r:Bool) (h:F75 x0 x1=some r):CO 75 [.d (DS q92 x0),.d (DS q92 x1)] [] (.d (Bo r)) []:=by
 unfold F75 at h
 refine co 26 Tryz.func75 λ C hC=>?_
 rcases cB h with⟨h1,h⟩ | ⟨h1,h⟩
 ·replace h:=sI h
  subst h
  exact wr zK 29 [true] [pl q92 x0,pl q92 x1] [] 0 [] hC [pq h1]
 ·refine ws zK 31 [false] [pl q92 x0,pl q92 x1,pl q92 x0] [] 0 [] (Afs x0 x1 0 ()) (Aqp 0 ()) hC [pq h1] ?_
  obtain⟨w0,hm0,hret0,hnext0⟩:=Av h
  clear h
  refine wc w0 (Asy) (Awt) ?_ λ z0 hs0=>?_
  ·refine wb ?_
   refine Bq 0 rfl λ hl0=>?_
   refine wl (Afs x0 x1) (Aqp) hm0 (λ z0 hn0=>?_) λ n0 a0 z0 w0b hi0 hx0 h hb0 hr0=>?_
   ·clear hm0
    exact wx w0 (Asy) (Awt) zK 26 [false] [] [] 0 [] _ hC [pq (A6 hl0)] hn0
   ·unfold vK at h
    obtain⟨y2,h3,h⟩:=Aw h
    rcases cB h with⟨h4,h⟩ | ⟨h4,h⟩
    ·have hq:=hret0 _ (hr0 _ (sI h).symm)
     replace hq:=sI hq
     subst hq
     exact wr zK 35 [true,true] [pt hx0 hl0,pr q92 h3] [] 0 [] hC [pq (A4 hi0 hl0),pq h4]
    ·exact wx w0b (Afs x0 x1 (n0+1)) (Aqp (n0+1)) zK 36 [true,false] [pt hx0 hl0,pr q92 h3] [] 0 [] _ hC [pq (A4 hi0 hl0),pq h4] (sI h).symm
  ·have h:=hnext0 _ hs0
   replace h:=sI h
   subst h
   exact wr zK 23 [] [] [] 0 [] hC []
theorem e75:EN 75:=en Tryz.func75
theorem A5b (x0:Ah) (x1:Int) (r:Bool) (h:yG x0 x1=r):CO 104 [.agg (d49 x0),.d (.ip [.v (.int .i64 x1)])] [] (.d (Bo r)) []:=by
 unfold yG at h
 refine co 13 Tryz.func104 λ C hC=>?_
 subst h
 exact wr n4_ 25 [] [] [] 0 [] hC []
theorem A6j:EN 104:=en Tryz.func104
def Aht:List Nat:=[0,1,4,5,7,8,9,16]
def Afr (x0:List Bool) (x1:Bool) (n0:Nat) (z0:Unit):St:=[(0,.d (DS pB x0)),(1,dB x1),(4,dI 0),(7,dI (ln x0)),(8,dI (cnt 0 n0))]
def Aqo  (n0:Nat) (z0:Unit):List Res:=[]
def Asx  (z0:Unit):St:=[(4,dI 0)]
def Aws  (z0:Unit):List Res:=[]
theorem k77 (x0:List Bool) (x1:Bool) (r:Int) (h:F77 x0 x1=some r):CO 77 [.d (DS pB x0),.d (Bo x1)] [] (.d (I r)) []:=by
 unfold F77 at h
 refine co 19 Tryz.func77 λ C hC=>?_
 refine ws Aht 26 [] [pl pB x0] [] 0 [] (Afr x0 x1 0 ()) (Aqo 0 ()) hC [] ?_
 obtain⟨w0,hm0,hret0,hnext0⟩:=Av h
 clear h
 refine wc w0 (Asx) (Aws) ?_ λ z0 hs0=>?_
 ·refine wb ?_
  refine Bq 0 rfl λ hl0=>?_
  refine wl (Afr x0 x1) (Aqo) hm0 (λ z0 hn0=>?_) λ n0 a0 z0 w0b hi0 hx0 h hb0 hr0=>?_
  ·clear hm0
   exact wx w0 (Asx) (Aws) Aht 26 [false] [] [] 0 [] _ hC [pq (A6 hl0)] hn0
  ·unfold Akq at h
   rcases cB h with⟨h1,h⟩ | ⟨h1,h⟩
   ·have hq:=hret0 _ (hr0 _ (sI h).symm)
    replace hq:=sI hq
    subst hq
    exact wr Aht 35 [true,true] [pt hx0 hl0] [] 0 [] hC [pq (A4 hi0 hl0),pq h1]
   ·exact wx w0b (Afr x0 x1 (n0+1)) (Aqo (n0+1)) Aht 36 [true,false] [pt hx0 hl0] [] 0 [] _ hC [pq (A4 hi0 hl0),pq h1] (sI h).symm
 ·have h:=hnext0 _ hs0
  replace h:=sI h
  subst h
  exact wr Aht 23 [] [] [] 0 [] hC []
theorem e77:EN 77:=en Tryz.func77
theorem Aec (x0:Ay) (x1:Int) (x2:Int) (r:Ay) (h:Ph x0 x1 x2=some r):CO 40 [.d (.o 0 0),.d (I x1),.d (I x2)] (.box 80 (zb x0.An [.os 1,.os 2,.os 3,.os 4,.os 5,.os 6])::zp x0.Aq [v1_ x0.goal,v2_ x0.acts]) (.tup []) (.box 80 (zb r.An [.os 1,.os 2,.os 3,.os 4,.os 5,.os 7])::zp r.Aq [v1_ r.goal,.non,v2_ r.acts]):=by
 unfold Ph at h
 refine co 27 Tryz.func40 λ C hC=>?_
 obtain⟨y1,h2,y3,h4,y5,h6,h⟩:=By h
 replace h:=sI h
 subst h
 exact wf n3_ 23 [] [pa q47 3 h2,pr pB h4,pu pB h4 h6] [] 7 n8_ hC []
theorem Aed:EN 40:=en Tryz.func40
theorem A8o (x0:Int) (x1:Int) (r:Int×Int) (h:Arl x0 x1=r):CO 164 [.d (.p (.v (.int .u64 x0))),.d (.p (.v (.int .u64 x1)))] [] (.tup [.d (.p (.v (.int .u64 r.1))),.d (.p (.v (.int .u64 r.2)))]) []:=by
 unfold Arl at h
 refine co 51 Tryz.func164 λ C hC=>?_
 subst h
 exact wr [0,1,4,5,6,7,8,9,10,11,12,13] 45 [] [] [] 0 [] hC []
theorem A9d:EN 164:=en Tryz.func164
theorem k84 (x0:List Int):CO 84 [.d (.p (.s (x0.map pI)))] [] (.d (.fn (.func 131) [] [.o 0 0])) [.box 22 [.p (.s (x0.map pI))]]:=by
 refine co 4 Tryz.func84 λ C hC=>?_
 exact wr [1,2] 40 [] [] [] 0 [0] hC []
theorem e84:EN 84:=en Tryz.func84
theorem k42  (r:Aa×Ab) (h:F42  = r):CO 42 [] [] (.tup [.agg (d29 r.1),.agg (d34 r.2)]) []:=by
 unfold F42 at h
 refine co 14 Tryz.func42 λ C hC=>?_
 subst h
 exact wr n3_ 27 [] [] [.ownb 0 3 90 5,.frz 3,.ownb 1 2 3 1,.frz 4,.ownb 1 3 92 2,.frz 5] 0 [] hC []
theorem e42:EN 42:=en Tryz.func42
def qR:List Nat:=[0,1,2,3,6,7,8,9,14,19,23]
theorem Y1 (x0:Aa) (x1:Int) (x2:Int) (r:Bool) (h:Hi x0 x1 x2=r):CO 108 [.agg (d29 x0),.d (I x1),.d (I x2)] [] (.d (Bo r)) []:=by
 unfold Hi at h
 refine co 35 Tryz.func108 λ C hC=>?_
 rcases cB h with⟨h1,h⟩ | ⟨h1,h⟩
 ·subst h
  exact wr qR 36 [true] [pl q98 x0.Ac] [] 0 [] hC [pq h1]
 ·rcases cB h with⟨h2,h⟩ | ⟨h2,h⟩
  ·subst h
   exact wr qR 39 [false,true] [pl q49 x0.Ad] [] 0 [] hC [pq h1,pq h2]
  ·rcases cB h with⟨h3,h⟩ | ⟨h3,h⟩
   ·subst h
    exact wr qR 42 [false,false,true] [] [] 0 [] hC [pq h1,pq h2,pq h3]
   ·rcases cB h with⟨h4,h⟩ | ⟨h4,h⟩
    ·subst h
     exact wr qR 45 [false,false,false,true] [pl q90 x0.Af] [] 0 [] hC [pq h1,pq h2,pq h3,pq h4]
    ·subst h
     exact wr qR 45 [false,false,false,false] [] [] 0 [] hC [pq h1,pq h2,pq h3,pq h4]
theorem Y7:EN 108:=en Tryz.func108
theorem Ape (x0:Int) (r:Int) (h:Fe x0=r):CO 171 [.d (I x0)] [] (.d (I r)) []:=by
 unfold Fe at h
 refine co 10 Tryz.func171 λ C hC=>?_
 rcases cB h with⟨h1,h⟩ | ⟨h1,h⟩
 ·subst h
  exact wr [0,2,6] 32 [true] [⟨.nz 3600,Qe rfl⟩] [] 0 [] hC [pq h1]
 ·subst h
  exact wr [0,2,6] 32 [false] [⟨.nz 3600,Qe rfl⟩] [] 0 [] hC [pq h1]
theorem Apq:EN 171:=en Tryz.func171
theorem A48 (x0:A0) (x1:Int) (x2:Int) (r:Int×A0) (h:Oh x0 x1 x2=some r):CO 114 [.d (.o 0 0),.d (I x1),.d (I x2)] (.box 107 (zb x0.An [.os 1,.os 2,.os 3,.os 4,I x0.time])::zp x0.Aq []) (.d (I r.1)) (.box 107 (zb r.2.An [.os 1,.os 2,.os 3,.os 4,I r.2.time])::zp r.2.Aq []):=by
 unfold Oh at h
 refine co 30 Tryz.func114 λ C hC=>?_
 obtain⟨y1,h2,h⟩:=Aw h
 rcases cB h with⟨h3,h⟩ | ⟨h3,h⟩
 ·replace h:=sI h
  subst h
  exact wr [0,1,2,6,21] 29 [true] [pR q90 h2] [] 5 n5_ hC [pq h3]
 ·obtain⟨y4,h5,y6,h7,h⟩:=A9 h
  replace h:=sI h
  subst h
  exact wr [0,1,2,6,21] 32 [false] [pR q90 h2,pr pI h5,pu pI h5 h7] [] 5 n5_ hC [pq h3]
theorem A6g:EN 114:=en Tryz.func114
theorem A4p (x0:As) (x1:As) (r:Int) (h:Tq x0 x1=r):CO 149 [.agg (d92 x0),.agg (d92 x1)] [] (.d (I r)) []:=by
 unfold Tq at h
 refine co 20 Tryz.func149 λ C hC=>?_
 rcases cB h with⟨h1,h⟩ | ⟨h1,h⟩
 ·subst h
  exact wr [0,1,2,3,4,9] 29 [true] [] [] 0 [] hC [pq h1]
 ·subst h
  exact wr [0,1,2,3,4,9] 30 [false] [] [] 0 [] hC [pq h1]
theorem A5x:EN 149:=en Tryz.func149
def zR:List Nat:=[0,1,2,6,7,8,9,16,22,31,68]
theorem A4o (x0:List As) (x1:Int) (x2:List As) (r:(List As)) (h:Q8 x0 x1 x2=some r):CO 150 [.d (.os 0),.d (I x1),.d (DS q92 x2)] [v3_ x0] (.d (.os 1)) [.non,v3_ r]:=by
 by_cases hh:((ln x2)==0)=false/\(x1==(ln x0))=false
 ·unfold Q8 at h
  exact A27 (enc:=q92) (λ _=>rfl) hh.1 hh.2 h
 unfold Q8 at h
 refine co 95 Tryz.func150 λ C hC=>?_
 obtain⟨u2,h1,h⟩:=Aw h
 rcases cB h with⟨h3,h⟩ | ⟨h3,h⟩
 ·replace h:=sI h
  subst h
  exact wr zR 33 [true] [⟨.bnd (x0.map q92).length x1 (((x0.map q92).length:Nat):Int) (ln x0),Gd (by simp) (by simp) h1⟩,pl q92 x2] [.mv 0] 1 [0,1] hC [pq h3]
 ·refine wn zR 37 [false] [⟨.bnd (x0.map q92).length x1 (((x0.map q92).length:Nat):Int) (ln x0),Gd (by simp) (by simp) h1⟩,pl q92 x2,pl q92 x0] [] 1 [0] [0,1,2,6,7,8,22] hC [pq h3] ?_
  rcases cB h with⟨h4,h⟩ | ⟨h4,h⟩
  ·obtain⟨y5,h6,h⟩:=Aw h
   replace h:=sI h
   subst h
   exact wr zR 24 [true] [pa q92 2 h6] [] 1 [0,1] hC [pq h4]
  ·exact absurd ⟨h3,h4⟩ hh
theorem A5w:EN 150:=en Tryz.func150
theorem A4n (x0:List As) (x1:Int) (x2:Int) (r:(List As)) (h:V4 x0 x1 x2=some r):CO 151 [.d (.os 0),.d (I x1),.d (I x2)] [.sl 92 2 (x0.map q92)] (.d (.os 1)) [.non,.sl 92 2 (r.map q92)]:=by
 unfold V4 at h
 refine co 33 Tryz.func151 λ C hC=>?_
 obtain⟨u2,h1,h⟩:=Aw h
 rcases cB h with⟨h3,h⟩ | ⟨h3,h⟩
 ·replace h:=sI h
  subst h
  exact wr [0,1,2,6,7,16] 31 [true] [pl q92 x0,⟨.bnd3 (x0.map q92).length x1 x2 (ln x0),Ai9 (by simp) h1⟩] [.mv 0] 1 [0,1] hC [pq h3]
 ·obtain⟨u5,h4,u7,h6,y8,h9,u11,h10,h⟩:=Dd h
  replace h:=sI h
  subst h
  (rw [List.map_take];exact uY (bs:=[((x1==x2),false)]) Jg [0,1,2,6,7,16] 38 [false] [.len (ln (x0.map q92)) (ln x0),.bnd3 (x0.map q92).length x1 x2 (ln x0),.len (ln (x0.map q92)) (ln x0),.bnd (x0.map q92).length 0 x1 x1,.bnd (x0.map q92).length x2 (((x0.map q92).length:Nat):Int) (ln x0),.appP (x0.map q92) (((x0.map q92).drop (Int.toNat x2)).take ((Int.toNat (ln x0))-(Int.toNat x2))) 2 ((Int.toNat x1)-0) (((Int.toNat x1)-0)+((x0.drop (Int.toNat x2)).take ((Int.toNat (ln x0))-(Int.toNat x2))).length) ((x0.map q92).take ((Int.toNat x1)-0)++((((x0.map q92).drop (Int.toNat x2)).take ((Int.toNat (ln x0))-(Int.toNat x2)))++(x0.map q92).drop (((Int.toNat x1)-0)+(((x0.map q92).drop (Int.toNat x2)).take ((Int.toNat (ln x0))-(Int.toNat x2))).length))) (y8.map q92),.len (((((Int.toNat x1)-0)+((x0.drop (Int.toNat x2)).take ((Int.toNat (ln x0))-(Int.toNat x2))).length):Nat):Int) (((((Int.toNat x1)-0)+((x0.drop (Int.toNat x2)).take ((Int.toNat (ln x0))-(Int.toNat x2))).length):Nat):Int),.bnd ((y8.map q92).length-0) (((((Int.toNat x1)-0)+((x0.drop (Int.toNat x2)).take ((Int.toNat (ln x0))-(Int.toNat x2))).length):Nat):Int) (ln x0) (ln x0),.eqr ((y8.map q92).take (0+(Int.toNat (((((Int.toNat x1)-0)+((x0.drop (Int.toNat x2)).take ((Int.toNat (ln x0))-(Int.toNat x2))).length):Nat):Int)))++(List.replicate ((Int.toNat (ln x0))-(Int.toNat (((((Int.toNat x1)-0)+((x0.drop (Int.toNat x2)).take ((Int.toNat (ln x0))-(Int.toNat x2))).length):Nat):Int))) (q92 (⟨0,0⟩:As))++(y8.map q92).drop ((0+(Int.toNat (((((Int.toNat x1)-0)+((x0.drop (Int.toNat x2)).take ((Int.toNat (ln x0))-(Int.toNat x2))).length):Nat):Int)))+((Int.toNat (ln x0))-(Int.toNat (((((Int.toNat x1)-0)+((x0.drop (Int.toNat x2)).take ((Int.toNat (ln x0))-(Int.toNat x2))).length):Nat):Int)))))) ((Hf y8 (0+(Int.toNat (((((Int.toNat x1)-0)+((x0.drop (Int.toNat x2)).take ((Int.toNat (ln x0))-(Int.toNat x2))).length):Nat):Int))) ((Int.toNat (ln x0))-(Int.toNat (((((Int.toNat x1)-0)+((x0.drop (Int.toNat x2)).take ((Int.toNat (ln x0))-(Int.toNat x2))).length):Nat):Int))) (⟨0,0⟩:As)).map q92)] [.trunc 6] [.tmp 6] 1 [0,1] rfl hC ⟨W7 _ _,Ai9 (by simp) h1,W7 _ _,Gd (by simp) rfl h4,Gd (by simp) (by simp) h6,A0j q92 2 (λ _=>rfl) (Ahf _ _ _ _) h9,rfl,Gd (by simp) rfl h10,Aah q92 rfl,trivial⟩ ⟨h3,trivial⟩ (by kernel_rfl))
theorem A5v:EN 151:=en Tryz.func151
def Ao6:List Nat:=[0,1,4,5,10,12,13,14,24]
def Af2 (x0:List Ak) (x1:List Ak) (n0:Nat) (z0:Unit):St:=[(0,.d (DS q47 x0)),(1,.d (DS q47 x1)),(4,dB false),(12,dI (ln x0)),(13,dI (cnt 0 n0))]
def Aqy  (n0:Nat) (z0:Unit):List Res:=[]
def Atf  (z0:Unit):St:=[(4,dB false)]
def Axa  (z0:Unit):List Res:=[]
theorem k43 (x0:List Ak) (x1:List Ak) (r:Bool) (h:F43 x0 x1=some r):CO 43 [.d (DS q47 x0),.d (DS q47 x1)] [] (.d (Bo r)) []:=by
 unfold F43 at h
 refine co 26 Tryz.func43 λ C hC=>?_
 rcases cB h with⟨h1,h⟩ | ⟨h1,h⟩
 ·cases h
 ·refine ws Ao6 31 [false] [pl q47 x0,pl q47 x1,pl q47 x0] [] 0 [] (Af2 x0 x1 0 ()) (Aqy 0 ()) hC [pq h1] ?_
  obtain⟨w0,hm0,hret0,hnext0⟩:=Av h
  clear h
  refine wc w0 (Atf) (Axa) ?_ λ z0 hs0=>?_
  ·refine wb ?_
   refine Bq 0 rfl λ hl0=>?_
   refine wl (Af2 x0 x1) (Aqy) hm0 (λ z0 hn0=>?_) λ n0 a0 z0 w0b hi0 hx0 h hb0 hr0=>?_
   ·clear hm0
    exact wx w0 (Atf) (Axa) Ao6 26 [false] [] [] 0 [] _ hC [pq (A6 hl0)] hn0
   ·unfold Ax3 at h
    obtain⟨y2,h3,h⟩:=Aw h
    rcases cB h with⟨h4,h⟩ | ⟨h4,h⟩
    ·cases h
    ·exact wx w0b (Af2 x0 x1 (n0+1)) (Aqy (n0+1)) Ao6 36 [true,false] [pt hx0 hl0,pr q47 h3] [] 0 [] _ hC [pq (A4 hi0 hl0),pq h4] (sI h).symm
  ·have h:=hnext0 _ hs0
   replace h:=sI h
   subst h
   exact wr Ao6 23 [] [] [] 0 [] hC []
theorem e43:EN 43:=en Tryz.func43
theorem Azd (x0:Int) (r:Int) (h:Jo x0=r):CO 141 [.d (I x0)] [] (.d (I r)) []:=by
 unfold Jo at h
 refine co 7 Tryz.func141 λ C hC=>?_
 subst h
 exact wr [0,2] 25 [] [⟨.nz 3600,Qe rfl⟩,⟨.nz 3600,Qe rfl⟩] [] 0 [] hC []
theorem Azy:EN 141:=en Tryz.func141
theorem k60 (x0:Au) (x1:Int) (r:Int×Au) (h:F60 x0 x1=some r):CO 60 [.d (.o 0 0),.d (I x1)] [.box 70 (d70 x0)] (.d (I r.1)) [.box 70 (d70 r.2)]:=by
 unfold F60 at h
 refine co 35 Tryz.func60 λ C hC=>?_
 rcases cB h with⟨h1,h⟩ | ⟨h1,h⟩
 ·replace h:=sI h
  subst h
  exact wr [0,1,4,14] 29 [true] [pl pI x0.L] [] 1 [0] hC [pq h1]
 ·obtain⟨y2,h3,y4,h5,h⟩:=A9 h
  replace h:=sI h
  subst h
  exact wr [0,1,4,14] 32 [false] [pl pI x0.L,pr pI h3,pc A9s (A83 y2 x1 _ h5) []] [] 1 [0] hC [pq h1]
theorem e60:EN 60:=en Tryz.func60
def Ahx:List Nat:=[0,1,2,3,4,6,7,16,25,33]
theorem k47 (x0:Aa) (x1:As) (r:Bool) (h:F47 x0 x1=r):CO 47 [.agg (d29 x0),.agg (d92 x1)] [] (.d (Bo r)) []:=by
 unfold F47 at h
 refine co 42 Tryz.func47 λ C hC=>?_
 rcases cB h with⟨h1,h⟩ | ⟨h1,h⟩
 ·subst h
  exact wr Ahx 32 [true] [pl q98 x0.Ac,pc e46 (k46 x1.Number 0 (w64 ((ln x0.Ac)-1)) _ rfl) []] [] 0 [] hC [pq h1]
 ·rcases cB h with⟨h2,h⟩ | ⟨h2,h⟩
  ·subst h
   exact wr Ahx 35 [false,true] [pl q49 x0.Ad,pc e46 (k46 x1.Number 0 (w64 ((ln x0.Ad)-1)) _ rfl) []] [] 0 [] hC [pq h1,pq h2]
  ·rcases cB h with⟨h3,h⟩ | ⟨h3,h⟩
   ·subst h
    exact wr Ahx 38 [false,false,true] [pc e46 (k46 x1.Number 0 (w64 (x0.Al-1)) _ rfl) []] [] 0 [] hC [pq h1,pq h2,pq h3]
   ·rcases cB h with⟨h4,h⟩ | ⟨h4,h⟩
    ·subst h
     exact wr Ahx 41 [false,false,false,true] [pl q90 x0.Af,pc e46 (k46 x1.Number 0 (w64 ((ln x0.Af)-1)) _ rfl) []] [] 0 [] hC [pq h1,pq h2,pq h3,pq h4]
    ·subst h
     exact wr Ahx 43 [false,false,false,false] [] [] 0 [] hC [pq h1,pq h2,pq h3,pq h4]
theorem e47:EN 47:=en Tryz.func47
def Ep:List Nat:=[0,1,2,3,4,6,7,8,10,11,12,13,23,25,26,37,38,47,48,57,61,62,63,64,69,74,75,76,82,86,87,88,94]
def T6 (x0:Aa) (n0:Nat) (z0:Unit):St:=[(1,dO 0 0),(2,dB false),(10,.d (DS q49 x0.Ad)),(11,dI (ln x0.Ad)),(12,dI (cnt 0 n0))]
def vB (x0:Aa) (n0:Nat) (z0:Unit):List Res:=[.box 29 (d29 x0)]
def Aso  (z0:Unit):St:=[(1,dO 0 0),(2,dB false)]
def Awj (x0:Aa) (z0:Unit):List Res:=[.box 29 (d29 x0)]
def Afm (x0:Aa) (n0:Nat) (y9:List Ah) (n1:Nat) (z1:Unit):St:=[(1,dO 0 0),(2,dB false),(4,dO 1 0),(10,.d (DS q49 x0.Ad)),(11,dI (ln x0.Ad)),(12,dI (cnt 0 n0)),(61,.d (DS q49 y9)),(62,dI (ln y9)),(63,dI (cnt 0 n1))]
def Aqj (x0:Aa) (a0:Ah) (n1:Nat) (z1:Unit):List Res:=[.box 29 (d29 x0),.box 49 (d49 a0)]
def Asn (x0:Aa) (n0:Nat) (z1:Unit):St:=[(1,dO 0 0),(2,dB false),(10,.d (DS q49 x0.Ad)),(11,dI (ln x0.Ad)),(12,dI (cnt 0 n0))]
def Awi (x0:Aa) (z1:Unit):List Res:=[.box 29 (d29 x0)]
def Afl (x0:Aa) (z2:Int):St:=[(1,dO 0 0),(2,dB false),(74,dI (ln x0.Ac)),(75,dI z2)]
def Aqi (x0:Aa) (z2:Int):List Res:=[.box 29 (d29 x0)]
def Asm  (z2:Int):St:=[(1,dO 0 0),(2,dB false)]
def Awh (x0:Aa) (z2:Int):List Res:=[.box 29 (d29 x0)]
def Afk (x0:Aa) (z3:Int):St:=[(1,dO 0 0),(2,dB false),(86,dI (ln x0.Af)),(87,dI z3)]
def Aqh (x0:Aa) (z3:Int):List Res:=[.box 29 (d29 x0)]
def Asl  (z3:Int):St:=[(2,dB false)]
def Awg  (z3:Int):List Res:=[]
theorem k95 (x0 : Aa) (r : Bool) (h : F95 x0 = some r) : CO 95 [.agg (d29 x0)] [] (.d (Bo r)) [] := by
 unfold F95 at h
 refine co 96 Tryz.func95 λ C hC=>?_
 refine ws Ep 26 [] [pl q49 x0.Ad] [] 0 [0] (T6 x0 0 ()) (vB x0 0 ()) hC [] ?_
 obtain⟨w0,hm0,hret0,hnext0⟩:=Av h
 clear h
 refine wc w0 (Aso) (Awj x0) ?_ λ z0 hs0=>?_
 ·refine wb ?_
  refine Bq 10 rfl λ hl0=>?_
  refine wl (T6 x0) (vB x0) hm0 (λ z0 hn0=>?_) λ n0 a0 z0 w0b hi0 hx0 h hb0 hr0=>?_
  ·clear hm0
   exact wx w0 (Aso) (Awj x0) Ep 26 [false] [] [] 0 [0] _ hC [pq (A6 hl0)] hn0
  ·unfold Akj at h
   refine wn Ep 33 [true] [pt hx0 hl0,pc e46 (k46 a0.A 0 (w64 (x0.Al-1)) _ rfl) []] [] 0 [0,1] [1,2,3,4,10,11,12,23] hC [pq (A4 hi0 hl0)] ?_
   rcases cB h with⟨h1,h⟩ | ⟨h1,h⟩
   ·have hq:=hret0 _ (hr0 _ (sI h).symm)
    replace hq:=sI hq
    subst hq
    exact wr Ep 24 [true] [] [] 0 [] hC [pq h1]
   ·rcases cB h with ⟨h2, h⟩ | ⟨h2, h⟩
    ·rcases cB h with⟨h3,h⟩ | ⟨h3,h⟩
     ·have hq:=hret0 _ (hr0 _ (sI h).symm)
      replace hq:=sI hq
      subst hq
      exact wr Ep 34 [false,true,true] [pc e46 (k46 a0.B (w64 (a0.A+1)) (w64 (x0.Al-1)) _ rfl) []] [] 0 [] hC [pq h1,pq h2,pq h3]
     ·exact wx w0b (T6 x0 (n0+1)) (vB x0 (n0+1)) Ep 36 [false,true,false] [pc e46 (k46 a0.B (w64 (a0.A+1)) (w64 (x0.Al-1)) _ rfl) []] [] 0 [0] _ hC [pq h1,pq h2,pq h3] (sI h).symm
    ·rcases cB h with⟨h4,h⟩ | ⟨h4,h⟩
     ·refine wn Ep 34 [false,false,true] [pl q98 x0.Ac,pc e46 (k46 a0.B 0 (w64 ((ln x0.Ac)-1)) _ rfl) []] [] 0 [0] [1,2,10,11,12,47] hC [pq h1,pq h2,pq h4] ?_
      rcases cB h with⟨h5,h⟩ | ⟨h5,h⟩
      ·have hq:=hret0 _ (hr0 _ (sI h).symm)
       replace hq:=sI hq
       subst hq
       exact wr Ep 24 [true] [] [] 0 [] hC [pq h5]
      ·exact wx w0b (T6 x0 (n0+1)) (vB x0 (n0+1)) Ep 26 [false] [] [] 0 [0] _ hC [pq h5] (sI h).symm
     ·rcases cB h with⟨h6,h⟩ | ⟨h6,h⟩
      ·refine wn Ep 38 [false,false,false,true] [pl q90 x0.Af,pc e46 (k46 a0.B 0 (w64 ((ln x0.Af)-1)) _ rfl) []] [] 0 [0,1] [1,2,3,4,10,11,12,57] hC [pq h1,pq h2,pq h4,pq h6] ?_
       rcases cB h with⟨h7,h⟩ | ⟨h7,h⟩
       ·have hq:=hret0 _ (hr0 _ (sI h).symm)
        replace hq:=sI hq
        subst hq
        exact wr Ep 24 [true] [] [] 0 [] hC [pq h7]
       ·obtain⟨y9,h8,h⟩:=Aw h
        refine ws Ep 25 [false] [⟨.cut (x0.Ad.map q49) 3 0 (cnt 0 n0) (y9.map q49),Anm q49 3 (λ _=>rfl) h8⟩,pl q49 y9] [] 0 [0,1] (Afm x0 n0 y9 0 ()) (Aqj x0 a0 0 ()) hC [pq h7] ?_
        obtain⟨w1,hm1,hret1,hnext1⟩:=Av h
        clear h
        refine wc w1 (Asn x0 n0) (Awi x0) ?_ λ z1 hs1=>?_
        ·refine wb ?_
         refine Bq 61 rfl λ hl1=>?_
         refine wl (Afm x0 n0 y9) (Aqj x0 a0) hm1 (λ z1 hn1=>?_) λ n1 a1 z1 w1b hi1 hx1 h hb1 hr1=>?_
         ·clear hm1
          exact wx w1 (Asn x0 n0) (Awi x0) Ep 26 [false] [] [] 0 [0] _ hC [pq (A6 hl1)] hn1
         ·unfold vH at h
          rcases cB h with⟨h10,h⟩ | ⟨h10,h⟩
          ·have hq:=hret1 _ (hr1 _ (sI h).symm)
           replace hq:=hret0 _ (hr0 _ (sI hq).symm)
           replace hq:=sI hq
           subst hq
           exact wr Ep 35 [true,true] [pt hx1 hl1] [] 0 [] hC [pq (A4 hi1 hl1),pq h10]
          ·exact wx w1b (Afm x0 n0 y9 (n1+1)) (Aqj x0 a0 (n1+1)) Ep 36 [true,false] [pt hx1 hl1] [] 0 [0,1] _ hC [pq (A4 hi1 hl1),pq h10] (sI h).symm
        ·have h:=hnext1 _ hs1
         exact wx w0b (T6 x0 (n0+1)) (vB x0 (n0+1)) Ep 24 [] [] [] 0 [0] _ hC [] (sI h).symm
      ·have hq:=hret0 _ (hr0 _ (sI h).symm)
       replace hq:=sI hq
       subst hq
       exact wr Ep 37 [false,false,false,false] [] [] 0 [] hC [pq h1,pq h2,pq h4,pq h6]
 ·have h:=hnext0 _ hs0
  refine ws Ep 24 [] [pl q98 x0.Ac] [] 0 [0] (Afl x0 0) (Aqi x0 0) hC [] ?_
  obtain⟨w2,hm2,hret2,hnext2⟩:=Av h
  clear h
  refine wc w2 (Asm) (Awh x0) ?_ λ z2 hs2=>?_
  ·refine wb ?_
   refine ww (Afl x0) (Aqi x0) hm2 λ z2 w2b h hb2 hr2=>?_
   unfold Aki at h
   rcases cB h with⟨h11,h⟩ | ⟨h11,h⟩
   ·obtain⟨y12,h13,h⟩:=Aw h
    refine wn Ep 32 [true] [pc e49 (k49 x0 2 z2 _ h13) [],pl pI y12] [] 0 [0] [1,2,74,75,82] hC [pq h11] ?_
    rcases cB h with⟨h14,h⟩ | ⟨h14,h⟩
    ·have hq:=hret2 _ (hr2 _ (sI h).symm)
     replace hq:=sI hq
     subst hq
     exact wr Ep 24 [true] [] [] 0 [] hC [pq h14]
    ·exact wx w2b (Afl x0) (Aqi x0) Ep 25 [false] [] [] 0 [0] _ hC [pq h14] (sI h).symm
   ·exact wx w2 (Asm) (Awh x0) Ep 26 [false] [] [] 0 [0] z2 hC [pq h11] (hb2 _ (sI h).symm)
  ·have h:=hnext2 _ hs2
   refine ws Ep 24 [] [pl q90 x0.Af] [] 0 [0] (Afk x0 0) (Aqh x0 0) hC [] ?_
   obtain⟨w3,hm3,hret3,hnext3⟩:=Av h
   clear h
   refine wc w3 (Asl) (Awg) ?_ λ z3 hs3=>?_
   ·refine wb ?_
    refine ww (Afk x0) (Aqh x0) hm3 λ z3 w3b h hb3 hr3=>?_
    unfold Akh at h
    rcases cB h with⟨h15,h⟩ | ⟨h15,h⟩
    ·obtain⟨y16,h17,h⟩:=Aw h
     refine wn Ep 32 [true] [pc e49 (k49 x0 3 z3 _ h17) [],pl pI y16] [] 0 [0] [1,2,86,87,94] hC [pq h15] ?_
     rcases cB h with⟨h18,h⟩ | ⟨h18,h⟩
     ·have hq:=hret3 _ (hr3 _ (sI h).symm)
      replace hq:=sI hq
      subst hq
      exact wr Ep 24 [true] [] [] 0 [] hC [pq h18]
     ·exact wx w3b (Afk x0) (Aqh x0) Ep 25 [false] [] [] 0 [0] _ hC [pq h18] (sI h).symm
    ·exact wx w3 (Asl) (Awg) Ep 26 [false] [] [] 0 [] z3 hC [pq h15] (hb3 _ (sI h).symm)
   ·have h:=hnext3 _ hs3
    replace h:=sI h
    subst h
    exact wr Ep 23 [] [] [] 0 [] hC []
theorem e95:EN 95:=en Tryz.func95
def zI:List Nat:=[0,1,2,4,6,7,8,9,29]
def Afj (x0:Aa) (n0:Nat) (z0:Unit):St:=[(2,dB false),(6,.d (DS q98 x0.Ac)),(7,dI (ln x0.Ac)),(8,dI (cnt 0 n0))]
def Aqg  (n0:Nat) (z0:Unit):List Res:=[]
def Ask  (z0:Unit):St:=[(2,dB false)]
def Awf  (z0:Unit):List Res:=[]
theorem k96 (x0:Aa) (r:Bool) (h:F96 x0=some r):CO 96 [.agg (d29 x0)] [] (.d (Bo r)) []:=by
 unfold F96 at h
 refine co 31 Tryz.func96 λ C hC=>?_
 refine ws zI 26 [] [pl q98 x0.Ac] [] 0 [] (Afj x0 0 ()) (Aqg 0 ()) hC [] ?_
 obtain⟨w0,hm0,hret0,hnext0⟩:=Av h
 clear h
 refine wc w0 (Ask) (Awf) ?_ λ z0 hs0=>?_
 ·refine wb ?_
  refine Bq 6 rfl λ hl0=>?_
  refine wl (Afj x0) (Aqg) hm0 (λ z0 hn0=>?_) λ n0 a0 z0 w0b hi0 hx0 h hb0 hr0=>?_
  ·clear hm0
   exact wx w0 (Ask) (Awf) zI 26 [false] [] [] 0 [] _ hC [pq (A6 hl0)] hn0
  ·unfold Akg at h
   refine wn zI 32 [true] [pt hx0 hl0,pc e46 (k46 a0.Rating 1 50000 _ rfl) [],⟨.when [(!(F46 a0.Rating 1 50000),false)] (.call 46 [dI a0.Least,dI 0,dI a0.Rating] [] (dB (F46 a0.Least 0 a0.Rating)) [] []),λ hg=>⟨e46,(k46 a0.Least 0 a0.Rating _ rfl)⟩⟩,⟨.when [(((!(F46 a0.Rating 1 50000)) || (!(F46 a0.Least 0 a0.Rating))),false)] (.call 46 [dI a0.Start,dI 0,dI 600] [] (dB (F46 a0.Start 0 600)) [] []),λ hg=>⟨e46,(k46 a0.Start 0 600 _ rfl)⟩⟩] [] 0 [] [2,6,7,8,29] hC [pq (A4 hi0 hl0)] ?_
   rcases cB h with⟨h1,h⟩ | ⟨h1,h⟩
   ·have hq:=hret0 _ (hr0 _ (sI h).symm)
    replace hq:=sI hq
    subst hq
    exact wr zI 24 [true] [] [] 0 [] hC [pq h1]
   ·exact wx w0b (Afj x0 (n0+1)) (Aqg (n0+1)) zI 25 [false] [] [] 0 [] _ hC [pq h1] (sI h).symm
 ·have h:=hnext0 _ hs0
  replace h:=sI h
  subst h
  exact wr zI 23 [] [] [] 0 [] hC []
theorem e96:EN 96:=en Tryz.func96
def Nx:List Nat:=[0,1,2,3,4,5,6,8,9,10,11,44,46,47,48,49,71]
def Afi (x0:Aa) (n0:Nat) (z0:Unit):St:=[(2,dB false),(8,.d (DS q90 x0.Af)),(9,dI (ln x0.Af)),(10,dI (cnt 0 n0))]
def Aqf  (n0:Nat) (z0:Unit):List Res:=[]
def Asj  (z0:Unit):St:=[(2,dB false)]
def Awe  (z0:Unit):List Res:=[]
def Afh (x0:Aa) (n0:Nat) (a0:A3) (n1:Nat) (z1:Unit):St:=[(2,dB false),(3,dI (cnt 0 n0)),(4,dO 0 0),(8,.d (DS q90 x0.Af)),(9,dI (ln x0.Af)),(10,dI (cnt 0 n0)),(46,.d (DS pI a0.Needs)),(47,dI (ln a0.Needs)),(48,dI (cnt 0 n1))]
def Aqe (a0:A3) (n1:Nat) (z1:Unit):List Res:=[.box 90 (d90 a0)]
def Asi (x0:Aa) (n0:Nat) (z1:Unit):St:=[(2,dB false),(8,.d (DS q90 x0.Af)),(9,dI (ln x0.Af)),(10,dI (cnt 0 n0))]
def Awd  (z1:Unit):List Res:=[]
theorem k97 (x0:Aa) (r:Bool) (h:F97 x0=some r):CO 97 [.agg (d29 x0)] [] (.d (Bo r)) []:=by
 unfold F97 at h
 refine co 74 Tryz.func97 λ C hC=>?_
 refine ws Nx 26 [] [pl q90 x0.Af] [] 0 [] (Afi x0 0 ()) (Aqf 0 ()) hC [] ?_
 obtain⟨w0,hm0,hret0,hnext0⟩:=Av h
 clear h
 refine wc w0 (Asj) (Awe) ?_ λ z0 hs0=>?_
 ·refine wb ?_
  refine Bq 8 rfl λ hl0=>?_
  refine wl (Afi x0) (Aqf) hm0 (λ z0 hn0=>?_) λ n0 a0 z0 w0b hi0 hx0 h hb0 hr0=>?_
  ·clear hm0
   exact wx w0 (Asj) (Awe) Nx 26 [false] [] [] 0 [] _ hC [pq (A6 hl0)] hn0
  ·unfold Akf at h
   refine wn Nx 33 [true] [pt hx0 hl0,pc e46 (k46 a0.Load 0 50000 _ rfl) [],⟨.when [(!(F46 a0.Load 0 50000),false)] (.call 46 [dI a0.Least,dI 0,dI a0.Load] [] (dB (F46 a0.Least 0 a0.Load)) [] []),λ hg=>⟨e46,(k46 a0.Least 0 a0.Load _ rfl)⟩⟩,⟨.when [(((!(F46 a0.Load 0 50000)) || (!(F46 a0.Least 0 a0.Load))),false)] (.call 46 [dI a0.Bl,dI 0,dI 15] [] (dB (F46 a0.Bl 0 15)) [] []),λ hg=>⟨e46,(k46 a0.Bl 0 15 _ rfl)⟩⟩,⟨.when [((((!(F46 a0.Load 0 50000)) || (!(F46 a0.Least 0 a0.Load))) || (!(F46 a0.Bl 0 15))),false)] (.call 46 [dI a0.Thruster,dI (-1),dI 7] [] (dB (F46 a0.Thruster (-1) 7)) [] []),λ hg=>⟨e46,(k46 a0.Thruster (-1) 7 _ rfl)⟩⟩,pL_ [(((((!(F46 a0.Load 0 50000)) || (!(F46 a0.Least 0 a0.Load))) || (!(F46 a0.Bl 0 15))) || (!(F46 a0.Thruster (-1) 7))),false)] pI a0.Needs] [] 0 [0] [2,3,4,8,9,10,44] hC [pq (A4 hi0 hl0)] ?_
   rcases cB h with⟨h1,h⟩ | ⟨h1,h⟩
   ·have hq:=hret0 _ (hr0 _ (sI h).symm)
    replace hq:=sI hq
    subst hq
    exact wr Nx 24 [true] [] [] 0 [] hC [pq h1]
   ·refine ws Nx 25 [false] [pl pI a0.Needs] [] 0 [0] (Afh x0 n0 a0 0 ()) (Aqe a0 0 ()) hC [pq h1] ?_
    obtain⟨w1,hm1,hret1,hnext1⟩:=Av h
    clear h
    refine wc w1 (Asi x0 n0) (Awd) ?_ λ z1 hs1=>?_
    ·refine wb ?_
     refine Bq 46 rfl λ hl1=>?_
     refine wl (Afh x0 n0 a0) (Aqe a0) hm1 (λ z1 hn1=>?_) λ n1 a1 z1 w1b hi1 hx1 h hb1 hr1=>?_
     ·clear hm1
      exact wx w1 (Asi x0 n0) (Awd) Nx 26 [false] [] [] 0 [] _ hC [pq (A6 hl1)] hn1
     ·unfold Ake at h
      obtain⟨y2,h3,h⟩:=Aw h
      refine wn Nx 32 [true] [pt hx1 hl1,pc e46 (k46 a1 0 (w64 ((cnt 0 n0)-1)) _ rfl) [],pR pI h3] [] 0 [0] [2,3,4,8,9,10,46,47,48,71] hC [pq (A4 hi1 hl1)] ?_
      rcases cB h with⟨h4,h⟩ | ⟨h4,h⟩
      ·have hq:=hret1 _ (hr1 _ (sI h).symm)
       replace hq:=hret0 _ (hr0 _ (sI hq).symm)
       replace hq:=sI hq
       subst hq
       exact wr Nx 24 [true] [] [] 0 [] hC [pq h4]
      ·exact wx w1b (Afh x0 n0 a0 (n1+1)) (Aqe a0 (n1+1)) Nx 25 [false] [] [] 0 [0] _ hC [pq h4] (sI h).symm
    ·have h:=hnext1 _ hs1
     exact wx w0b (Afi x0 (n0+1)) (Aqf (n0+1)) Nx 23 [] [] [] 0 [] _ hC [] (sI h).symm
 ·have h:=hnext0 _ hs0
  replace h:=sI h
  subst h
  exact wr Nx 23 [] [] [] 0 [] hC []
theorem e97:EN 97:=en Tryz.func97
def Ad9:List Nat:=[0,1,2,3,4,6,7,16,18,19,25]
theorem A8z (x0:Aa) (x1:Ab) (x2:Int) (r:Bool) (h:Alp x0 x1 x2=some r):CO 118 [.agg (d29 x0),.agg (d34 x1),.d (I x2)] [] (.d (Bo r)) []:=by
 unfold Alp at h
 refine co 45 Tryz.func118 λ C hC=>?_
 obtain⟨y1,h2,y3,h4,h⟩:=A9 h
 rcases cB h with⟨h5,h⟩ | ⟨h5,h⟩
 ·replace h:=sI h
  subst h
  exact wr Ad9 31 [true] [pr q49 h2,pc e15 (k15 x1 3 y1.A _ h4) []] [] 0 [] hC [pq h5]
 ·rcases cB h with⟨h6,h⟩ | ⟨h6,h⟩
  ·obtain⟨y7,h8,h⟩:=Aw h
   replace h:=sI h
   subst h
   exact wr Ad9 39 [false,true] [pr q49 h2,pc e15 (k15 x1 3 y1.A _ h4) [],pc e15 (k15 x1 3 y1.B _ h8) []] [] 0 [] hC [pq h5,pq h6]
  ·rcases cB h with⟨h9,h⟩ | ⟨h9,h⟩
   ·obtain⟨y10,h11,y12,h13,h⟩:=A9 h
    replace h:=sI h
    subst h
    exact wr Ad9 42 [false,false,true] [pr q49 h2,pc e15 (k15 x1 3 y1.A _ h4) [],pc e15 (k15 x1 1 y1.B _ h11) [],pR q87 h13] [] 0 [] hC [pq h5,pq h6,pq h9]
   ·obtain⟨y14,h15,h⟩:=Aw h
    replace h:=sI h
    subst h
    exact wr Ad9 44 [false,false,false] [pr q49 h2,pc e15 (k15 x1 3 y1.A _ h4) [],pc e15 (k15 x1 4 y1.B _ h15) []] [] 0 [] hC [pq h5,pq h6,pq h9]
theorem A9o:EN 118:=en Tryz.func118
theorem k59 (x0:List Int) (x1:Int) (r:Bool) (h:F59 x0 x1=some r):CO 59 [.d (DS pI x0),.d (I x1)] [] (.d (Bo r)) []:=by
 unfold F59 at h
 refine co 9 Tryz.func59 λ C hC=>?_
 obtain⟨y1,h2,h⟩:=Aw h
 replace h:=sI h
 subst h
 exact wr [0,1,4] 25 [] [pc A9t (A84 x0 x1 _ h2) []] [] 0 [] hC []
theorem e59:EN 59:=en Tryz.func59
def Qh:List Nat:=[0,1,4,5,7,8,9,16]
def T_ (x0:List (List Int)) (n0:Nat) (z0:Unit):St:=[(0,.d (DS (pL pI) x0)),(1,.d (.fn (.func 140) [] [])),(4,dI 0),(7,dI (ln x0)),(8,dI (cnt 0 n0))]
def Zj  (n0:Nat) (z0:Unit):List Res:=[]
def Abq  (z0:Unit):St:=[(4,dI 0)]
def Ac4  (z0:Unit):List Res:=[]
theorem A4g (x0:List (List Int)) (r:Int) (h:yA x0=some r):CO 168 [.d (DS (pL pI) x0),.d (.fn (.func 140) [] [])] [] (.d (I r)) []:=by
 unfold yA at h
 refine co 19 Tryz.func168 λ C hC=>?_
 refine ws Qh 26 [] [pl (pL pI) x0] [] 0 [] (T_ x0 0 ()) (Zj 0 ()) hC [] ?_
 obtain⟨w0,hm0,hret0,hnext0⟩:=Av h
 clear h
 refine wc w0 (Abq) (Ac4) ?_ λ z0 hs0=>?_
 ·refine wb ?_
  refine Bq 0 rfl λ hl0=>?_
  refine wl (T_ x0) (Zj) hm0 (λ z0 hn0=>?_) λ n0 a0 z0 w0b hi0 hx0 h hb0 hr0=>?_
  ·clear hm0
   exact wx w0 (Abq) (Ac4) Qh 26 [false] [] [] 0 [] _ hC [pq (A6 hl0)] hn0
  ·unfold Ads at h
   rcases cB h with⟨h1,h⟩ | ⟨h1,h⟩
   ·have hq:=hret0 _ (hr0 _ (sI h).symm)
    replace hq:=sI hq
    subst hq
    exact wr Qh 35 [true,true] [pt hx0 hl0,pc A5y (A4q a0 _ rfl) []] [] 0 [] hC [pq (A4 hi0 hl0),pq h1]
   ·exact wx w0b (T_ x0 (n0+1)) (Zj (n0+1)) Qh 36 [true,false] [pt hx0 hl0,pc A5y (A4q a0 _ rfl) []] [] 0 [] _ hC [pq (A4 hi0 hl0),pq h1] (sI h).symm
 ·have h:=hnext0 _ hs0
  replace h:=sI h
  subst h
  exact wr Qh 23 [] [] [] 0 [] hC []
theorem A5o:EN 168:=en Tryz.func168
theorem A87 (x0:Be) (r:Bool) (h:Aba x0=r):CO 100 [.agg (d98 x0)] [] (.d (Bo r)) []:=by
 unfold Aba at h
 refine co 18 Tryz.func100 λ C hC=>?_
 subst h
 exact wr n3_ 25 [] [pc e93 (k93 x0.Rating 1 50000 _ rfl) [],⟨.when [(F93 x0.Rating 1 50000,true)] (.call 93 [dI x0.Least,dI 0,dI x0.Rating] [] (dB (F93 x0.Least 0 x0.Rating)) [] []),λ hg=>⟨e93,(k93 x0.Least 0 x0.Rating _ rfl)⟩⟩,⟨.when [(((F93 x0.Rating 1 50000)&&(F93 x0.Least 0 x0.Rating)),true)] (.call 93 [dI x0.Start,dI 0,dI 600] [] (dB (F93 x0.Start 0 600)) [] []),λ hg=>⟨e93,(k93 x0.Start 0 600 _ rfl)⟩⟩] [] 0 [] hC []
theorem A9w:EN 100:=en Tryz.func100
def W5:List Nat:=[0,1,2,4,5,6,8,9,10,11,33]
def yU (x0:A3) (x1:Int) (n0:Nat) (z0:Unit):St:=[(1,dI x1),(2,dO 0 0),(4,dB false),(8,.d (DS pI x0.Needs)),(9,dI (ln x0.Needs)),(10,dI (cnt 0 n0))]
def Aj7 (x0:A3) (n0:Nat) (z0:Unit):List Res:=[.box 90 (d90 x0)]
def Am4  (z0:Unit):St:=[(2,dO 0 0),(4,dB false)]
def An9 (x0:A3) (z0:Unit):List Res:=[.box 90 (d90 x0)]
theorem A86 (x0:A3) (x1:Int) (r:Bool) (h:Aa9 x0 x1=some r):CO 101 [.agg (d90 x0),.d (I x1)] [] (.d (Bo r)) []:=by
 unfold Aa9 at h
 refine co 61 Tryz.func101 λ C hC=>?_
 refine ws W5 26 [] [pl pI x0.Needs] [] 0 [0] (yU x0 x1 0 ()) (Aj7 x0 0 ()) hC [] ?_
 obtain⟨w0,hm0,hret0,hnext0⟩:=Av h
 clear h
 refine wc w0 (Am4) (An9 x0) ?_ λ z0 hs0=>?_
 ·refine wb ?_
  refine Bq 8 rfl λ hl0=>?_
  refine wl (yU x0 x1) (Aj7 x0) hm0 (λ z0 hn0=>?_) λ n0 a0 z0 w0b hi0 hx0 h hb0 hr0=>?_
  ·clear hm0
   exact wx w0 (Am4) (An9 x0) W5 26 [false] [] [] 0 [0] _ hC [pq (A6 hl0)] hn0
  ·unfold Xx at h
   obtain⟨y1,h2,h⟩:=Aw h
   refine wn W5 32 [true] [pt hx0 hl0,pc e93 (k93 a0 0 (w64 (x1-1)) _ rfl) [],pR pI h2] [] 0 [0] [1,2,4,8,9,10,33] hC [pq (A4 hi0 hl0)] ?_
   rcases cB h with⟨h3,h⟩ | ⟨h3,h⟩
   ·have hq:=hret0 _ (hr0 _ (sI h).symm)
    replace hq:=sI hq
    subst hq
    exact wr W5 24 [true] [] [] 0 [] hC [pq h3]
   ·exact wx w0b (yU x0 x1 (n0+1)) (Aj7 x0 (n0+1)) W5 25 [false] [] [] 0 [0] _ hC [pq h3] (sI h).symm
 ·have h:=hnext0 _ hs0
  replace h:=sI h
  subst h
  exact wr W5 23 [] [pc e93 (k93 x0.Load 0 50000 _ rfl) [],⟨.when [(F93 x0.Load 0 50000,true)] (.call 93 [dI x0.Least,dI 0,dI x0.Load] [] (dB (F93 x0.Least 0 x0.Load)) [] []),λ hg=>⟨e93,(k93 x0.Least 0 x0.Load _ rfl)⟩⟩,⟨.when [(((F93 x0.Load 0 50000)&&(F93 x0.Least 0 x0.Load)),true)] (.call 93 [dI x0.Bl,dI 0,dI 15] [] (dB (F93 x0.Bl 0 15)) [] []),λ hg=>⟨e93,(k93 x0.Bl 0 15 _ rfl)⟩⟩,⟨.when [((((F93 x0.Load 0 50000)&&(F93 x0.Least 0 x0.Load))&&(F93 x0.Bl 0 15)),true)] (.call 93 [dI x0.Thruster,dI (-1),dI 7] [] (dB (F93 x0.Thruster (-1) 7)) [] []),λ hg=>⟨e93,(k93 x0.Thruster (-1) 7 _ rfl)⟩⟩,pL_ [(((((F93 x0.Load 0 50000)&&(F93 x0.Least 0 x0.Load))&&(F93 x0.Bl 0 15))&&(F93 x0.Thruster (-1) 7)),true)] pI x0.Needs] [] 0 [] hC []
theorem A9v:EN 101:=en Tryz.func101
def Wy:List Nat:=[0,1,4,5,6,11,12,13,16,19]
theorem Azf (x0:Int) (x1:Int) (r:Int) (h:Ld x0 x1=r):CO 134 [.d (I x0),.d (I x1)] [] (.d (I r)) []:=by
 unfold Ld at h
 refine co 20 Tryz.func134 λ C hC=>?_
 rcases cB h with⟨h1,h⟩ | ⟨h1,h⟩
 ·rcases cB h with⟨h2,h⟩ | ⟨h2,h⟩
  ·subst h
   exact wr Wy 37 [true,true] [pc Mk (Mi x0 _ rfl) [],pc Mk (Mi x1 _ rfl) []] [] 0 [] hC [pq h1,pq h2]
  ·subst h
   exact wr Wy 38 [true,false] [pc Mk (Mi x0 _ rfl) [],pc Mk (Mi x1 _ rfl) []] [] 0 [] hC [pq h1,pq h2]
 ·rcases cB h with⟨h3,h⟩ | ⟨h3,h⟩
  ·subst h
   exact wr Wy 38 [false,true] [pc Mk (Mi x0 _ rfl) [],pc Mk (Mi x1 _ rfl) []] [] 0 [] hC [pq h1,pq h3]
  ·rcases cB h with⟨h4,h⟩ | ⟨h4,h⟩
   ·subst h
    exact wr Wy 43 [false,false,true] [pc Mk (Mi x0 _ rfl) [],pc Mk (Mi x1 _ rfl) []] [] 0 [] hC [pq h1,pq h3,pq h4]
   ·rcases cB h with⟨h5,h⟩ | ⟨h5,h⟩
    ·subst h
     exact wr Wy 48 [false,false,false,true] [pc Mk (Mi x0 _ rfl) [],pc Mk (Mi x1 _ rfl) []] [] 0 [] hC [pq h1,pq h3,pq h4,pq h5]
    ·subst h
     exact wr Wy 49 [false,false,false,false] [pc Mk (Mi x0 _ rfl) [],pc Mk (Mi x1 _ rfl) []] [] 0 [] hC [pq h1,pq h3,pq h4,pq h5]
theorem Az0:EN 134:=en Tryz.func134
theorem k92 (x0:Ag) (r:Bool) (h:F92 x0=r):CO 92 [.agg (d87 x0)] [] (.d (Bo r)) []:=by
 unfold F92 at h
 refine co 21 Tryz.func92 λ C hC=>?_
 subst h
 exact wr n3_ 25 [] [pc e93 (k93 x0.State 0 3 _ rfl) [],⟨.when [(F93 x0.State 0 3,true)] (.call 93 [dI x0.Since,dI 0,dI 2147483648] [] (dB (F93 x0.Since 0 2147483648)) [] []),λ hg=>⟨e93,(k93 x0.Since 0 2147483648 _ rfl)⟩⟩,⟨.when [(((F93 x0.State 0 3)&&(F93 x0.Since 0 2147483648)),true)] (.call 93 [dI x0.Ar,dI 0,dI 6000] [] (dB (F93 x0.Ar 0 6000)) [] []),λ hg=>⟨e93,(k93 x0.Ar 0 6000 _ rfl)⟩⟩,⟨.when [((((F93 x0.State 0 3)&&(F93 x0.Since 0 2147483648))&&(F93 x0.Ar 0 6000)),true)] (.call 93 [dI x0.Phase,dI 0,dI 3599] [] (dB (F93 x0.Phase 0 3599)) [] []),λ hg=>⟨e93,(k93 x0.Phase 0 3599 _ rfl)⟩⟩] [] 0 [] hC []
theorem e92:EN 92:=en Tryz.func92
theorem k35 (x0:Ab) (r:Ab) (h:F35 x0=some r):CO 35 [.agg (d34 x0)] [] (.agg [.os 0,.os 1,.os 2,.os 3]) (zp r []):=by
 unfold F35 at h
 refine co 16 Tryz.func35 λ C hC=>?_
 obtain⟨y1,h2,y3,h4,y5,h6,y7,h8,h⟩:=Dd h
 replace h:=sI h
 subst h
 exact wr n3_ 25 [] [pc e78 (k78 x0.Ae _ h2) [],pc e79 (k79 x0.Ac _ h4) [],pc e80 (k80 x0.Am _ h6) [],pc e81 (k81 x0.Ai _ h8) []] [] 0 [2,3,4,5] hC []
theorem e35:EN 35:=en Tryz.func35
theorem A8x (x0:List As) (x1:As) (r:Bool) (h:Arp x0 x1=some r):CO 129 [.d (DS q92 x0),.agg (d92 x1)] [] (.d (Bo r)) []:=by
 unfold Arp at h
 refine co 9 Tryz.func129 λ C hC=>?_
 obtain⟨y1,h2,h⟩:=Aw h
 replace h:=sI h
 subst h
 exact wr [0,1,3,4] 25 [] [pc A9e (A8p x0 x1 _ h2) []] [] 0 [] hC []
theorem A9m:EN 129:=en Tryz.func129
def Ao8:List Nat:=[0,1,2,3,4,6,7,23]
theorem Azb (x0:Aa) (x1:Ab) (x2:Int) (r:Int×Bool) (h:Z3 x0 x1 x2=some r):CO 156 [.agg (d29 x0),.agg (d34 x1),.d (I x2)] [] (.tup [.d (I r.1),.d (Bo r.2)]) []:=by
 unfold Z3 at h
 refine co 30 Tryz.func156 λ C hC=>?_
 obtain⟨y1,h2,h⟩:=Aw h
 refine wn Ao8 26 [] [pl q87 x1.Ac,pc e93 (k93 x2 0 (w64 ((ln x1.Ac)-1)) _ rfl) [],pR q87 h2] [] 0 [0,1] [2,3,4,6,7,23] hC [] ?_
 rcases cB h with⟨h3,h⟩ | ⟨h3,h⟩
 ·replace h:=sI h
  subst h
  exact wr Ao8 24 [true] [] [] 0 [] hC [pq h3]
 ·obtain⟨y4,h5,h⟩:=Aw h
  replace h:=sI h
  subst h
  exact wr Ao8 25 [false] [pc A5p (A4h x0 x1 2 x2 _ h5) []] [] 0 [] hC [pq h3]
theorem Azw:EN 156:=en Tryz.func156
theorem Aze (x0:Aa) (x1:Ab) (x2:Int) (r:Int×Bool) (h:Z5 x0 x1 x2=some r):CO 135 [.agg (d29 x0),.agg (d34 x1),.d (I x2)] [] (.tup [.d (I r.1),.d (Bo r.2)]) []:=by
 unfold Z5 at h
 refine co 14 Tryz.func135 λ C hC=>?_
 obtain⟨y1,h2,h⟩:=Aw h
 replace h:=sI h
 subst h
 exact wr [0,1,2,3,4,6,7] 25 [] [pc A5p (A4h x0 x1 3 x2 _ h2) []] [] 0 [] hC []
theorem Azz:EN 135:=en Tryz.func135
def M7:List Nat:=[0,1,4,5,7,8,9,16]
def T9 (x0:List Aj) (n0:Nat) (z0:Unit):St:=[(0,.d (DS q62 x0)),(1,.d (.fn (.func 158) [] [])),(4,dI 0),(7,dI (ln x0)),(8,dI (cnt 0 n0))]
def Zi  (n0:Nat) (z0:Unit):List Res:=[]
def Abp  (z0:Unit):St:=[(4,dI 0)]
def Ac3  (z0:Unit):List Res:=[]
theorem Aul (x0:List Aj) (r:Int) (h:Vz x0=some r):CO 174 [.d (DS q62 x0),.d (.fn (.func 158) [] [])] [] (.d (I r)) []:=by
 unfold Vz at h
 refine co 19 Tryz.func174 λ C hC=>?_
 refine ws M7 26 [] [pl q62 x0] [] 0 [] (T9 x0 0 ()) (Zi 0 ()) hC [] ?_
 obtain⟨w0,hm0,hret0,hnext0⟩:=Av h
 clear h
 refine wc w0 (Abp) (Ac3) ?_ λ z0 hs0=>?_
 ·refine wb ?_
  refine Bq 0 rfl λ hl0=>?_
  refine wl (T9 x0) (Zi) hm0 (λ z0 hn0=>?_) λ n0 a0 z0 w0b hi0 hx0 h hb0 hr0=>?_
  ·clear hm0
   exact wx w0 (Abp) (Ac3) M7 26 [false] [] [] 0 [] _ hC [pq (A6 hl0)] hn0
  ·unfold Adr at h
   refine wn M7 32 [true] [pt hx0 hl0,pc A5t (A4l a0 _ rfl) []] [] 0 [] [0,1,4,5,7,8,16] hC [pq (A4 hi0 hl0)] ?_
   rcases cB h with⟨h1,h⟩ | ⟨h1,h⟩
   ·have hq:=hret0 _ (hr0 _ (sI h).symm)
    replace hq:=sI hq
    subst hq
    exact wr M7 24 [true] [] [] 0 [] hC [pq h1]
   ·exact wx w0b (T9 x0 (n0+1)) (Zi (n0+1)) M7 25 [false] [] [] 0 [] _ hC [pq h1] (sI h).symm
 ·have h:=hnext0 _ hs0
  replace h:=sI h
  subst h
  exact wr M7 23 [] [] [] 0 [] hC []
theorem Avf:EN 174:=en Tryz.func174
def Iq:List Nat:=[0,1,4,5,6,8,13,14,15,16,32,38,39,40,41]
def Ou (x0:Ax) (n0:Nat) (z0:(List Int)):St:=[(0,dO 0 0),(1,.d (.fn (.func 161) [] [.o 6 0])),(4,dS 7),(13,.d (DS q49 x0.An.Ad)),(14,dI (ln x0.An.Ad)),(15,dI (cnt 0 n0))]
def Td (x0:Ax) (x1c0:Int) (n0:Nat) (z0:(List Int)):List Res:=(.box 147 (zb x0.An [.os 8,.os 9,.os 10,.os 11,.os 12]) :: .non :: .non :: .non :: .non :: .non :: .box 3 [I x1c0]::v0_ z0::zp x0.Aq [v2_ x0.acts])
def Ab5  (z0:(List Int)):St:=[(0,dO 0 0),(4,dS 7)]
def Adk (x0:Ax) (x1c0:Int) (z0:(List Int)):List Res:=(.box 147 (zb x0.An [.os 8,.os 9,.os 10,.os 11,.os 12]) :: .non :: .non :: .non :: .non :: .non :: .box 3 [I x1c0]::v0_ z0::zp x0.Aq [v2_ x0.acts])
def Uf (z0:(List Int)) (n1:Nat) (z1:Sg7):St:=[(0,dO 0 0),(38,dS 7),(39,dI (ln z0)),(40,dI (cnt 0 n1))]
def Zp (x1c0:Int) (z0:(List Int)) (n1:Nat) (z1:Sg7):List Res:=[.box 147 [I z1.1,DS q49 z1.2.1,DS q98 z1.2.2.1,DS q90 (g3_ z1),I (g4_ z1),I (g5_ z1),.os 8,.os 9,.os 10,.os 11,.os 12],.non,.non,.non,.non,.non,.box 3 [I x1c0],v0_ z0,v1_ (g6_ z1),v4_ (g7_ z1),v0_ (g8_ z1),v3_ (g9_ z1),v2_ (Gu z1)]
def Ab4  (z1:Sg7):St:=[]
def Adi (x1c0:Int) (z1:Sg7):List Res:=[.box 147 [I z1.1,DS q49 z1.2.1,DS q98 z1.2.2.1,DS q90 (g3_ z1),I (g4_ z1),I (g5_ z1),.os 7,.os 8,.os 9,.os 10,.os 11],.non,.non,.non,.non,.non,.box 3 [I x1c0],v1_ (g6_ z1),v4_ (g7_ z1),v0_ (g8_ z1),v3_ (g9_ z1),v2_ (Gu z1)]
theorem A43 (x0:Ax) (x1c0:Int) (r:Ax×Int) (h:Wg x0 x1c0=some r):CO 120 [.d (.o 0 0),.d (.fn (.func 161) [] [.o 6 0])] (.box 147 (zb x0.An [.os 1,.os 2,.os 3,.os 4,.os 5])::zp x0.Aq [v2_ x0.acts,.box 3 [I x1c0]]) (.tup []) (.box 147 (zb r.1.An [.os 7,.os 8,.os 9,.os 10,.os 11]) :: .non :: .non :: .non :: .non :: .non :: .box 3 [I r.2]::zp r.1.Aq [v2_ r.1.acts]):=by
 unfold Wg at h
 refine co 48 Tryz.func120 λ C hC=>?_
 refine ws Iq 26 [] [pl q49 x0.An.Ad] [.own 4 3 1,.mv 1,.mv 2,.mv 3,.mv 4,.mv 5] 7 Df (Ou x0 0 ([]:List Int)) (Td x0 x1c0 0 ([]:List Int)) hC [] ?_
 obtain⟨w0,hm0,hret0,hnext0⟩:=Av h
 clear h
 refine wc w0 (Ab5) (Adk x0 x1c0) ?_ λ z0 hs0=>?_
 ·refine wb ?_
  refine Bq 13 rfl λ hl0=>?_
  refine wl (Ou x0) (Td x0 x1c0) hm0 (λ z0 hn0=>?_) λ n0 a0 z0 w0b hi0 hx0 h hb0 hr0=>?_
  ·clear hm0
   exact wx w0 (Ab5) (Adk x0 x1c0) Iq 26 [false] [] [] 7 Df _ hC [pq (A6 hl0)] hn0
  ·unfold Wf at h
   obtain⟨y1,h2,h⟩:=Aw h
   refine wn Iq 32 [true] [pt hx0 hl0,pr pB h2,pn pB h2,⟨.when [(y1,true)] (.callB 161 [.agg (d49 a0),.d (.ip [.v (.int .i64 x1c0)])] (dB (V2 a0 x1c0)) [[]] 0 []),λ hg=>U3 ⟨A5r,(A4j a0 x1c0 _ rfl)⟩⟩] [] 7 Df [0,1,4,5,13,14,15,32] hC [pq (A4 hi0 hl0)] ?_
   rcases cB h with⟨h3,h⟩ | ⟨h3,h⟩
   ·obtain⟨y4,h5,h⟩:=Aw h
    exact wx w0b (Ou x0 (n0+1)) (Td x0 x1c0 (n0+1)) Iq 25 [true] [pa pI 1 h5] [] 7 [0,1,2,3,4,5,6,13,8,9,10,11,12] _ hC [pq h3] (sI h).symm
   ·exact wx w0b (Ou x0 (n0+1)) (Td x0 x1c0 (n0+1)) Iq 25 [false] [] [] 7 Df _ hC [pq h3] (sI h).symm
 ·have h:=hnext0 _ hs0
  refine ws Iq 23 [] [pl pI z0] [] 7 Df (Uf z0 0 (zt x0.An (zu x0.Aq x0.acts))) (Zp x1c0 z0 0 (zt x0.An (zu x0.Aq x0.acts))) hC [] ?_
  obtain⟨w1,hm1,hret1,hnext1⟩:=Av h
  clear h
  refine wc w1 (Ab4) (Adi x1c0) ?_ λ z1 hs1=>?_
  ·refine wb ?_
   refine B2 38 7 rfl rfl λ hl1=>?_
   refine wl (Uf z0) (Zp x1c0 z0) hm1 (λ z1 hn1=>?_) λ n1 a1 z1 w1b hi1 hx1 h hb1 hr1=>?_
   ·clear hm1
    exact wx w1 (Ab4) (Adi x1c0) Iq 26 [false] [] [] 7 [0,1,2,3,4,5,6,8,9,10,11,12] _ hC [pq (A6 hl1)] hn1
   ·unfold Adx at h
    obtain⟨y6,h7,h⟩:=Aw h
    exact wx w1b (Uf z0 (n1+1)) (Zp x1c0 z0 (n1+1)) Iq 33 [true] [pr pI (Bd hx1 hl1),pn pI (Bd hx1 hl1),pc Ais (Ah2 (⟨(⟨z1.1,z1.2.1,z1.2.2.1,(g3_ z1),(g4_ z1),(g5_ z1)⟩:Aa),(⟨(g6_ z1),(g7_ z1),(g8_ z1),(g9_ z1)⟩:Ab),(Gu z1)⟩:Ax) a1 _ h7) [0,8,9,10,11,12]] [] 7 [0,1,2,3,4,5,6,7,8,9,10,11,13] _ hC [pq (A4 hi1 hl1)] (sI h).symm
  ·have h:=hnext1 _ hs1
   replace h:=sI h
   subst h
   exact wf Iq 20 [] [] [] 7 E3 hC []
theorem A6b:EN 120:=en Tryz.func120
theorem k32 (x0:Ab) (x1:Ab) (r:Bool) (h:F32 x0 x1=some r):CO 32 [.agg (d34 x0),.agg (d34 x1)] [] (.d (Bo r)) []:=by
 unfold F32 at h
 refine co 31 Tryz.func32 λ C hC=>?_
 obtain⟨y1,h2,y3,h4,y5,h6,y7,h8,h⟩:=Dd h
 replace h:=sI h
 subst h
 exact wr n5_ 25 [] [pc e72 (k72 x0.Ae x1.Ae _ h2) [],pw e73 (λ hg=>k73 x0.Ac x1.Ac _ (A1 h4 hg)) [],pw e74 (λ hg=>k74 x0.Am x1.Am _ (A1 h6 hg)) [],pw e75 (λ hg=>k75 x0.Ai x1.Ai _ (A1 h8 hg)) []] [] 0 [] hC []
theorem e32:EN 32:=en Tryz.func32
def Nf:List Nat:=[0,1,4,5,7,8,9,16]
def Ui (x0:List Ah) (n0:Nat) (z0:Unit):St:=[(0,.d (DS q49 x0)),(1,.d (.fn (.func 104) [] [.o 0 0])),(4,dI 0),(7,dI (ln x0)),(8,dI (cnt 0 n0))]
def Zs (x1c0:Int) (n0:Nat) (z0:Unit):List Res:=[.box 3 [I x1c0]]
def Acb  (z0:Unit):St:=[(4,dI 0)]
def Adq (x1c0:Int) (z0:Unit):List Res:=[.box 3 [I x1c0]]
theorem A5c (x0:List Ah) (x1c0:Int) (r:Int×Int) (h:yH x0 x1c0=some r):CO 103 [.d (DS q49 x0),.d (.fn (.func 104) [] [.o 0 0])] [.box 3 [I x1c0]] (.d (I r.1)) [.box 3 [I r.2]]:=by
 unfold yH at h
 refine co 19 Tryz.func103 λ C hC=>?_
 refine ws Nf 26 [] [pl q49 x0] [] 1 [0] (Ui x0 0 ()) (Zs x1c0 0 ()) hC [] ?_
 obtain⟨w0,hm0,hret0,hnext0⟩:=Av h
 clear h
 refine wc w0 (Acb) (Adq x1c0) ?_ λ z0 hs0=>?_
 ·refine wb ?_
  refine Bq 0 rfl λ hl0=>?_
  refine wl (Ui x0) (Zs x1c0) hm0 (λ z0 hn0=>?_) λ n0 a0 z0 w0b hi0 hx0 h hb0 hr0=>?_
  ·clear hm0
   exact wx w0 (Acb) (Adq x1c0) Nf 26 [false] [] [] 1 [0] _ hC [pq (A6 hl0)] hn0
  ·unfold Pn at h
   refine wn Nf 32 [true] [pt hx0 hl0,pb A6j (A5b a0 x1c0 _ rfl)] [] 1 [0] [0,1,4,5,7,8,16] hC [pq (A4 hi0 hl0)] ?_
   rcases cB h with⟨h1,h⟩ | ⟨h1,h⟩
   ·have hq:=hret0 _ (hr0 _ (sI h).symm)
    replace hq:=sI hq
    subst hq
    exact wr Nf 24 [true] [] [] 1 [0] hC [pq h1]
   ·exact wx w0b (Ui x0 (n0+1)) (Zs x1c0 (n0+1)) Nf 25 [false] [] [] 1 [0] _ hC [pq h1] (sI h).symm
 ·have h:=hnext0 _ hs0
  replace h:=sI h
  subst h
  exact wr Nf 23 [] [] [] 1 [0] hC []
theorem A6k:EN 103:=en Tryz.func103
theorem k34 (x0:List Bool) (x1:Bool) (r:Bool) (h:F34 x0 x1=some r):CO 34 [.d (DS pB x0),.d (Bo x1)] [] (.d (Bo r)) []:=by
 unfold F34 at h
 refine co 9 Tryz.func34 λ C hC=>?_
 obtain⟨y1,h2,h⟩:=Aw h
 replace h:=sI h
 subst h
 exact wr [0,1,4] 25 [] [pc e77 (k77 x0 x1 _ h2) []] [] 0 [] hC []
theorem e34:EN 34:=en Tryz.func34
theorem A8w (x0:Int) (x1:Int) (r:Int×Int) (h:Ts x0 x1=r):CO 130 [.d (.p (.v (.int .u64 x0))),.d (.p (.v (.int .u64 x1)))] [] (.tup [.d (.p (.v (.int .u64 r.1))),.d (.p (.v (.int .u64 r.2)))]) []:=by
 unfold Ts at h
 refine co 30 Tryz.func130 λ C hC=>?_
 subst h
 exact wr [0,1,4,5,6,7,8,9] 30 [false] [pc A9d (A8o x0 x1 _ rfl) []] [] 0 [] hC [⟨(false,false),rfl⟩]
theorem A9l:EN 130:=en Tryz.func130
def K5:List Nat:=[0,1,2,3,4,6,7,14,21,27,39]
def Agq (x1:Ak) (z0:Bool):St:=[(2,dO 0 0),(3,dO 1 0),(4,dB false),(6,dI x1.Kind),(7,dB z0)]
def Ajg (x0:Aa) (x1:Ak) (z0:Bool):List Res:=[.box 29 (d29 x0),.box 47 (d47 x1)]
def Agp (x1:Ak) (z1:Bool):St:=[(2,dO 0 0),(3,dO 1 0),(4,dB false),(6,dI x1.Kind),(14,dB z1)]
def Ajf (x0:Aa) (x1:Ak) (z1:Bool):List Res:=[.box 29 (d29 x0),.box 47 (d47 x1)]
theorem k62 (x0 : Aa) (x1 : Ak) (r : Bool) (h : F62 x0 x1 = some r) : CO 62 [.agg (d29 x0), .agg (d47 x1)] [] (.d (Bo r)) [] := by
 unfold F62 at h
 refine co 48 Tryz.func62 λ C hC=>?_
 refine wn K5 30 [] [] [] 0 [0,1] [2,3,4,6,7] hC [] ?_
 obtain⟨w0,h,hret0,hnext0⟩:=Av h
 refine wc w0 (Agq x1) (Ajg x0 x1) ?_ λ z0 hs0=>?_
 ·unfold Aky at h
  rcases cB h with⟨h1,h⟩ | ⟨h1,h⟩
  ·exact wx w0 (Agq x1) (Ajg x0 x1) K5 23 [true] [] [] 0 [0,1] _ hC [pq h1] (sI h).symm
  ·exact wx w0 (Agq x1) (Ajg x0 x1) K5 23 [false] [] [] 0 [0,1] _ hC [pq h1] (sI h).symm
 ·clear h; have h := hnext0 _ hs0
  rcases cB h with⟨h2,h⟩ | ⟨h2,h⟩
  ·replace h:=sI h
   subst h
   exact wr K5 24 [true] [pc Y7 (Y1 x0 2 x1.Unit _ rfl) []] [] 0 [] hC [pq h2]
  ·refine wn K5 25 [false] [] [] 0 [0,1] [2,3,4,6,14] hC [pq h2] ?_
   obtain⟨w1,h,hret1,hnext1⟩:=Av h
   refine wc w1 (Agp x1) (Ajf x0 x1) ?_ λ z1 hs1=>?_
   ·unfold Akx at h
    rcases cB h with⟨h3,h⟩ | ⟨h3,h⟩
    ·exact wx w1 (Agp x1) (Ajf x0 x1) K5 23 [true] [] [] 0 [0,1] _ hC [pq h3] (sI h).symm
    ·exact wx w1 (Agp x1) (Ajf x0 x1) K5 23 [false] [] [] 0 [0,1] _ hC [pq h3] (sI h).symm
   ·clear h;have h:=hnext1 _ hs1
    rcases cB h with⟨h4,h⟩ | ⟨h4,h⟩
    ·replace h:=sI h
     subst h
     exact wr K5 24 [true] [pc Y7 (Y1 x0 1 x1.Unit _ rfl) []] [] 0 [] hC [pq h4]
    ·rcases cB h with⟨h5,h⟩ | ⟨h5,h⟩
     ·replace h:=sI h
      subst h
      exact wr K5 27 [false,true] [pc Y7 (Y1 x0 4 x1.Unit _ rfl) []] [] 0 [] hC [pq h4,pq h5]
     ·rcases cB h with⟨h6,h⟩ | ⟨h6,h⟩
      ·replace h:=sI h
       subst h
       exact wr K5 30 [false,false,true] [pc Y7 (Y1 x0 1 x1.Unit _ rfl) [],⟨.when [(Hi x0 1 x1.Unit,true)] (.call 108 [.agg (d29 x0),dI 3,dI x1.Value] [] (dB (Hi x0 3 x1.Value)) [] []),λ hg=>⟨Y7,(Y1 x0 3 x1.Value _ rfl)⟩⟩] [] 0 [] hC [pq h4,pq h5,pq h6]
      ·rcases cB h with⟨h7,h⟩ | ⟨h7,h⟩
       ·replace h:=sI h
        subst h
        exact wr K5 36 [false,false,false,true,true] [pc Y7 (Y1 x0 x1.Value x1.Unit _ rfl) []] [] 0 [] hC [pq h4,pq h5,pq h6,pq h7,pq h7]
       ·rcases cB h with⟨h8,h⟩ | ⟨h8,h⟩
        ·replace h:=sI h
         subst h
         exact wr K5 36 [false,false,false,false,true] [pc Y7 (Y1 x0 x1.Value x1.Unit _ rfl) []] [] 0 [] hC [pq h4,pq h5,pq h6,pq h7,pq h8]
        ·replace h:=sI h
         subst h
         exact wr K5 38 [false,false,false,false,false] [] [] 0 [] hC [pq h4,pq h5,pq h6,pq h7,pq h8]
theorem e62:EN 62:=en Tryz.func62
theorem k64 (x0:Au) (x1:Int) (x2:Int) (r:Int×Au) (h:F64 x0 x1 x2=some r):CO 64 [.d (.o 0 0),.d (I x1),.d (I x2)] [.box 70 (d70 x0)] (.d (I r.1)) [.box 70 (d70 r.2)]:=by
 unfold F64 at h
 refine co 15 Tryz.func64 λ C hC=>?_
 obtain⟨y1,h2,h⟩:=Aw h
 replace h:=sI h
 subst h
 exact wr [0,1,2,6] 25 [] [pc e60 (k60 x0 (w64 ((w64 (x2-x1))+1)) _ h2) [0]] [] 1 [0] hC []
theorem e64:EN 64:=en Tryz.func64
theorem k65 (x0:Au) (x1:List Int) (r:Int×Au) (h:F65 x0 x1=some r):CO 65 [.d (.o 0 0),.d (DS pI x1)] [.box 70 (d70 x0)] (.d (I r.1)) [.box 70 (d70 r.2)]:=by
 unfold F65 at h
 refine co 12 Tryz.func65 λ C hC=>?_
 obtain⟨y1,h2,y3,h4,h⟩:=A9 h
 replace h:=sI h
 subst h
 exact wr [0,1,4] 25 [] [pl pI x1,pc e60 (k60 x0 (ln x1) _ h2) [0],pr pI h4] [] 1 [0] hC []
theorem e65:EN 65:=en Tryz.func65
theorem k45 (x0:Aa) (r:Int) (h:F45 x0=some r):CO 45 [.agg (d29 x0)] [] (.d (I r)) []:=by
 unfold F45 at h
 refine co 62 Tryz.func45 λ C hC=>?_
 refine wn [0,1,2,28,61] 26 [] [pL_ [(((decide (x0.Al<1)) || (decide (x0.Al>6))),false)] q49 x0.Ad,pL_ [((((decide (x0.Al<1)) || (decide (x0.Al>6))) || (decide ((ln x0.Ad)>24))),false)] q98 x0.Ac,pL_ [(((((decide (x0.Al<1)) || (decide (x0.Al>6))) || (decide ((ln x0.Ad)>24))) || (decide ((ln x0.Ac)>8))),false)] q90 x0.Af] [] 0 [0] [1,2,28] hC [] ?_
 rcases cB h with⟨h1,h⟩ | ⟨h1,h⟩
 ·replace h:=sI h
  subst h
  exact wr [0,1,2,28,61] 24 [true] [] [] 0 [] hC [pq h1]
 ·obtain⟨y2,h3,y4,h5,y6,h7,h⟩:=By h
  refine wn [0,1,2,28,61] 26 [false] [pc e95 (k95 x0 _ h3) [],pw e96 (λ hg=>k96 x0 _ (A1 h5 hg)) [],pw e97 (λ hg=>k97 x0 _ (A1 h7 hg)) []] [] 0 [] [2,61] hC [pq h1] ?_
  rcases cB h with⟨h8,h⟩ | ⟨h8,h⟩
  ·replace h:=sI h
   subst h
   exact wr [0,1,2,28,61] 24 [true] [] [] 0 [] hC [pq h8]
  ·replace h:=sI h
   subst h
   exact wr [0,1,2,28,61] 25 [false] [] [] 0 [] hC [pq h8]
theorem e45:EN 45:=en Tryz.func45
theorem A4r (x0:List (List Int)) (r:Bool) (h:V8 x0=some r):CO 139 [.d (DS (pL pI) x0),.d (.fn (.func 140) [] [])] [] (.d (Bo r)) []:=by
 unfold V8 at h
 refine co 9 Tryz.func139 λ C hC=>?_
 obtain⟨y1,h2,h⟩:=Aw h
 replace h:=sI h
 subst h
 exact wr [0,1,4] 25 [] [pc A5o (A4g x0 _ h2) []] [] 0 [] hC []
theorem A5z:EN 139:=en Tryz.func139
def zJ:List Nat:=[0,1,2,4,5,6,7,8,9,10,49]
def Afn (x1:List As) (n0:Nat) (z0:Unit):St:=[(1,.d (DS q92 x1)),(2,dO 0 0),(4,dB false),(7,.d (DS q92 x1)),(8,dI (ln x1)),(9,dI (cnt 0 n0))]
def Aqk (x0:Aa) (n0:Nat) (z0:Unit):List Res:=[.box 29 (d29 x0)]
def Asq (x1:List As) (z0:Unit):St:=[(1,.d (DS q92 x1)),(4,dB false)]
def Awl  (z0:Unit):List Res:=[]
theorem k89 (x0:Aa) (x1:List As) (r:Bool) (h:F89 x0 x1=some r):CO 89 [.agg (d29 x0),.d (DS q92 x1)] [] (.d (Bo r)) []:=by
 unfold F89 at h
 refine co 54 Tryz.func89 λ C hC=>?_
 refine ws zJ 26 [] [pl q92 x1] [] 0 [0] (Afn x1 0 ()) (Aqk x0 0 ()) hC [] ?_
 obtain⟨w0,hm0,hret0,hnext0⟩:=Av h
 clear h
 refine wc w0 (Asq x1) (Awl) ?_ λ z0 hs0=>?_
 ·refine wb ?_
  refine Bq 7 rfl λ hl0=>?_
  refine wl (Afn x1) (Aqk x0) hm0 (λ z0 hn0=>?_) λ n0 a0 z0 w0b hi0 hx0 h hb0 hr0=>?_
  ·clear hm0
   exact wx w0 (Asq x1) (Awl) zJ 26 [false] [] [] 0 [] _ hC [pq (A6 hl0)] hn0
  ·unfold vI at h
   obtain⟨y1,h2,y3,h4,y5,h6,h⟩:=By h
   refine wn zJ 32 [true] [pt hx0 hl0,pc A9k (A8v x0 a0.Kind _ rfl) [],pc e93 (k93 a0.Number 0 (w64 ((Mo x0 a0.Kind)-1)) _ rfl) [],pR q92 h2,⟨.when [(!(F93 a0.Number 0 (w64 ((Mo x0 a0.Kind)-1))),false),(decide ((cnt 0 n0)>0),true)] (.call 134 [dI y1.Kind,dI a0.Kind] [] (dI (Ld y1.Kind a0.Kind)) [] []),λ hg=>⟨Az0,(Azf y1.Kind a0.Kind _ rfl)⟩⟩,pR q92 h4,⟨.when [(!(F93 a0.Number 0 (w64 ((Mo x0 a0.Kind)-1))),false),(decide ((cnt 0 n0)>0),true)] (.call 134 [dI y3.Number,dI a0.Number] [] (dI (Ld y3.Number a0.Number)) [] []),λ hg=>⟨Az0,(Azf y3.Number a0.Number _ rfl)⟩⟩,pw A9j (λ hg=>A8u [Ld y1.Kind a0.Kind,Ld y3.Number a0.Number] _ (A1 h6 hg)) []] [] 0 [0] [1,2,4,7,8,9,49] hC [pq (A4 hi0 hl0)] ?_
   rcases cB h with⟨h7,h⟩ | ⟨h7,h⟩
   ·have hq:=hret0 _ (hr0 _ (sI h).symm)
    replace hq:=sI hq
    subst hq
    exact wr zJ 24 [true] [] [] 0 [] hC [pq h7]
   ·exact wx w0b (Afn x1 (n0+1)) (Aqk x0 (n0+1)) zJ 25 [false] [] [] 0 [0] _ hC [pq h7] (sI h).symm
 ·have h:=hnext0 _ hs0
  replace h:=sI h
  subst h
  exact wr zJ 23 [] [pl q92 x1] [] 0 [] hC []
theorem e89:EN 89:=en Tryz.func89
theorem A8l (x0:Int) (x1:Int) (r:Int) (h:Aav x0 x1=r):CO 180 [.d (I x0),.d (I x1)] [] (.d (I r)) []:=by
 unfold Aav at h
 refine co 17 Tryz.func180 λ C hC=>?_
 refine wn [0,1,4,5,13] 28 [] [pc Apq (Ape x1 _ rfl) [],pc Apq (Ape x0 _ rfl) [],pc Apq (Ape (w64 ((Fe x1)-(Fe x0))) _ rfl) []] [] 0 [] [4,5,13] hC [] ?_
 rcases cB h with⟨h1,h⟩ | ⟨h1,h⟩
 ·subst h
  exact wr [0,1,4,5,13] 25 [true] [] [] 0 [] hC [pq h1]
 ·subst h
  exact wr [0,1,4,5,13] 25 [false] [] [] 0 [] hC [pq h1]
theorem A9a:EN 180:=en Tryz.func180
def M_:List Nat:=[0,1,2,4,6,7,8,9,10,11,17,31]
def Ol (x0:List As) (z0:Int×Int):St:=[(0,.d (DS q92 x0)),(2,.d (.fn (.func 149) [] [])),(4,dO 0 0),(6,dI 0),(7,dB false),(8,dI (ln x0)),(9,dI z0.1),(10,dI z0.2)]
def S8 (x1:As) (z0:Int×Int):List Res:=[.box 92 (d92 x1)]
def Abv (x0:List As) (z0:Int×Int):St:=[(0,.d (DS q92 x0)),(2,.d (.fn (.func 149) [] [])),(4,dO 0 0),(6,dI 0),(7,dB false),(8,dI (ln x0)),(9,dI z0.1)]
def Ac9 (x1:As) (z0:Int×Int):List Res:=[.box 92 (d92 x1)]
theorem Auo (x0:List As) (x1:As) (r:Int×Bool) (h:V6 x0 x1=some r):CO 148 [.d (DS q92 x0),.agg (d92 x1),.d (.fn (.func 149) [] [])] [] (.tup [.d (I r.1),.d (Bo r.2)]) []:=by
 unfold V6 at h
 refine co 49 Tryz.func148 λ C hC=>?_
 refine ws M_ 28 [] [pl q92 x0] [] 0 [0] (Ol x0 (0,(ln x0))) (S8 x1 (0,(ln x0))) hC [] ?_
 obtain⟨w0,hm0,hret0,hnext0⟩:=Av h
 clear h
 refine wc w0 (Abv x0) (Ac9 x1) ?_ λ z0 hs0=>?_
 ·refine wb ?_
  refine ww (Ol x0) (S8 x1) hm0 λ z0 w0b h hb0 hr0=>?_
  unfold V5 at h
  rcases cB h with⟨h1,h⟩ | ⟨h1,h⟩
  ·obtain⟨y2,h3,h⟩:=Aw h
   refine wn M_ 31 [true] [pr q92 h3,pc A5x (A4p y2 x1 _ rfl) []] [] 0 [0] [0,2,4,6,7,8,9,10,11,31] hC [pq h1] ?_
   rcases cB h with⟨h4,h⟩ | ⟨h4,h⟩
   ·exact wx w0b (Ol x0) (S8 x1) M_ 24 [true] [] [] 0 [0] _ hC [pq h4] (sI h).symm
   ·exact wx w0b (Ol x0) (S8 x1) M_ 24 [false] [] [] 0 [0] _ hC [pq h4] (sI h).symm
  ·exact wx w0 (Abv x0) (Ac9 x1) M_ 26 [false] [] [] 0 [0] (z0.1,z0.2) hC [pq h1] (hb0 _ (sI h).symm)
 ·have h:=hnext0 _ hs0
  obtain⟨y5,h6,h⟩:=Aw h
  replace h:=sI h
  subst h
  exact wr M_ 23 [] [pR q92 h6,⟨.when [(decide (z0.1<(ln x0)),true)] (.call 149 [.agg (d92 y5),.agg (d92 x1)] [] (dI (Tq y5 x1)) [] []),λ hg=>⟨A5x,(A4p y5 x1 _ rfl)⟩⟩] [] 0 [] hC []
theorem Avi:EN 148:=en Tryz.func148
theorem A85 (x0:Int) (x1:Int) (r:Int) (h:Z9 x0 x1=r):CO 102 [.d (I x0),.d (I x1)] [] (.d (I r)) []:=by
 unfold Z9 at h
 refine co 17 Tryz.func102 λ C hC=>?_
 refine wn [0,1,4,5,13] 28 [] [pc Azy (Azd x1 _ rfl) [],pc Azy (Azd x0 _ rfl) [],pc Azy (Azd (w64 ((Jo x1)-(Jo x0))) _ rfl) []] [] 0 [] [4,5,13] hC [] ?_
 rcases cB h with⟨h1,h⟩ | ⟨h1,h⟩
 ·subst h
  exact wr [0,1,4,5,13] 25 [true] [] [] 0 [] hC [pq h1]
 ·subst h
  exact wr [0,1,4,5,13] 25 [false] [] [] 0 [] hC [pq h1]
theorem A9u:EN 102:=en Tryz.func102
theorem k91 (x0:Ag) (r:Bool) (h:F91 x0=r):CO 91 [.agg (d87 x0)] [] (.d (Bo r)) []:=by
 unfold F91 at h
 refine co 6 Tryz.func91 λ C hC=>?_
 subst h
 exact wr n3_ 25 [] [pc e92 (k92 x0 _ rfl) []] [] 0 [] hC []
theorem e91:EN 91:=en Tryz.func91
theorem k76 (x0:Ab) (x1:Int) (x2:Int) (r:Bool) (h:F76 x0 x1 x2=some r):CO 76 [.agg (d34 x0),.d (I x1),.d (I x2)] [] (.d (Bo r)) []:=by
 unfold F76 at h
 refine co 13 Tryz.func76 λ C hC=>?_
 obtain⟨y1,h2,h⟩:=Aw h
 replace h:=sI h
 subst h
 exact wr [0,1,2,3,6] 25 [] [pc A9m (A8x x0.Ai (⟨x1,x2⟩:As) _ h2) []] [] 0 [] hC []
theorem e76:EN 76:=en Tryz.func76
def K7:List Nat:=[0,1,4,5,6,7,12,19,29]
def Oj  (z0:Int×Int×(List Aj)):St:=[(0,dS 0),(1,.d (.fn (.func 158) [] [])),(4,.d (DS q62 [])),(5,dI z0.1),(6,dI z0.2.1)]
def S7  (z0:Int×Int×(List Aj)):List Res:=[v5_ z0.2.2]
def Abu  (z0:Int×Int×(List Aj)):St:=[(0,dS 0),(4,.d (DS q62 [])),(5,dI z0.1)]
def Ac8  (z0:Int×Int×(List Aj)):List Res:=[v5_ z0.2.2]
theorem Aun (x0:List Aj) (r:(List Aj)) (h:Q7 x0=some r):CO 157 [.d (.os 0),.d (.fn (.func 158) [] [])] [.sl 62 3 (x0.map q62)] (.d (.os 1)) [.non,.sl 62 3 (r.map q62)]:=by
 unfold Q7 at h
 refine co 42 Tryz.func157 λ C hC=>?_
 obtain⟨y1,h2,h⟩:=Aw h
 rcases cB h with⟨h3,h⟩ | ⟨h3,h⟩
 ·replace h:=sI h
  subst h
  exact wr K7 31 [true] [pb Avf (Aul x0 _ h2)] [.mv 0] 1 [0,1] hC [pq h3]
 ·refine ws K7 33 [false] [pb Avf (Aul x0 _ h2)] [] 1 [0] (Oj (y1,w64 (y1+1),x0)) (S7 (y1,w64 (y1+1),x0)) hC [pq h3] ?_
  obtain⟨w0,hm0,hret0,hnext0⟩:=Av h
  clear h
  refine wc w0 (Abu) (Ac8) ?_ λ z0 hs0=>?_
  ·refine wb ?_
   refine ww (Oj) (S7) hm0 λ z0 w0b h hb0 hr0=>?_
   unfold V3 at h
   rcases cB h with⟨h4,h⟩ | ⟨h4,h⟩
   ·obtain⟨y5,h6,h⟩:=Aw h
    refine wn K7 32 [true] [pl q62 z0.2.2,pr q62 h6,pn q62 h6,pc A5t (A4l y5 _ rfl) []] [] 1 [0,1] [0,1,4,5,6,7,29] hC [pq h4] ?_
    rcases cB h with⟨h7,h⟩ | ⟨h7,h⟩
    ·obtain⟨y8,h9,y10,h11,h⟩:=A9 h
     exact wx w0b (Oj) (S7) K7 27 [true] [pr q62 h9,pu q62 h9 h11] [] 1 [0] _ hC [pq h7] (sI h).symm
    ·exact wx w0b (Oj) (S7) K7 25 [false] [] [] 1 [0] _ hC [pq h7] (sI h).symm
   ·exact wx w0 (Abu) (Ac8) K7 26 [false] [pl q62 z0.2.2] [] 1 [0] (z0.1,z0.2.1,z0.2.2) hC [pq h4] (hb0 _ (sI h).symm)
  ·have h:=hnext0 _ hs0
   obtain⟨u13,h12,u15,h14,h⟩:=A9 h
   replace h:=sI h
   subst h
   (rw [List.map_take];exact uY (bs:=[]) Jg K7 25 [] [.bnd (z0.2.2.map q62).length z0.1 (((z0.2.2.map q62).length:Nat):Int) (ln z0.2.2),.eqr ((z0.2.2.map q62).take (Int.toNat z0.1)++(List.replicate ((Int.toNat (ln z0.2.2))-(Int.toNat z0.1)) (q62 (⟨([]:List Int),([]:List Int),([]:List Int)⟩:Aj))++(z0.2.2.map q62).drop ((Int.toNat z0.1)+((Int.toNat (ln z0.2.2))-(Int.toNat z0.1))))) ((Hf z0.2.2 (Int.toNat z0.1) ((Int.toNat (ln z0.2.2))-(Int.toNat z0.1)) (⟨([]:List Int),([]:List Int),([]:List Int)⟩:Aj)).map q62),.bnd ((Hf z0.2.2 (Int.toNat z0.1) ((Int.toNat (ln z0.2.2))-(Int.toNat z0.1)) (⟨([]:List Int),([]:List Int),([]:List Int)⟩:Aj)).map q62).length 0 z0.1 z0.1] [.trunc 4] [.tmp 4] 1 [0,1] rfl hC ⟨Gd (by simp) (by simp) h12,Aah q62 rfl,Gd (by simp) rfl h14,trivial⟩ trivial (by kernel_rfl))
theorem Avh:EN 157:=en Tryz.func157
theorem A4t (x0:Int) (x1:Int) (x2:Aa) (r:Int) (h:Og x0 x1 x2=some r):CO 133 [.d (I x0),.d (I x1),.d (.ip [.v (.int .i64 x2.Al),.s (x2.Ad.map q49),.s (x2.Ac.map q98),.s (x2.Af.map q90),.v (.int .i64 x2.Phase),.v (.int .i64 x2.Ar)])] [] (.d (I r)) []:=by
 unfold Og at h
 refine co 19 Tryz.func133 λ C hC=>?_
 obtain⟨y1,h2,y3,h4,h⟩:=A9 h
 replace h:=sI h
 subst h
 exact wr [0,1,2,5] 25 [] [pr q90 h2,pr q90 h4,pc Az0 (Azf y1.Bl y3.Bl _ rfl) []] [] 0 [] hC []
theorem A51:EN 133:=en Tryz.func133
theorem Aup (x0:Int) (x1:Aj) (r:Bool) (h:Ra x0 x1=some r):CO 126 [.d (I x0),.d (.ip [.s (x1.Al.map pI),.s (x1.Ac.map pI),.s (x1.Af.map pI)])] [] (.d (Bo r)) []:=by
 unfold Ra at h
 refine co 9 Tryz.func126 λ C hC=>?_
 obtain⟨y1,h2,h⟩:=Aw h
 replace h:=sI h
 subst h
 exact wr [0,1,3] 25 [] [pc e59 (k59 x1.Af x0 _ h2) []] [] 0 [] hC []
theorem Avj:EN 126:=en Tryz.func126
theorem k56 (x0:Aa) (x1:Int) (r:Int) (h:F56 x0 x1=some r):CO 56 [.agg (d29 x0),.d (I x1)] [] (.d (I r)) []:=by
 unfold F56 at h
 refine co 9 Tryz.func56 λ C hC=>?_
 obtain⟨y1,h2,h⟩:=Aw h
 replace h:=sI h
 subst h
 exact wr n5_ 25 [] [pc A6k (A5c x0.Ad x1 _ h2) [1]] [] 0 [] hC []
theorem e56:EN 56:=en Tryz.func56
def U0:List Nat:=[0,1,4,5,6,7,8,10,26,37]
def Asw (x0:List Ak) (x1:Int) (z0:Unit):St:=[(0,.d (DS q47 x0)),(1,dI x1),(4,.d (DS q47 []))]
def Awr  (z0:Unit):List Res:=[]
def Asv (x0:List Ak) (x1:Int) (z1:Unit):St:=[(0,.d (DS q47 x0)),(4,.d (DS q47 [])),(6,.d (.p (.v (.int .u64 ((Ts (IntKind.wrap .u64 (ln x0)) (IntKind.wrap .u64 x1)).2)))))]
def Awq  (z1:Unit):List Res:=[]
def Afq  (z2:Int×(List Ak)):St:=[(4,.d (DS q47 [])),(7,dS 0),(8,dI z2.1)]
def Aqn  (z2:Int×(List Ak)):List Res:=[v2_ z2.2]
def Asu  (z2:Int×(List Ak)):St:=[(4,.d (DS q47 [])),(7,dS 0)]
def Awp  (z2:Int×(List Ak)):List Res:=[v2_ z2.2]
theorem k83 (x0:List Ak) (x1:Int) (r:(List Ak)) (h:F83 x0 x1=some r):CO 83 [.d (DS q47 x0),.d (I x1)] [] (.d (.os 0)) [v2_ r]:=by
 unfold F83 at h
 refine co 48 Tryz.func83 λ C hC=>?_
 refine wn U0 26 [] [] [] 0 [] [0,1,4,10] hC [] ?_
 obtain⟨w0,h,hret0,hnext0⟩:=Av h
 refine wc w0 (Asw x0 x1) (Awr) ?_ λ z0 hs0=>?_
 ·unfold Ako at h
  rcases cB h with⟨h1,h⟩ | ⟨h1,h⟩
  ·cases h
  ·exact wx w0 (Asw x0 x1) (Awr) U0 23 [false] [] [] 0 [] _ hC [pq h1] (sI h).symm
 ·clear h;have h:=hnext0 _ hs0
  refine wn U0 26 [] [pl q47 x0,pc A9l (A8w (IntKind.wrap .u64 (ln x0)) (IntKind.wrap .u64 x1) _ rfl) []] [] 0 [] [0,4,6,26] hC [] ?_
  obtain⟨w1,h,hret1,hnext1⟩:=Av h
  refine wc w1 (Asv x0 x1) (Awq) ?_ λ z1 hs1=>?_
  ·unfold Akn at h
   rcases cB h with⟨h2,h⟩ | ⟨h2,h⟩
   ·cases h
   ·exact wx w1 (Asv x0 x1) (Awq) U0 23 [false] [] [] 0 [] _ hC [pq h2] (sI h).symm
  ·clear h;have h:=hnext1 _ hs1
   obtain⟨y3,h4,h⟩:=Aw h
   refine ws U0 26 [] [⟨.room ((w64 ((Ts (IntKind.wrap .u64 (ln x0)) (IntKind.wrap .u64 x1)).2))*(24+1)) (List.replicate (Int.toNat (w64 ((Ts (IntKind.wrap .u64 (ln x0)) (IntKind.wrap .u64 x1)).2))) (q47 (⟨0,0,0⟩:Ak))) (y3.map q47),K1 h4⟩,⟨.cpy (x0.map q47) 3 ((y3.map q47).length) (Nat.min x0.length y3.length) ((y3.map q47).take 0++((x0.map q47).take (Nat.min x0.length y3.length)++(y3.map q47).drop (0+(Nat.min x0.length y3.length)))) ((I8 y3 0 y3.length x0).map q47),Ann q47 3 (λ _=>rfl) rfl (by simp)⟩] [] 0 [0] (Afq (((Nat.min x0.length y3.length):Int),(I8 y3 0 y3.length x0))) (Aqn (((Nat.min x0.length y3.length):Int),(I8 y3 0 y3.length x0))) hC [] ?_
   obtain⟨w2,hm2,hret2,hnext2⟩:=Av h
   clear h
   refine wc w2 (Asu) (Awp) ?_ λ z2 hs2=>?_
   ·refine wb ?_
    refine ww (Afq) (Aqn) hm2 λ z2 w2b h hb2 hr2=>?_
    unfold Akp at h
    rcases cB h with⟨h5,h⟩ | ⟨h5,h⟩
    ·obtain⟨u7,h6,u9,h8,h⟩:=A9 h
     exact wx w2b (Afq) (Aqn) U0 29 [true] [pl q47 z2.2,⟨.bnd (z2.2.map q47).length z2.1 (((z2.2.map q47).length:Nat):Int) (ln z2.2),Gd (by simp) (by simp) h6⟩,⟨.bnd (z2.2.map q47).length 0 z2.1 z2.1,Gd (by simp) rfl h8⟩,⟨.cpy (((z2.2.map q47).drop 0).take ((Int.toNat z2.1)-0)) 3 ((Int.toNat (ln z2.2))-(Int.toNat z2.1)) (Nat.min ((z2.2.drop 0).take ((Int.toNat z2.1)-0)).length ((Int.toNat (ln z2.2))-(Int.toNat z2.1))) ((z2.2.map q47).take (Int.toNat z2.1)++((((z2.2.map q47).drop 0).take ((Int.toNat z2.1)-0)).take (Nat.min ((z2.2.drop 0).take ((Int.toNat z2.1)-0)).length ((Int.toNat (ln z2.2))-(Int.toNat z2.1)))++(z2.2.map q47).drop ((Int.toNat z2.1)+(Nat.min ((z2.2.drop 0).take ((Int.toNat z2.1)-0)).length ((Int.toNat (ln z2.2))-(Int.toNat z2.1)))))) ((I8 z2.2 (Int.toNat z2.1) ((Int.toNat (ln z2.2))-(Int.toNat z2.1)) ((z2.2.drop 0).take ((Int.toNat z2.1)-0))).map q47),Ann q47 3 (λ _=>rfl) (Ahf _ _ _ _) rfl⟩] [] 0 [0] _ hC [pq h5] (sI h).symm
    ·exact wx w2 (Asu) (Awp) U0 26 [false] [pl q47 z2.2] [] 0 [0] (z2.1,z2.2) hC [pq h5] (hb2 _ (sI h).symm)
   ·have h:=hnext2 _ hs2
    replace h:=sI h
    subst h
    exact wr U0 23 [] [] [] 0 [0] hC []
theorem e83:EN 83:=en Tryz.func83
theorem A4f (x0:Aa) (x1:Ag) (x2:Ag) (r:Bool) (h:Tp x0 x1 x2=r):CO 177 [.agg (d29 x0),.agg (d87 x1),.agg (d87 x2)] [] (.d (Bo r)) []:=by
 unfold Tp at h
 refine co 52 Tryz.func177 λ C hC=>?_
 rcases cB h with⟨h1,h⟩ | ⟨h1,h⟩
 ·subst h
  exact wr [0,1,2,3,4,5,6,7,8,22] 29 [true] [] [] 0 [] hC [pq h1]
 ·subst h
  exact wr [0,1,2,3,4,5,6,7,8,22] 34 [false] [pc A9a (A8l x1.Phase x2.Phase _ rfl) []] [] 0 [] hC [pq h1]
theorem A5n:EN 177:=en Tryz.func177
def Hv:List Nat:=[0,1,2,4,6,7,8,32,36,47,64,74]
def Uo (x2:Bool) (z0:(List As)):St:=[(0,dO 0 0),(2,dB x2),(4,dO 5 0),(6,dI 0)]
def Vv (x0:A0) (x1:As) (z0:(List As)):List Res:=[.box 107 (zb x0.An [.os 6,.os 7,.os 8,.os 9,I x0.time]),.non,.non,.non,.non,.box 92 (d92 x1),v1_ x0.Aq.Ae,v4_ x0.Aq.Ac,v0_ x0.Aq.Am,v3_ z0]
theorem A46 (x0:A0) (x1:As) (x2:Bool) (r:Int×A0) (h:G7 x0 x1 x2=some r):CO 116 [.d (.o 0 0),.agg (d92 x1),.d (Bo x2)] (.box 107 (zb x0.An [.os 1,.os 2,.os 3,.os 4,I x0.time])::zp x0.Aq []) (.d (I r.1)) (.box 107 (zb r.2.An [.os 5,.os 6,.os 7,.os 8,I r.2.time]) :: .non :: .non :: .non :: .non::zp r.2.Aq []):=by
 unfold G7 at h
 refine co 84 Tryz.func116 λ C hC=>?_
 obtain⟨y1,h2,h⟩:=Aw h
 rcases cB h with⟨h3,h⟩ | ⟨h3,h⟩
 ·replace h:=sI h
  subst h
  exact wr Hv 32 [true] [pb Avi (Auo x0.Aq.Ai x1 _ h2)] [.mv 1,.mv 2,.mv 3,.mv 4] 5 [0,1,2,3,4,6,7,8,9] hC [pq h3]
 ·refine wn Hv 32 [false] [pb Avi (Auo x0.Aq.Ai x1 _ h2),pL_ [(x2,true)] q92 x0.Aq.Ai] [.mv 1,.mv 2,.mv 3,.mv 4] 5 Ia [0,2,4,6,7,36] hC [pq h3] ?_
  rcases cB h with⟨h4,h⟩ | ⟨h4,h⟩
  ·replace h:=sI h
   subst h
   exact wr Hv 24 [true] [] [] 5 [0,1,2,3,4,6,7,8,9] hC [pq h4]
  ·refine wn Hv 24 [false] [] [] 5 Ia [0,2,4,6,7,47] hC [pq h4] ?_
   obtain⟨w0,h,hret0,hnext0⟩:=Av h
   refine wc w0 (Uo x2) (Vv x0 x1) ?_ λ z0 hs0=>?_
   ·unfold Pl at h
    rcases cB h with⟨h5,h⟩ | ⟨h5,h⟩
    ·obtain⟨y6,h7,h⟩:=Aw h
     exact wx w0 (Uo x2) (Vv x0 x1) Hv 23 [true] [pc A5w (A4o x0.Aq.Ai y1.1 [x1] _ h7) [9]] [] 5 [0,1,2,3,4,5,6,7,8,10] _ hC [pq h5] (sI h).symm
    ·obtain⟨y8,h9,h⟩:=Aw h
     exact wx w0 (Uo x2) (Vv x0 x1) Hv 23 [false] [pc A5v (A4n x0.Aq.Ai y1.1 (w64 (y1.1+1)) _ h9) [9]] [] 5 [0,1,2,3,4,5,6,7,8,10] _ hC [pq h5] (sI h).symm
   ·clear h;have h:=hnext0 _ hs0
    rcases cB h with⟨h10,h⟩ | ⟨h10,h⟩
    ·obtain⟨y11,h12,y13,h14,h⟩:=A9 h
     refine wn Hv 30 [true] [pr q87 h12,pu q87 h12 h14] [] 5 Ia [0,4,6,74] hC [pq h10] ?_
     rcases cB h with⟨h15,h⟩ | ⟨h15,h⟩
     ·obtain⟨y16,h17,y18,h19,h⟩:=A9 h
      replace h:=sI h
      subst h
      exact wr Hv 25 [true] [pr q87 h17,pu q87 h17 h19] [] 5 [0,1,2,3,4,6,7,8,9] hC [pq h15]
     ·replace h:=sI h
      subst h
      exact wr Hv 25 [false] [] [] 5 [0,1,2,3,4,6,7,8,9] hC [pq h15]
    ·replace h:=sI h
     subst h
     exact wr Hv 29 [false] [] [] 5 [0,1,2,3,4,6,7,8,9] hC [pq h10]
theorem A6e:EN 116:=en Tryz.func116
def Ay1:List Nat:=[0,1,2,3,4,5,6,8,9,10,15,16,17,24]
theorem k54 (x0:Aa) (x1:Ag) (x2:Ag) (r:Bool) (h:F54 x0 x1 x2=r):CO 54 [.agg (d29 x0),.agg (d87 x1),.agg (d87 x2)] [] (.d (Bo r)) []:=by
 unfold F54 at h
 refine co 60 Tryz.func54 λ C hC=>?_
 rcases cB h with⟨h1,h⟩ | ⟨h1,h⟩
 ·subst h
  exact wr Ay1 42 [true,true,true,true] [] [] 0 [] hC [⟨(true,true),rfl⟩,pq h1]
 ·rcases cB h with⟨h2,h⟩ | ⟨h2,h⟩
  ·subst h
   exact wr Ay1 58 [true,true,true,false,true,true] [] [] 0 [] hC [⟨(true,true),rfl⟩,pq h1,⟨(true,true),rfl⟩,pq h2]
  ·subst h
   exact wr Ay1 69 [true,true,true,false,true,false,false] [pc A9u (A85 x1.Phase x2.Phase _ rfl) []] [] 0 [] hC [⟨(true,true),rfl⟩,pq h1,⟨(true,true),rfl⟩,pq h2,⟨(false,false),rfl⟩]
theorem e54:EN 54:=en Tryz.func54
def Gz:List Nat:=[0,2,3,4,5,6,7,8,9,10,11,24,29,47,60,96,121,155]
def jS  (z0:Sg2):St:=[(0,dO 0 0),(2,dO 1 0),(3,dO 2 0),(4,dI z0.1)]
def Aez (y1:Int×Au) (y3:Int×Au) (y5:Int×Au) (z0:Sg2):List Res:=[.box 70 [DS pI z0.2.1,I z0.2.2.1],.box 29 [I 0,.os 3,.os 4,.os 5,I 0,I 0],.box 29 [I y1.1,.os 6,.os 7,.os 8,I y3.1,I y5.1],v6_ ([]:List Ah),v7_ ([]:List Be),v8_ ([]:List A3),v6_ (Gq z0),v7_ ([]:List Be),v8_ ([]:List A3)]
def Atj  (z0:Sg2):St:=[(0,dO 0 0),(2,dO 1 0),(3,dO 2 0)]
def Axe (y1:Int×Au) (y3:Int×Au) (y5:Int×Au) (z0:Sg2):List Res:=[.box 70 [DS pI z0.2.1,I z0.2.2.1],.box 29 [I 0,.os 3,.os 4,.os 5,I 0,I 0],.box 29 [I y1.1,.os 6,.os 7,.os 8,I y3.1,I y5.1],v6_ ([]:List Ah),v7_ ([]:List Be),v8_ ([]:List A3),v6_ (Gq z0),v7_ ([]:List Be),v8_ ([]:List A3)]
def Ag4  (z1:(List Ah)):St:=[(0,dO 0 0),(2,dO 1 0),(3,dO 2 0)]
def Aju (y1:Int×Au) (y3:Int×Au) (y5:Int×Au) (y15:Int×Au) (z1:(List Ah)):List Res:=[.box 70 (d70 y15.2),.box 29 [I 0,.os 3,.os 4,.os 5,I 0,I 0],.box 29 [I y1.1,.os 6,.os 7,.os 8,I y3.1,I y5.1],v6_ ([]:List Ah),v7_ ([]:List Be),v8_ ([]:List A3),v6_ z1,v7_ ([]:List Be),v8_ ([]:List A3)]
def Af4  (z2:Sg4):St:=[(0,dO 0 0),(2,dO 1 0),(3,dO 2 0),(5,dI z2.1)]
def Aq0 (y1:Int×Au) (y3:Int×Au) (y5:Int×Au) (z2:Sg4):List Res:=[.box 70 [DS pI z2.2.1,I z2.2.2.1],.box 29 [I 0,.os 3,.os 4,.os 5,I 0,I 0],.box 29 [I y1.1,.os 6,.os 7,.os 8,I y3.1,I y5.1],v6_ ([]:List Ah),v7_ ([]:List Be),v8_ ([]:List A3),v6_ (g3_ z2),v7_ (Ds z2),v8_ ([]:List A3)]
def Ati  (z2:Sg4):St:=[(0,dO 0 0),(2,dO 1 0),(3,dO 2 0)]
def Axd (y1:Int×Au) (y3:Int×Au) (y5:Int×Au) (z2:Sg4):List Res:=[.box 70 [DS pI z2.2.1,I z2.2.2.1],.box 29 [I 0,.os 3,.os 4,.os 5,I 0,I 0],.box 29 [I y1.1,.os 6,.os 7,.os 8,I y3.1,I y5.1],v6_ ([]:List Ah),v7_ ([]:List Be),v8_ ([]:List A3),v6_ (g3_ z2),v7_ (Ds z2),v8_ ([]:List A3)]
def jR  (z3:Sg3):St:=[(0,dO 0 0),(2,dO 1 0),(3,dO 2 0),(7,dI z3.1)]
def Aey (y1:Int×Au) (y3:Int×Au) (y5:Int×Au) (z2:Sg4) (z3:Sg3):List Res:=[.box 70 [DS pI z3.2.1,I z3.2.2.1],.box 29 [I 0,.os 3,.os 4,.os 5,I 0,I 0],.box 29 [I y1.1,.os 6,.os 7,.os 8,I y3.1,I y5.1],v6_ ([]:List Ah),v7_ ([]:List Be),v8_ ([]:List A3),v6_ (g3_ z3),v7_ (Ds z2),v8_ (Ds z3)]
def Ath  (z3:Sg3):St:=[(2,dO 1 0),(3,dO 2 0)]
def Axc (y1:Int×Au) (y3:Int×Au) (y5:Int×Au) (z2:Sg4) (z3:Sg3):List Res:=[.box 70 [DS pI z3.2.1,I z3.2.2.1],.box 29 [I 0,.os 3,.os 4,.os 5,I 0,I 0],.box 29 [I y1.1,.os 6,.os 7,.os 8,I y3.1,I y5.1],v6_ ([]:List Ah),v7_ ([]:List Be),v8_ ([]:List A3),v6_ (g3_ z3),v7_ (Ds z2),v8_ (Ds z3)]
def Ag3 (z3:Sg3) (z4:(List Ah)):St:=[(0,dO 0 0),(2,dO 1 0),(3,dO 2 0),(7,dI z3.1),(8,dI (ln (Ds z3)))]
def Ajt (y1:Int×Au) (y3:Int×Au) (y5:Int×Au) (z2:Sg4) (z3:Sg3) (y42:Int×Au) (z4:(List Ah)):List Res:=[.box 70 (d70 y42.2),.box 29 [I 0,.os 3,.os 4,.os 5,I 0,I 0],.box 29 [I y1.1,.os 8,.os 6,.os 7,I y3.1,I y5.1],v6_ ([]:List Ah),v7_ ([]:List Be),v8_ ([]:List A3),v7_ (Ds z2),v8_ (Ds z3),v6_ z4]
set_option maxHeartbeats 4000000 in
theorem k28 (x0 : Au) (r : Aa × Au) (h : F28 x0 = some r) : CO 28 [.d (.o 0 0)] [.box 70 (d70 x0)] (.agg [I r.1.Al, .os 1, .os 2, .os 3, I r.1.Phase, I r.1.Ar]) (.box 70 (d70 r.2) :: zs r.1 []) := by
 unfold F28 at h
 refine co 168 Tryz.func28 λ C hC=>?_
 obtain⟨y1,h2,y3,h4,y5,h6,h⟩:=By h
 refine ws Gz 28 [] [pc e64 (k64 x0 1 4 _ h2) [0],pc e65 (k65 y1.2 [0,50,200,1800] _ h4) [0],pc e65 (k65 y3.2 [0,10,50] _ h6) [0]] [.ownb 1 1 49 3,.ownb 1 2 98 3,.ownb 1 3 90 5,.ownb 2 1 49 3,.ownb 2 2 98 3,.ownb 2 3 90 5] 1 n9_ (jS (1,y5.2.L,y5.2.At,([]:List Ah))) (Aez y1 y3 y5 (1,y5.2.L,y5.2.At,([]:List Ah))) hC [] ?_
 obtain⟨w0,hm0,hret0,hnext0⟩:=Av h
 clear h
 refine wc w0 (Atj) (Axe y1 y3 y5) ?_ λ z0 hs0=>?_
 ·refine wb ?_
  refine ww (jS) (Aez y1 y3 y5) hm0 λ z0 w0b h hb0 hr0=>?_
  unfold vX at h
  rcases cB h with⟨h7,h⟩ | ⟨h7,h⟩
  ·obtain⟨y8,h9,h⟩:=Aw h
   rcases cB h with⟨h10,h⟩ | ⟨h10,h⟩
   ·obtain⟨y11,h12,y13,h14,h⟩:=A9 h
    exact wx w0b (jS) (Aez y1 y3 y5) Gz 34 [true,true] [pc e60 (k60 (⟨z0.2.1,z0.2.2.1⟩:Au) 6 _ h9) [0],pc e60 (k60 y8.2 z0.1 _ h12) [0],pa q49 3 h14] [] 1 [0,1,2,3,4,5,9,7,8] _ hC [pq h7,pq h10] (sI h).symm
   ·exact wx w0b (jS) (Aez y1 y3 y5) Gz 34 [true,false] [pc e60 (k60 (⟨z0.2.1,z0.2.2.1⟩:Au) 6 _ h9) [0]] [] 1 n9_ _ hC [pq h7,pq h10] (sI h).symm
  ·exact wx w0 (Atj) (Axe y1 y3 y5) Gz 26 [false] [] [] 1 n9_ (z0.1,z0.2.1,z0.2.2.1,(Gq z0)) hC [pq h7] (hb0 _ (sI h).symm)
 ·have h := hnext0 _ hs0
  obtain⟨y15,h16,h⟩:=Aw h
  refine wn Gz 24 [] [⟨.whenR [(decide (y1.1>2),true)] (.call 60 [dO 0 0,dI 2] [.box 70 [DS pI z0.2.1,I z0.2.2.1]] (dI y15.1) [.box 70 (d70 y15.2)] [0]),⟨λ hg=>⟨e60,(k60 (⟨z0.2.1,z0.2.2.1⟩:Au) 2 _ (A1 h16 hg))⟩,λ hg=>by have e:=Kg h16 hg;subst e;rfl⟩⟩] [] 1 n9_ [0,2,3,47] hC [] ?_
  obtain⟨w1,h,hret1,hnext1⟩:=Av h
  refine wc w1 (Ag4) (Aju y1 y3 y5 y15) ?_ λ z1 hs1=>?_
  ·unfold Ak6 at h
   rcases cB h with⟨h17,h⟩ | ⟨h17,h⟩
   ·obtain⟨y18,h19,h⟩:=Aw h
    exact wx w1 (Ag4) (Aju y1 y3 y5 y15) Gz 23 [true] [pa q49 3 h19] [] 1 [0,1,2,3,4,5,9,7,8] _ hC [pq h17] (sI h).symm
   ·exact wx w1 (Ag4) (Aju y1 y3 y5 y15) Gz 23 [false] [] [] 1 n9_ _ hC [pq h17] (sI h).symm
  ·clear h;have h:=hnext1 _ hs1
   obtain⟨y20,h21,h⟩:=Aw h
   refine ws Gz 24 [] [pc e60 (k60 y15.2 5 _ h21) [0]] [] 1 n9_ (Af4 (y20.1,y20.2.L,y20.2.At,z1,([]:List Be))) (Aq0 y1 y3 y5 (y20.1,y20.2.L,y20.2.At,z1,([]:List Be))) hC [] ?_
   obtain⟨w2,hm2,hret2,hnext2⟩:=Av h
   clear h
   refine wc w2 (Ati) (Axd y1 y3 y5) ?_ λ z2 hs2=>?_
   ·refine wb ?_
    refine ww (Af4) (Aq0 y1 y3 y5) hm2 λ z2 w2b h hb2 hr2=>?_
    unfold vW at h
    rcases cB h with⟨h22,h⟩ | ⟨h22,h⟩
    ·obtain⟨y23,h24,y25,h26,y27,h28,y29,h30,h⟩:=Dd h
     obtain⟨y31,h32,y33,h34,h⟩:=A9 h
     exact wx w2b (Af4) (Aq0 y1 y3 y5) Gz 35 [true] [pc e60 (k60 (⟨z2.2.1,z2.2.2.1⟩:Au) y1.1 _ h24) [0],pl q98 (Ds z2),pa q49 3 h26,pc e65 (k65 y23.2 [10,50,100] _ h28) [0],pc e65 (k65 y27.2 [0,5,y27.1] _ h30) [0],pc e65 (k65 y29.2 [0,1,3] _ h32) [0],pa q98 3 h34] [] 1 [0,1,2,3,4,5,9,10,8] _ hC [pq h22] (sI h).symm
    ·exact wx w2 (Ati) (Axd y1 y3 y5) Gz 26 [false] [] [] 1 n9_ (z2.1,z2.2.1,z2.2.2.1,(g3_ z2),(Ds z2)) hC [pq h22] (hb2 _ (sI h).symm)
   ·have h:=hnext2 _ hs2
    obtain⟨y35,h36,h⟩:=Aw h
    refine ws Gz 24 [] [pc e60 (k60 (⟨z2.2.1,z2.2.2.1⟩:Au) 6 _ h36) [0]] [] 1 n9_ (jR (y35.1,y35.2.L,y35.2.At,(g3_ z2),([]:List A3))) (Aey y1 y3 y5 z2 (y35.1,y35.2.L,y35.2.At,(g3_ z2),([]:List A3))) hC [] ?_
    obtain⟨w3,hm3,hret3,hnext3⟩:=Av h
    clear h
    refine wc w3 (Ath) (Axc y1 y3 y5 z2) ?_ λ z3 hs3=>?_
    ·refine wb ?_
     refine ww (jR) (Aey y1 y3 y5 z2) hm3 λ z3 w3b h hb3 hr3=>?_
     unfold vV at h
     rcases cB h with⟨h37,h⟩ | ⟨h37,h⟩
     ·obtain⟨y38,h39,y40,h41,y42,h43,h⟩:=By h
      refine wn Gz 37 [true] [pl q90 (Ds z3),pc e60 (k60 (⟨z3.2.1,z3.2.2.1⟩:Au) y1.1 _ h39) [0],pa q49 3 h41,⟨.whenR [(decide (y1.1>1),true)] (.call 60 [dO 0 0,dI 4] [.box 70 (d70 y38.2)] (dI y42.1) [.box 70 (d70 y42.2)] [0]),⟨λ hg=>⟨e60,(k60 y38.2 4 _ (A1 h43 hg))⟩,λ hg=>by have e:=Kg h43 hg;subst e;rfl⟩⟩] [] 1 [0,1,2,3,4,5,7,8,9] [0,2,3,7,8,9,121] hC [pq h37] ?_
      obtain⟨w4,h,hret4,hnext4⟩:=Av h
      refine wc w4 (Ag3 z3) (Ajt y1 y3 y5 z2 z3 y42) ?_ λ z4 hs4=>?_
      ·unfold Ak5 at h
       rcases cB h with⟨h44,h⟩ | ⟨h44,h⟩
       ·obtain⟨u46,h45,y47,h48,h⟩:=A9 h
        exact wx w4 (Ag3 z3) (Ajt y1 y3 y5 z2 z3 y42) Gz 23 [true] [⟨.nz y1.1,Ahj h45⟩,pa q49 3 h48] [] 1 [0,1,2,3,4,5,6,7,9] _ hC [pq h44] (sI h).symm
       ·exact wx w4 (Ag3 z3) (Ajt y1 y3 y5 z2 z3 y42) Gz 23 [false] [] [] 1 n9_ _ hC [pq h44] (sI h).symm
      ·clear h;have h:=hnext4 _ hs4
       obtain⟨y49,h50,y51,h52,y53,h54,h⟩:=By h
       obtain⟨y55,h56,y57,h58,h⟩:=A9 h
       refine wn Gz 28 [] [pc e65 (k65 y42.2 [0,5,20,40] _ h50) [0],⟨.nz 2,Qe rfl⟩,pc e65 (k65 y49.2 [0,w64 (Int.tdiv y49.1 2),y49.1] _ h52) [0],pc e60 (k60 y51.2 3 _ h54) [0],pc e64 (k64 y53.2 (-1) 2 _ h56) [0],⟨.whenR [(decide ((ln (Ds z3))>0),true)] (.call 60 [dO 0 0,dI 4] [.box 70 (d70 y55.2)] (dI y57.1) [.box 70 (d70 y57.2)] [0]),⟨λ hg=>⟨e60,(k60 y55.2 4 _ (A1 h58 hg))⟩,λ hg=>by have e:=Kg h58 hg;subst e;rfl⟩⟩] [.ownb 9 4 3 1] 1 Ao4 [0,2,3,7,8,11,155] hC [] ?_
       rcases cB h with⟨h59,h⟩ | ⟨h59,h⟩
       ·obtain⟨y60,h61,y62,h63,h⟩:=A9 h
        exact wx w3b (jR) (Aey y1 y3 y5 z2) Gz 26 [true] [pc e60 (k60 y57.2 (ln (Ds z3)) _ h61) [0],pa q90 5 h63] [] 1 [0,1,2,3,4,5,8,6,11] _ hC [pq h59] (sI h).symm
       ·refine wn Gz 2 [false] [] [.frz 10] 1 Ia [0,2,3,7,11] hC [pq h59] ?_
        obtain⟨y64,h65,h⟩:=Aw h
        exact wx w3b (jR) (Aey y1 y3 y5 z2) Gz 24 [] [pa q90 5 h65] [] 1 [0,1,2,3,4,5,8,6,10] _ hC [] (sI h).symm
     ·exact wx w3 (Ath) (Axc y1 y3 y5 z2) Gz 26 [false] [] [] 1 n9_ (z3.1,z3.2.1,z3.2.2.1,(g3_ z3),(Ds z3)) hC [pq h37] (hb3 _ (sI h).symm)
    ·have h:=hnext3 _ hs3
     replace h:=sI h
     subst h
     exact wr Gz 23 [] [] [] 1 [0,6,7,8] hC []
theorem e28:EN 28:=en Tryz.func28
def Db:List Nat:=[0,1,3,4,5,6,7,8,9,11,12,13,16,17,18,30,31,32,35,36,37,38,57,67,68,69,89,90,91,92,114,119,126]
def Yo (x1:Aa) (z0:Int×(List Int)×Int×(List Bool)):St:=[(0,dO 0 0),(3,dO 4 0),(4,dO 5 0),(5,dO 6 0),(16,dI (ln x1.Ad)),(17,dI z0.1)]
def Aau (x1:Aa) (z0:Int×(List Int)×Int×(List Bool)):List Res:=(.box 70 [DS pI z0.2.1,I z0.2.2.1]::zs x1 (.box 29 [I x1.Al,.os 1,.os 2,.os 3,I x1.Phase,I x1.Ar] :: .box 34 [.os 7,.os 8,.os 9,.os 10] :: .box 34 [.os 11,.os 12,.os 13,.os 14]::ze [v1_ (Gq z0),v4_ ([]:List Ag),v0_ ([]:List Int),v3_ ([]:List As)]))
def Ag2  (z0:Int×(List Int)×Int×(List Bool)):St:=[(0,dO 0 0),(3,dO 4 0),(4,dO 5 0),(5,dO 6 0)]
def Ajs (x1:Aa) (z0:Int×(List Int)×Int×(List Bool)):List Res:=(.box 70 [DS pI z0.2.1,I z0.2.2.1]::zs x1 (.box 29 [I x1.Al,.os 1,.os 2,.os 3,I x1.Phase,I x1.Ar] :: .box 34 [.os 7,.os 8,.os 9,.os 10] :: .box 34 [.os 11,.os 12,.os 13,.os 14]::ze [v1_ (Gq z0),v4_ ([]:List Ag),v0_ ([]:List Int),v3_ ([]:List As)]))
def Yn (x1:Aa) (z1:Int×(List Bool)):St:=[(0,dO 0 0),(3,dO 4 0),(4,dO 5 0),(5,dO 6 0),(30,dI (ln x1.Af)),(31,dI z1.1)]
def Aat (x1:Aa) (z0:Int×(List Int)×Int×(List Bool)) (z1:Int×(List Bool)):List Res:=(.box 70 [DS pI z0.2.1,I z0.2.2.1]::zs x1 (.box 29 [I x1.Al,.os 1,.os 2,.os 3,I x1.Phase,I x1.Ar] :: .box 34 [.os 7,.os 8,.os 9,.os 10] :: .box 34 [.os 11,.os 12,.os 13,.os 14]::ze [v1_ z1.2,v4_ ([]:List Ag),v0_ ([]:List Int),v3_ ([]:List As)]))
def Ag1  (z1:Int×(List Bool)):St:=[(0,dO 0 0),(3,dO 4 0),(4,dO 5 0),(5,dO 6 0)]
def Ajr (x1:Aa) (z0:Int×(List Int)×Int×(List Bool)) (z1:Int×(List Bool)):List Res:=(.box 70 [DS pI z0.2.1,I z0.2.2.1]::zs x1 (.box 29 [I x1.Al,.os 1,.os 2,.os 3,I x1.Phase,I x1.Ar] :: .box 34 [.os 7,.os 8,.os 9,.os 10] :: .box 34 [.os 11,.os 12,.os 13,.os 14]::ze [v1_ z1.2,v4_ ([]:List Ag),v0_ ([]:List Int),v3_ ([]:List As)]))
def Ri (x1:Aa) (z1:Int×(List Bool)) (n2:Nat) (z2:Bool×(List Bool)):St:=[(0,dO 0 0),(3,dO 4 0),(4,dO 5 0),(5,dO 6 0),(6,dI z1.1),(7,dB z2.1),(30,dI (ln x1.Af)),(31,dI z1.1),(35,dS 1),(36,dI (ln x1.Ad)),(37,dI (cnt 0 n2))]
def Xn (x1:Aa) (z0:Int×(List Int)×Int×(List Bool)) (n2:Nat) (z2:Bool×(List Bool)):List Res:=(.box 70 [DS pI z0.2.1,I z0.2.2.1]::zs x1 (.box 29 [I x1.Al,.os 1,.os 2,.os 3,I x1.Phase,I x1.Ar] :: .box 34 [.os 7,.os 8,.os 9,.os 10] :: .box 34 [.os 11,.os 12,.os 13,.os 14]::ze [v1_ z2.2,v4_ ([]:List Ag),v0_ ([]:List Int),v3_ ([]:List As)]))
def Ag0 (x1:Aa) (z1:Int×(List Bool)) (z2:Bool×(List Bool)):St:=[(0,dO 0 0),(3,dO 4 0),(4,dO 5 0),(5,dO 6 0),(30,dI (ln x1.Af)),(31,dI z1.1)]
def Ajq (x1:Aa) (z0:Int×(List Int)×Int×(List Bool)) (z2:Bool×(List Bool)):List Res:=(.box 70 [DS pI z0.2.1,I z0.2.2.1]::zs x1 (.box 29 [I x1.Al,.os 1,.os 2,.os 3,I x1.Phase,I x1.Ar] :: .box 34 [.os 7,.os 8,.os 9,.os 10] :: .box 34 [.os 11,.os 12,.os 13,.os 14]::ze [v1_ z2.2,v4_ ([]:List Ag),v0_ ([]:List Int),v3_ ([]:List As)]))
def Ym (x1:Aa) (z3:Sg5):St:=[(0,dO 0 0),(3,dO 4 0),(4,dO 5 0),(5,dO 6 0),(67,dI (ln x1.Ac)),(68,dI z3.1)]
def Aas (x1:Aa) (z1:Int×(List Bool)) (z3:Sg5):List Res:=(.box 70 [DS pI z3.2.1,I z3.2.2.1]::zs x1 (.box 29 [I x1.Al,.os 1,.os 2,.os 3,I x1.Phase,I x1.Ar] :: .box 34 [.os 7,.os 8,.os 9,.os 10] :: .box 34 [.os 11,.os 12,.os 13,.os 14]::ze [v1_ z1.2,v4_ (Gq z3),v0_ ([]:List Int),v3_ ([]:List As)]))
def Agz  (z3:Sg5):St:=[(0,dO 0 0),(3,dO 4 0),(4,dO 5 0),(5,dO 6 0)]
def Ajp (x1:Aa) (z1:Int×(List Bool)) (z3:Sg5):List Res:=(.box 70 [DS pI z3.2.1,I z3.2.2.1]::zs x1 (.box 29 [I x1.Al,.os 1,.os 2,.os 3,I x1.Phase,I x1.Ar] :: .box 34 [.os 7,.os 8,.os 9,.os 10] :: .box 34 [.os 11,.os 12,.os 13,.os 14]::ze [v1_ z1.2,v4_ (Gq z3),v0_ ([]:List Int),v3_ ([]:List As)]))
def Yl (x1:Aa) (n4:Nat) (z4:(List Int)×Int×(List Int)):St:=[(0,dO 0 0),(3,dO 4 0),(4,dO 5 0),(5,dO 6 0),(89,dS 3),(90,dI (ln x1.Af)),(91,dI (cnt 0 n4))]
def Aar (x1:Aa) (z1:Int×(List Bool)) (z3:Sg5) (n4:Nat) (z4:(List Int)×Int×(List Int)):List Res:=(.box 70 [DS pI z4.1,I z4.2.1]::zs x1 (.box 29 [I x1.Al,.os 1,.os 2,.os 3,I x1.Phase,I x1.Ar] :: .box 34 [.os 7,.os 8,.os 9,.os 10] :: .box 34 [.os 11,.os 12,.os 13,.os 14]::ze [v1_ z1.2,v4_ (Gq z3),v0_ z4.2.2,v3_ ([]:List As)]))
def Agy  (z4:(List Int)×Int×(List Int)):St:=[(0,dO 0 0),(3,dO 4 0),(4,dO 5 0),(5,dO 6 0)]
def Ajo (x1:Aa) (z1:Int×(List Bool)) (z3:Sg5) (z4:(List Int)×Int×(List Int)):List Res:=(.box 70 [DS pI z4.1,I z4.2.1]::zs x1 (.box 29 [I x1.Al,.os 1,.os 2,.os 3,I x1.Phase,I x1.Ar] :: .box 34 [.os 7,.os 8,.os 9,.os 10] :: .box 34 [.os 11,.os 12,.os 13,.os 14]::ze [v1_ z1.2,v4_ (Gq z3),v0_ z4.2.2,v3_ ([]:List As)]))
def Nn  (z5:Int×(List Int)×Int×(List As)):St:=[(0,dO 0 0),(3,dO 4 0),(4,dO 5 0),(5,dO 6 0),(12,dI z5.1)]
def Q2 (x1:Aa) (z1:Int×(List Bool)) (z3:Sg5) (z4:(List Int)×Int×(List Int)) (z5:Int×(List Int)×Int×(List As)):List Res:=(.box 70 [DS pI z5.2.1,I z5.2.2.1]::zs x1 (.box 29 [I x1.Al,.os 1,.os 2,.os 3,I x1.Phase,I x1.Ar] :: .box 34 [.os 7,.os 8,.os 9,.os 10] :: .box 34 [.os 11,.os 12,.os 13,.os 14]::ze [v1_ z1.2,v4_ (Gq z3),v0_ z4.2.2,v3_ (Gq z5)]))
def Agx  (z5:Int×(List Int)×Int×(List As)):St:=[(4,dO 4 0),(5,dO 5 0)]
def Ajn (x1:Aa) (z1:Int×(List Bool)) (z3:Sg5) (z4:(List Int)×Int×(List Int)) (z5:Int×(List Int)×Int×(List As)):List Res:=(.box 70 [DS pI z5.2.1,I z5.2.2.1]::zs x1 (.box 34 [.os 6,.os 7,.os 8,.os 9] :: .box 34 [.os 10,.os 11,.os 12,.os 13]::ze [v1_ z1.2,v4_ (Gq z3),v0_ z4.2.2,v3_ (Gq z5)]))
set_option maxHeartbeats 4000000 in
theorem A7s (x0 : Au) (x1 : Aa) (r : Ab × Au) (h : vU x0 x1 = some r) : CO 30 [.d (.o 0 0), .agg [I x1.Al, .os 1, .os 2, .os 3, I x1.Phase, I x1.Ar]] (.box 70 (d70 x0) :: zs x1 []) (.agg [.os 4, .os 5, .os 6, .os 7]) (.box 70 (d70 r.2) :: zs x1 (zp r.1 [])) := by
 unfold vU at h
 refine co 134 Tryz.func30 λ C hC=>?_
 refine ws Db 28 [] [pl q49 x1.Ad] [.ownb 5 0 4 1,.ownb 5 1 87 4,.ownb 5 2 3 1,.ownb 5 3 92 2,.ownb 6 0 4 1,.ownb 6 1 87 4,.ownb 6 2 3 1,.ownb 6 3 92 2] 4 Eo (Yo x1 (0,x0.L,x0.At,([]:List Bool))) (Aau x1 (0,x0.L,x0.At,([]:List Bool))) hC [] ?_
 obtain⟨w0,hm0,hret0,hnext0⟩:=Av h
 clear h
 refine wc w0 (Ag2) (Ajs x1) ?_ λ z0 hs0=>?_
 ·refine wb ?_
  refine ww (Yo x1) (Aau x1) hm0 λ z0 w0b h hb0 hr0=>?_
  unfold To at h
  rcases cB h with⟨h1,h⟩ | ⟨h1,h⟩
  ·obtain⟨y2,h3,y4,h5,h⟩:=A9 h
   exact wx w0b (Yo x1) (Aau x1) Db 31 [true] [pc e60 (k60 (⟨z0.2.1,z0.2.2.1⟩:Au) 2 _ h3) [0],pa pB 1 h5] [] 4 [0,1,2,3,4,5,6,7,8,9,10,15,12,13,14] _ hC [pq h1] (sI h).symm
  ·exact wx w0 (Ag2) (Ajs x1) Db 26 [false] [] [] 4 Eo (z0.1,z0.2.1,z0.2.2.1,(Gq z0)) hC [pq h1] (hb0 _ (sI h).symm)
 ·have h := hnext0 _ hs0
  refine ws Db 24 [] [pl q90 x1.Af] [] 4 Eo (Yn x1 (0,(Gq z0))) (Aat x1 z0 (0,(Gq z0))) hC [] ?_
  obtain⟨w1,hm1,hret1,hnext1⟩:=Av h
  clear h
  refine wc w1 (Ag1) (Ajr x1 z0) ?_ λ z1 hs1=>?_
  ·refine wb ?_
   refine ww (Yn x1) (Aat x1 z0) hm1 λ z1 w1b h hb1 hr1=>?_
   unfold Tn at h
   rcases cB h with⟨h6,h⟩ | ⟨h6,h⟩
   ·refine ws Db 34 [true] [pl q49 x1.Ad] [] 4 Eo (Ri x1 z1 0 (true,z1.2)) (Xn x1 z0 0 (true,z1.2)) hC [pq h6] ?_
    obtain⟨w2,hm2,hret2,hnext2⟩:=Av h
    clear h
    refine wc w2 (Ag0 x1 z1) (Ajq x1 z0) ?_ λ z2 hs2=>?_
    ·refine wb ?_
     refine B2 35 1 rfl rfl λ hl2=>?_
     refine wl (Ri x1 z1) (Xn x1 z0) hm2 (λ z2 hn2=>?_) λ n2 a2 z2 w2b hi2 hx2 h hb2 hr2=>?_
     ·clear hm2
      exact wx w2 (Ag0 x1 z1) (Ajq x1 z0) Db 26 [false] [] [] 4 Eo _ hC [pq (A6 hl2)] hn2
     ·unfold Tm at h
      obtain⟨y7,h8,h⟩:=Aw h
      refine wn Db 32 [true] [pr q49 (Bd hx2 hl2),pn q49 (Bd hx2 hl2),pR pB h8,pN pB h8] [] 4 Eo [0,3,4,5,6,7,8,30,31,35,36,37,57] hC [pq (A4 hi2 hl2)] ?_
      rcases cB h with⟨h9,h⟩ | ⟨h9,h⟩
      ·obtain⟨y10,h11,y12,h13,h⟩:=A9 h
       exact wx w2b (Ri x1 z1 (n2+1)) (Xn x1 z0 (n2+1)) Db 27 [true] [pr pB h11,pu pB h11 h13] [] 4 Eo _ hC [pq h9] (sI h).symm
      ·exact wx w2b (Ri x1 z1 (n2+1)) (Xn x1 z0 (n2+1)) Db 25 [false] [] [] 4 Eo _ hC [pq h9] (sI h).symm
    ·have h:=hnext2 _ hs2
     exact wx w1b (Yn x1) (Aat x1 z0) Db 23 [] [] [] 4 Eo _ hC [] (sI h).symm
   ·exact wx w1 (Ag1) (Ajr x1 z0) Db 26 [false] [] [] 4 Eo (z1.1,z1.2) hC [pq h6] (hb1 _ (sI h).symm)
  ·have h := hnext1 _ hs1
   refine ws Db 24 [] [pl q98 x1.Ac] [] 4 Eo (Ym x1 (0,z0.2.1,z0.2.2.1,([]:List Ag))) (Aas x1 z1 (0,z0.2.1,z0.2.2.1,([]:List Ag))) hC [] ?_
   obtain⟨w3,hm3,hret3,hnext3⟩:=Av h
   clear h
   refine wc w3 (Agz) (Ajp x1 z1) ?_ λ z3 hs3=>?_
   ·refine wb ?_
    refine ww (Ym x1) (Aas x1 z1) hm3 λ z3 w3b h hb3 hr3=>?_
    unfold Tl at h
    rcases cB h with⟨h14,h⟩ | ⟨h14,h⟩
    ·obtain⟨y15,h16,y17,h18,y19,h20,h⟩:=By h
     obtain⟨y21,h22,y23,h24,h⟩:=A9 h
     exact wx w3b (Ym x1) (Aas x1 z1) Db 31 [true] [pc e65 (k65 (⟨z3.2.1,z3.2.2.1⟩:Au) [0,1,2,2,2,3] _ h16) [0],pc e60 (k60 y15.2 5 _ h18) [0],pc e65 (k65 y17.2 [5000,5000,5005,4950] _ h20) [0],pc e65 (k65 y19.2 [0,0,40,1800,3590] _ h22) [0],pa q87 4 h24] [] 4 [0,1,2,3,4,5,6,7,8,9,10,11,15,13,14] _ hC [pq h14] (sI h).symm
    ·exact wx w3 (Agz) (Ajp x1 z1) Db 26 [false] [] [] 4 Eo (z3.1,z3.2.1,z3.2.2.1,(Gq z3)) hC [pq h14] (hb3 _ (sI h).symm)
   ·have h := hnext3 _ hs3
    refine ws Db 24 [] [pl q90 x1.Af] [] 4 Eo (Yl x1 0 (z3.2.1,z3.2.2.1,([]:List Int))) (Aar x1 z1 z3 0 (z3.2.1,z3.2.2.1,([]:List Int))) hC [] ?_
    obtain⟨w4,hm4,hret4,hnext4⟩:=Av h
    clear h
    refine wc w4 (Agy) (Ajo x1 z1 z3) ?_ λ z4 hs4=>?_
    ·refine wb ?_
     refine B2 89 3 rfl rfl λ hl4=>?_
     refine wl (Yl x1) (Aar x1 z1 z3) hm4 (λ z4 hn4=>?_) λ n4 a4 z4 w4b hi4 hx4 h hb4 hr4=>?_
     ·clear hm4
      exact wx w4 (Agy) (Ajo x1 z1 z3) Db 26 [false] [] [] 4 Eo _ hC [pq (A6 hl4)] hn4
     ·unfold Tk at h
      obtain⟨y25,h26,y27,h28,h⟩:=A9 h
      exact wx w4b (Yl x1 (n4+1)) (Aar x1 z1 z3 (n4+1)) Db 33 [true] [pr q90 (Bd hx4 hl4),pn q90 (Bd hx4 hl4),⟨.nz 3,Qe rfl⟩,pc e65 (k65 (⟨z4.1,z4.2.1⟩:Au) [a4.Load,a4.Load,a4.Least,w64 (Int.tdiv a4.Load 3)] _ h26) [0],pa pI 1 h28] [] 4 [0,1,2,3,4,5,6,7,8,9,10,11,12,16,14] _ hC [pq (A4 hi4 hl4)] (sI h).symm
    ·have h:=hnext4 _ hs4
     refine ws Db 24 [] [] [] 4 Eo (Nn (1,z4.1,z4.2.1,([]:List As))) (Q2 x1 z1 z3 z4 (1,z4.1,z4.2.1,([]:List As))) hC [] ?_
     obtain⟨w5,hm5,hret5,hnext5⟩:=Av h
     clear h
     refine wc w5 (Agx) (Ajn x1 z1 z3 z4) ?_ λ z5 hs5=>?_
     ·refine wb ?_
      refine ww (Nn) (Q2 x1 z1 z3 z4) hm5 λ z5 w5b h hb5 hr5=>?_
      unfold Tj at h
      rcases cB h with⟨h29,h⟩ | ⟨h29,h⟩
      ·obtain⟨y30,h31,h⟩:=Aw h
       rcases cB h with⟨h32,h⟩ | ⟨h32,h⟩
       ·obtain⟨y33,h34,h⟩:=Aw h
        refine wn Db 35 [true,true] [pc e60 (k60 (⟨z5.2.1,z5.2.2.1⟩:Au) 5 _ h31) [0],pc e60 (k60 y30.2 4 _ h34) [0],pb e47 (k47 x1 (⟨z5.1,y33.1⟩:As) _ rfl)] [] 4 Nw [0,3,4,5,12,13,126] hC [pq h29,pq h32] ?_
        rcases cB h with⟨h35,h⟩ | ⟨h35,h⟩
        ·obtain⟨y36,h37,h⟩:=Aw h
         exact wx w5b (Nn) (Q2 x1 z1 z3 z4) Db 25 [true] [pa q92 2 h37] [] 4 [0,1,2,3,4,5,6,7,8,9,10,11,12,13,16] _ hC [pq h35] (sI h).symm
        ·exact wx w5b (Nn) (Q2 x1 z1 z3 z4) Db 25 [false] [] [] 4 Eo _ hC [pq h35] (sI h).symm
       ·exact wx w5b (Nn) (Q2 x1 z1 z3 z4) Db 34 [true,false] [pc e60 (k60 (⟨z5.2.1,z5.2.2.1⟩:Au) 5 _ h31) [0]] [] 4 Eo _ hC [pq h29,pq h32] (sI h).symm
      ·exact wx w5 (Agx) (Ajn x1 z1 z3 z4) Db 26 [false] [] [] 4 [0,1,2,3,5,6,7,8,9,10,11,12,13,14] (z5.1,z5.2.1,z5.2.2.1,(Gq z5)) hC [pq h29] (hb5 _ (sI h).symm)
     ·have h:=hnext5 _ hs5
      replace h:=sI h
      subst h
      exact wr Db 23 [] [] [] 4 [0,1,2,3,10,11,12,13] hC []
theorem A78:EN 30:=en Tryz.func30
end Go.Proofs.YtcigbocngfaopaaGreat
