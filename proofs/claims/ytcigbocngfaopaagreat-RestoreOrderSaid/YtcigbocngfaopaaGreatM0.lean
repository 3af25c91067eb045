import Derived.Test.YtcigbocngfaopaaGreatRows
import Derived.Test.YtcigbocngfaopaaGreatMo
import Derived.Test.YtcigbocngfaopaaGreatBw
import Derived.Test.YtcigbocngfaopaaGreatIn
set_option linter.unusedVariables false
set_option maxHeartbeats 4000000
namespace Go.Proofs.YtcigbocngfaopaaGreat
open Go.SL
abbrev v0_ (l:List Int):Res:=.sl 3 1 (l.map pI)
abbrev v1_ (l:List Bool):Res:=.sl 4 1 (l.map pB)
abbrev v2_ (l:List Ak):Res:=.sl 47 3 (l.map q47)
abbrev v3_ (l:List As):Res:=.sl 92 2 (l.map q92)
abbrev v4_ (l:List Ai):Res:=.sl 87 4 (l.map q87)
abbrev v5_ (l:List Aj):Res:=.sl 62 3 (l.map q62)
abbrev v6_ (l:List Ag):Res:=.sl 49 3 (l.map q49)
abbrev v7_ (l:List Bc):Res:=.sl 98 3 (l.map q98)
abbrev v8_ (l:List A3):Res:=.sl 90 5 (l.map q90)
abbrev CO:=CallOk Tryz.prog
abbrev EN:=Gf Tryz.prog
abbrev E1 {α0 α1 α2 α3:Type} (z:α0×α1×α2×α3):α3:=z.2.2.2
abbrev g3_ {α0 α1 α2 α3 α4:Type} (z:α0×α1×α2×α3×α4):α3:=z.2.2.2.1
abbrev Gs {α0 α1 α2 α3 α4:Type} (z:α0×α1×α2×α3×α4):α4:=z.2.2.2.2
abbrev g4_ {α0 α1 α2 α3 α4 α5:Type} (z:α0×α1×α2×α3×α4×α5):α4:=z.2.2.2.2.1
abbrev g5_ {α0 α1 α2 α3 α4 α5 α6:Type} (z:α0×α1×α2×α3×α4×α5×α6):α5:=z.2.2.2.2.2.1
abbrev g6_ {α0 α1 α2 α3 α4 α5 α6 α7:Type} (z:α0×α1×α2×α3×α4×α5×α6×α7):α6:=z.2.2.2.2.2.2.1
abbrev g7_ {α0 α1 α2 α3 α4 α5 α6 α7 α8:Type} (z:α0×α1×α2×α3×α4×α5×α6×α7×α8):α7:=z.2.2.2.2.2.2.2.1
abbrev Ag8 {α0 α1 α2 α3 α4 α5 α6 α7 α8:Type} (z:α0×α1×α2×α3×α4×α5×α6×α7×α8):α8:=z.2.2.2.2.2.2.2.2
abbrev g8_ {α0 α1 α2 α3 α4 α5 α6 α7 α8 α9:Type} (z:α0×α1×α2×α3×α4×α5×α6×α7×α8×α9):α8:=z.2.2.2.2.2.2.2.2.1
abbrev g9_ {α0 α1 α2 α3 α4 α5 α6 α7 α8 α9 α10:Type} (z:α0×α1×α2×α3×α4×α5×α6×α7×α8×α9×α10):α9:=z.2.2.2.2.2.2.2.2.2.1
abbrev Gj {α0 α1 α2 α3 α4 α5 α6 α7 α8 α9 α10:Type} (z:α0×α1×α2×α3×α4×α5×α6×α7×α8×α9×α10):α10:=z.2.2.2.2.2.2.2.2.2.2
abbrev Cp {α0 α1 α2 α3 α4 α5 α6 α7 α8 α9 α10 α11:Type} (z:α0×α1×α2×α3×α4×α5×α6×α7×α8×α9×α10×α11):α10:=z.2.2.2.2.2.2.2.2.2.2.1
abbrev C7 {α0 α1 α2 α3 α4 α5 α6 α7 α8 α9 α10 α11:Type} (z:α0×α1×α2×α3×α4×α5×α6×α7×α8×α9×α10×α11):α11:=z.2.2.2.2.2.2.2.2.2.2.2
abbrev O8 {α0 α1 α2 α3 α4 α5 α6 α7 α8 α9 α10 α11 α12:Type} (z:α0×α1×α2×α3×α4×α5×α6×α7×α8×α9×α10×α11×α12):α11:=z.2.2.2.2.2.2.2.2.2.2.2.1
abbrev K9 {α0 α1 α2 α3 α4 α5 α6 α7 α8 α9 α10 α11 α12:Type} (z:α0×α1×α2×α3×α4×α5×α6×α7×α8×α9×α10×α11×α12):α12:=z.2.2.2.2.2.2.2.2.2.2.2.2
theorem sI {α:Type} {a b:α} (h:some a=some b):a=b:=bz h
abbrev zb (b:Aa) (l:List D):List D:=I b.Am::DS q49 b.Ad::DS q98 b.Ac::DS q90 b.Af::I b.Phase::I b.Au::l
abbrev zp (p:Ab) (l:List Res):List Res:=.sl 4 1 (p.Ae.map pB) :: .sl 87 4 (p.Ac.map q87) :: .sl 3 1 (p.Al.map pI) :: .sl 92 2 (p.Ah.map q92)::l
abbrev ze (l:List Res):List Res:=.sl 4 1 (([]:List Bool).map pB) :: .sl 87 4 (([]:List Ai).map q87) :: .sl 3 1 (([]:List Int).map pI) :: .sl 92 2 (([]:List As).map q92)::l
abbrev zs (b:Aa) (l:List Res):List Res:=.sl 49 3 (b.Ad.map q49) :: .sl 98 3 (b.Ac.map q98) :: .sl 90 5 (b.Af.map q90)::l
abbrev zt {α:Type} (b:Aa) (r:α):Int×List Ag×List Bc×List A3×Int×Int×α:=(b.Am,b.Ad,b.Ac,b.Af,b.Phase,b.Au,r)
abbrev zu {α:Type} (p:Ab) (r:α):List Bool×List Ai×List Int×List As×α:=(p.Ae,p.Ac,p.Al,p.Ah,r)
abbrev n3_:List Nat:=[0,1,2]
abbrev n4_:List Nat:=[0,1,2,3]
abbrev n5_:List Nat:=[0,1,2,3,4]
abbrev n6_:List Nat:=[0,1,2,3,4,5]
abbrev n7_:List Nat:=[0,1,2,3,4,5,6]
abbrev n8_:List Nat:=[0,1,2,3,4,5,6,7]
abbrev n9_:List Nat:=[0,1,2,3,4,5,6,7,8]
abbrev Jv:List Nat:=[0,1,2,3,4,5,6,7,8,9]
abbrev Anz:List Nat:=[0,1,2,3,4,5,6,7,8,9,10]
abbrev E0:List Nat:=[0,1,2,3,4,5,6,7,8,9,10,11]
abbrev Dm:List Nat:=[0,1,2,3,4,5,6,7,8,9,10,11,12]
abbrev Kn:List Nat:=[0,1,2,3,4,5,6,7,8,9,10,11,12,13]
abbrev Dl:List Nat:=[0,1,2,3,4,5,6,7,8,9,10,11,12,13,14]
abbrev I9:List Nat:=[0,1,2,3,4,5,6,7,8,9,10,11,12,13,14,15]
abbrev Ty:List Nat:=[0,1,2,3,4,5,6,7,8,9,10,11,12,13,14,15,16]
theorem I4:Tryz.prog.follows .mixedOrders=true:=by kernel_rfl
abbrev PC:={c:Cl // Cl.ok Tryz.prog c}
abbrev PB:={p:Bool×Bool // p.1=p.2}
theorem okP:∀ l:List PC,D9 Tryz.prog (l.map (·.1))
 | []=>trivial
 | c::l=>⟨c.2,okP l⟩
theorem okB:∀ l:List PB,D4 (l.map (·.1))
 | []=>trivial
 | ⟨(_,_),h⟩::l=>⟨h,okB l⟩
def pq {a b:Bool} (h:a=b):PB:=⟨(a,b),h⟩
def pc {f:FuncId} {args:List AV} {R R2:List Res} {res:AV} (e:Gf Tryz.prog f) (k:CallOk Tryz.prog f args R res R2) (pi:List Nat):PC:=⟨.call f args R res R2 pi,e,k⟩
def pb {f:FuncId} {args:List AV} {res:AV} (e:Gf Tryz.prog f) (k:CallOk Tryz.prog f args [] res []):PC:=⟨.callB f args res [[]] 0 [],T4 ⟨e,k⟩⟩
def pw {g:List (Bool×Bool)} {f:FuncId} {args:List AV} {R R2:List Res} {res:AV} (e:Gf Tryz.prog f) (k:D4 g->CallOk Tryz.prog f args R res R2) (pi:List Nat):PC:=⟨.when g (.call f args R res R2 pi),λ h=>⟨e,k h⟩⟩
def pv {g:List (Bool×Bool)} {f:FuncId} {args:List AV} {res:AV} (e:Gf Tryz.prog f) (k:D4 g->CallOk Tryz.prog f args [] res []):PC:=⟨.when g (.callB f args res [[]] 0 []),λ h=>T4 ⟨e,k h⟩⟩
section
variable {α:Type}
def pl (q:α->List Pd) (l:List α):PC:=⟨.len ((l.map q).length:Int) (l.length:Int),Wb l q⟩
def pL_ (g:List (Bool×Bool)) (q:α->List Pd) (l:List α):PC:=⟨.when g (.len ((l.map q).length:Int) (l.length:Int)),λ _=>Wb l q⟩
def pr (q:α->List Pd) {l:List α} {n:Int} {x:α} (h:getI l n=some x):PC:=⟨.row (l.map q) n (q x),Vz h⟩
def pn (q:α->List Pd) {l:List α} {n:Int} {x:α} (h:getI l n=some x):PC:=⟨.row (l.map q) ((n.toNat:Nat):Int) (q x),Ki h⟩
def pt {q:α->List Pd} {l:List α} {i:Nat} {x:α} (hx:l[i]? = some x) (hl:(l.map q).length<=maxLen):PC:=⟨.row (l.map q) (cnt 0 i) (q x),A02 hx hl⟩
def pR (q:α->List Pd) {g:List (Bool×Bool)} {l:List α} {n:Int} {x d:α} (h:Az g (getI l n) d=some x):PC:=⟨.when g (.row (l.map q) n (q x)),λ hg=>Vz (A1 h hg)⟩
def pN (q:α->List Pd) {g:List (Bool×Bool)} {l:List α} {n:Int} {x d:α} (h:Az g (getI l n) d=some x):PC:=⟨.when g (.row (l.map q) ((n.toNat:Nat):Int) (q x)),λ hg=>Ki (A1 h hg)⟩
def pa (q:α->List Pd) (size:Nat) {B:Nat} {l m y:List α} (h:appI (B+1) l m=some y) (hs:∀ x,(q x).length=size:=by exact λ _=>rfl):PC:=⟨.app (l.map q) (m.map q) size (((l.map q).length+(m.map q).length)*(B+1)) (y.map q),Ky q size hs h⟩
def pu (q:α->List Pd) {l y:List α} {n:Int} {x x':α} (hx:getI l n=some x) (h:setI l n x'=some y):PC:=⟨.upd (l.map q) n.toNat (q x) (q x') (y.map q),Ale hx h⟩
end
theorem ws {ro:Option Nat} {n:Nat} {C:Ctx} {Q:Exit->Act->World->Prop} {st:St} {R:List Res} {items:List It} (lv:List Nat) (fuel:Nat) (ds:List Bool) (cls:List PC) (adj:List Adj) (k:Nat) (pi:List Nat) (st':St) (R':List Res) (hk:C.h.length<=k) (bs:List PB) (hW:WI ro Tryz.prog n C Q (Ca fuel items ds) st' R') (h:He Tryz.prog n lv fuel items st R ds (cls.map (·.1)) adj k pi (O6 st')=some (st',R',cls.map (·.1),bs.map (·.1)):=by kernel_rfl):WI ro Tryz.prog n C Q items st R:=zJ I4 lv fuel ds (cls.map (·.1)) adj k pi st' R' hk (okP cls) (okB bs) h hW
def wo (o:Option (St×List Res×List Cl×List (Bool×Bool))):St×List Res:=match o with
 | some (s,r,_,_)=>(s,r)
 | none=>([],[])
theorem wn {ro:Option Nat} {n:Nat} {C:Ctx} {Q:Exit->Act->World->Prop} {st:St} {R:List Res} {items:List It} (lv:List Nat) (fuel:Nat) (ds:List Bool) (cls:List PC) (adj:List Adj) (k:Nat) (pi:List Nat) (ks:List Nat) (hk:C.h.length<=k) (bs:List PB) (hW:WI ro Tryz.prog n C Q (Ca fuel items ds) (wo (He Tryz.prog n lv fuel items st R ds (cls.map (·.1)) adj k pi ks)).1 (wo (He Tryz.prog n lv fuel items st R ds (cls.map (·.1)) adj k pi ks)).2) (h:(He Tryz.prog n lv fuel items st R ds (cls.map (·.1)) adj k pi ks).map (λ x=>(O6 x.1,x.2.2.1,x.2.2.2))=some (ks,cls.map (·.1),bs.map (·.1)):=by kernel_rfl):WI ro Tryz.prog n C Q items st R:=by
 cases e:He Tryz.prog n lv fuel items st R ds (cls.map (·.1)) adj k pi ks with
 | none=>rw [e] at h;cases h
 | some x=>
  obtain⟨s,r,c,b⟩:=x
  rw [e] at h hW
  simp only [bQ,al,aN] at h
  obtain⟨h1,h2,h3⟩:=h
  subst h1;subst h2;subst h3
  exact zJ I4 lv fuel ds _ adj k pi s r hk (okP cls) (okB bs) e hW
theorem we {ro:Option Nat} {n:Nat} {C:Ctx} {Q:Exit->Act->World->Prop} {st:St} {R:List Res} {items:List It} {σ:Type} {φ:σ->Prop} {st':σ->St} {R':σ->List Res} (lv:List Nat) (fuel:Nat) (ds:List Bool) (cls:List PC) (adj:List Adj) (k:Nat) (pi:List Nat) (s:σ) (hk:C.h.length<=k) (bs:List PB) (h1:φ s) (hi:hdK (Ca fuel items ds)=Ex n C φ st' R':=by kernel_rfl) (h:He Tryz.prog n lv fuel items st R ds (cls.map (·.1)) adj k pi (O6 (st' s))=some (st' s,R' s,cls.map (·.1),bs.map (·.1)):=by kernel_rfl):WI ro Tryz.prog n C Q items st R:=Auy I4 lv fuel ds (cls.map (·.1)) adj k pi s hk (okP cls) (okB bs) hi h h1
theorem wx {σ:Type} {τ:Type} (w:Ctl σ τ) (st':σ->St) (R':σ->List Res) {ro:Option Nat} {n:Nat} {C:Ctx} {Q:Exit->Act->World->Prop} {st:St} {R:List Res} {items:List It} (lv:List Nat) (fuel:Nat) (ds:List Bool) (cls:List PC) (adj:List Adj) (k:Nat) (pi:List Nat) (s:σ) (hk:C.h.length<=k) (bs:List PB) (h1:w = .next s) (hi:hdK (Ca fuel items ds)=Ex n C (λ s'=>w = .next s') st' R':=by kernel_rfl) (h:He Tryz.prog n lv fuel items st R ds (cls.map (·.1)) adj k pi (O6 (st' s))=some (st' s,R' s,cls.map (·.1),bs.map (·.1)):=by kernel_rfl):WI ro Tryz.prog n C Q items st R:=Auy I4 lv fuel ds (cls.map (·.1)) adj k pi s hk (okP cls) (okB bs) hi h h1
theorem wc {ro:Option Nat} {n:Nat} {C:Ctx} {Q:Exit->Act->World->Prop} {st:St} {R:List Res} {items:List It} {σ τ:Type} (w:Ctl σ τ) (st':σ->St) (R':σ->List Res) (h:WI ro Tryz.prog n C Q (.c (hdC items) :: .k (Ex n C (λ s=>w = .next s) st' R')::tlI items) st R) (hK:∀ s,w = .next s->WI ro Tryz.prog n C Q (tlI items) (st' s) (R' s)) (hi:isC items=true:=by kernel_rfl):WI ro Tryz.prog n C Q items st R:=A5b hi _ st' R' h hK
theorem A_ {α β γ:Type} {o:Option α} {f:α->Option β} {g:α->β->Option γ} {r:γ} (h:(o.bind λ a=>(f a).bind λ b=>g a b)=some r):∃ a,o=some a/\∃ b,f a=some b/\g a b=some r:=by
 obtain⟨a,h1,h⟩:=Aw h
 obtain⟨b,h2,h⟩:=Aw h
 exact⟨a,h1,b,h2,h⟩
theorem Bw {α β γ δ:Type} {o:Option α} {f:α->Option β} {g:α->β->Option γ} {k:α->β->γ->Option δ} {r:δ} (h:(o.bind λ a=>(f a).bind λ b=>(g a b).bind λ c=>k a b c)=some r):∃ a,o=some a/\∃ b,f a=some b/\∃ c,g a b=some c/\k a b c=some r:=by
 obtain⟨a,h1,h⟩:=Aw h
 obtain⟨b,h2,c,h3,h⟩:=A_ h
 exact⟨a,h1,b,h2,c,h3,h⟩
theorem C8 {α β γ δ ε:Type} {o:Option α} {f:α->Option β} {g:α->β->Option γ} {k:α->β->γ->Option δ} {l:α->β->γ->δ->Option ε} {r:ε} (h:(o.bind λ a=>(f a).bind λ b=>(g a b).bind λ c=>(k a b c).bind λ d=>l a b c d)=some r):∃ a,o=some a/\∃ b,f a=some b/\∃ c,g a b=some c/\∃ d,k a b c=some d/\l a b c d=some r:=by
 obtain⟨a,h1,h⟩:=Aw h
 obtain⟨b,h2,c,h3,d,h4,h⟩:=Bw h
 exact⟨a,h1,b,h2,c,h3,d,h4,h⟩
theorem wl {ro:Option Nat} {n:Nat} {C:Ctx} {Q:Exit->Act->World->Prop} {st:St} {R:List Res} {α σ τ:Type} {items:List It} {f:Nat->α->σ->Option (Ctl σ τ)} (stF:Nat->σ->St) (RF:Nat->σ->List Res) {r:Ctl σ τ} {xs:List α} {s:σ} (hm:foldI f xs 0 s=some r) (hnil:∀ s,r = .next s->WI ro Tryz.prog n C Q (.c (lpC items) :: .k (λ _ _=>False)::tlI items) (stF xs.length s) (RF xs.length s)) (hcons:∀ i x s k,i<xs.length->xs[i]? = some x->f i x s=some k->(∀ s',k = .brk s'->r = .next s')->(∀ v,k = .ret v->r = .ret v)->WI ro Tryz.prog n C Q (.c (lpC items) :: .k (Ex n C (λ s'=>k = .next s') (stF (i+1)) (RF (i+1)))::tlI items) (stF i s) (RF i s)) (hi:isL items=true:=by kernel_rfl) (h0:st=stF 0 s:=by rfl) (h1:R=RF 0 s:=by rfl):WI ro Tryz.prog n C Q items st R:=Ay4 hi f stF RF r xs s hm h0 h1 hnil hcons
theorem ww {ro:Option Nat} {n:Nat} {C:Ctx} {Q:Exit->Act->World->Prop} {st:St} {R:List Res} {σ τ:Type} {items:List It} {f:σ->Option (Ctl σ τ)} (stF:σ->St) (RF:σ->List Res) {r:Ctl σ τ} {fuel:Nat} {s:σ} (hm:whileN f fuel s=some r) (h:∀ s k,f s=some k->(∀ s',k = .brk s'->r = .next s')->(∀ v,k = .ret v->r = .ret v)->WI ro Tryz.prog n C Q (.c (lpC items) :: .k (Ex n C (λ s'=>k = .next s') stF RF)::tlI items) (stF s) (RF s)) (hi:isL items=true:=by kernel_rfl) (h0:st=stF s:=by rfl) (h1:R=RF s:=by rfl):WI ro Tryz.prog n C Q items st R:=Ay2 hi f stF RF r fuel s hm h0 h1 h
theorem cB {α:Type} {c:Bool} {x y z:α} (h:(bif c then x else y)=z):(c=true/\x=z)\/(c=false/\y=z):=by cases c;exact .inr ⟨rfl,h⟩;exact .inl ⟨rfl,h⟩
theorem wb {ro:Option Nat} {n:Nat} {C:Ctx} {Q:Exit->Act->World->Prop} {st:St} {R:List Res} {items:List It} (h:WI ro Tryz.prog n C Q (.c (A45 items) :: .b (A44 items)::tlI items) st R) (hi:isB items=true:=by kernel_rfl):WI ro Tryz.prog n C Q items st R:=A5c hi h
theorem co {f:FuncId} {fn:Func} {c:Code} {args:List AV} {res:AV} {R R2:List Res} (n:Nat) (hf:Tryz.prog.funcs[f]? = some fn) (h:∀ C:Ctx,C.h.length<=R.length->WI none Tryz.prog n C.z (Pe Tryz.prog fn C.z res R2) [.c c] (qW 0 args) R) (hb:fn.body=some c:=by rfl) (hn:fn.ntmps=n:=by rfl) (hl:Nat.ble args.length n=true:=by rfl):CallOk Tryz.prog f args R res R2:=Aui n hf hb hn hl h
theorem wr {ro:Option Nat} {n:Nat} {C:Ctx} {st:St} {R:List Res} {fn:Func} {res:AV} {R2:List Res} {items:List It} (lv:List Nat) (fuel:Nat) (ds:List Bool) (cls:List PC) (adj:List Adj) (k:Nat) (pi:List Nat) (hk:C.h.length<=k) (bs:List PB) (h:Zh Tryz.prog n lv fuel items st R ds (cls.map (·.1)) adj fn.results.toList k pi=some (res,R2,cls.map (·.1),bs.map (·.1)):=by kernel_rfl):WI ro Tryz.prog n C.z (Pe Tryz.prog fn C.z res R2) items st R:=qY I4 lv fuel ds (cls.map (·.1)) adj _ k pi rfl hk (okP cls) (okB bs) h
theorem wf {ro:Option Nat} {n:Nat} {C:Ctx} {st:St} {R:List Res} {fn:Func} {res:AV} {R2:List Res} {items:List It} (lv:List Nat) (fuel:Nat) (ds:List Bool) (cls:List PC) (adj:List Adj) (k:Nat) (pi:List Nat) (hk:C.h.length<=k) (bs:List PB) (hn:Axj (Ca fuel items ds)=true:=by kernel_rfl) (h:Zi Tryz.prog n lv fuel items st R ds (cls.map (·.1)) adj fn.results.toList k pi=some (res,R2,cls.map (·.1),bs.map (·.1)):=by kernel_rfl):WI ro Tryz.prog n C.z (Pe Tryz.prog fn C.z res R2) items st R:=A14 I4 lv fuel ds (cls.map (·.1)) adj _ k pi rfl hk (okP cls) (okB bs) hn h
theorem en {f : FuncId} {fn : Func} (hf : Tryz.prog.funcs[f]? = some fn) (hb : fn.body.isNone = false := by kernel_rfl) (hn : (fn.name == "runtime.NumGoroutine") = false := by kernel_rfl) : Gf Tryz.prog f := Go.SL.Abv hf hb hn
abbrev ln {α:Type} (l:List α):Int:=(l.length:Int)
abbrev dI (x:Int):AV:=.d (I x)
abbrev dB (x:Bool):AV:=.d (Bo x)
abbrev dO (a b:Nat):AV:=.d (.o a b)
abbrev dS (a:Nat):AV:=.d (.os a)
theorem k6 (x0:List Int) (r:Ap) (h:F6 x0=some r):CO 6 [.d (DS pI x0)] [] (.d (.o 0 0)) [.box 70 (d70 r)]:=by
 unfold F6 at h
 refine co 10 Tryz.func6 λ C hC=>?_
 obtain⟨y2,h1,h⟩:=Aw h
 replace h:=sI h
 subst h
 exact wr [0,2] 25 [] [pl pI x0,⟨.cut (x0.map pI) 1 0 (min (ln x0) 600) (y2.map pI),Amf pI 1 (λ _=>rfl) h1⟩] [] 0 [0] hC []
theorem e6:EN 6:=en Tryz.func6
theorem A7b (x0:Int) (x1:Int) (r:Int) (h:Akp x0 x1=some r):CO 107 [.d (I x0),.d (I x1)] [] (.d (I r)) []:=by
 unfold Akp at h
 refine co 14 Tryz.func107 λ C hC=>?_
 rcases cB h with⟨h1,h⟩ | ⟨h1,h⟩
 ·replace h:=sI h
  subst h
  exact wr [0,1,4,6] 29 [true] [] [] 0 [] hC [pq h1]
 ·obtain⟨u3,h2,u5,h4,h⟩:=A_ h
  replace h:=sI h
  subst h
  exact wr [0,1,4,6] 30 [false] [⟨.nz x1,Agm h2⟩,⟨.nz x1,Agm h4⟩] [] 0 [] hC [pq h1]
theorem A7z:EN 107:=en Tryz.func107
theorem k46 (x0:Int) (x1:Int) (x2:Int) (r:Bool) (h:F46 x0 x1 x2=r):CO 46 [.d (I x0),.d (I x1),.d (I x2)] [] (.d (Bo r)) []:=by
 unfold F46 at h
 refine co 15 Tryz.func46 λ C hC=>?_
 subst h
 exact wr [0,1,2,6] 25 [] [] [] 0 [] hC []
theorem e46:EN 46:=en Tryz.func46
def Agy:List Nat:=[0,1,2,3,6,7,8,9,11,12,13,14,37]
def Zw (x0:Aa) (x1:Int) (x2:Int) (n0:Nat) (z0:(List Int)):St:=[(1,dI x1),(2,dI x2),(6,.d (DS pI [])),(7,dS 0),(11,.d (DS q49 x0.Ad)),(12,dI (ln x0.Ad)),(13,dI (cnt 0 n0))]
def Ad2  (n0:Nat) (z0:(List Int)):List Res:=[v0_ z0]
def Asb  (z0:(List Int)):St:=[(6,.d (DS pI [])),(7,dS 0)]
def Avy  (z0:(List Int)):List Res:=[v0_ z0]
theorem k49 (x0:Aa) (x1:Int) (x2:Int) (r:(List Int)) (h:F49 x0 x1 x2=some r):CO 49 [.agg (d29 x0),.d (I x1),.d (I x2)] [] (.d (.os 0)) [v0_ r]:=by
 unfold F49 at h
 refine co 44 Tryz.func49 λ C hC=>?_
 refine ws Agy 28 [] [pl q49 x0.Ad] [.own 7 3 1] 0 [1] (Zw x0 x1 x2 0 ([]:List Int)) (Ad2 0 ([]:List Int)) hC [] ?_
 obtain⟨w0,hm0,hret0,hnext0⟩:=Av h
 clear h
 refine wc w0 (Asb) (Avy) ?_ λ z0 hs0=>?_
 ·refine wb ?_
  refine Bq 11 rfl λ hl0=>?_
  refine wl (Zw x0 x1 x2) (Ad2) hm0 (λ z0 hn0=>?_) λ n0 a0 z0 w0b hi0 hx0 h hb0 hr0=>?_
  ·clear hm0
   exact wx w0 (Asb) (Avy) Agy 26 [false] [] [] 0 [0] _ hC [pq (A5 hl0)] hn0
  ·unfold Aj5 at h
   rcases cB h with⟨h1,h⟩ | ⟨h1,h⟩
   ·obtain⟨y2,h3,h⟩:=Aw h
    exact wx w0b (Zw x0 x1 x2 (n0+1)) (Ad2 (n0+1)) Agy 36 [true,true] [pt hx0 hl0,pa pI 1 h3] [] 0 [2] _ hC [pq (A4 hi0 hl0),pq h1] (sI h).symm
   ·exact wx w0b (Zw x0 x1 x2 (n0+1)) (Ad2 (n0+1)) Agy 36 [true,false] [pt hx0 hl0] [] 0 [0] _ hC [pq (A4 hi0 hl0),pq h1] (sI h).symm
 ·have h:=hnext0 _ hs0
  replace h:=sI h
  subst h
  exact wr Agy 23 [] [] [] 0 [0] hC []
theorem e49:EN 49:=en Tryz.func49
theorem k48 (x0:As) (x1:As) (r:Bool) (h:F48 x0 x1=r):CO 48 [.agg (d92 x0),.agg (d92 x1)] [] (.d (Bo r)) []:=by
 unfold F48 at h
 refine co 24 Tryz.func48 λ C hC=>?_
 subst h
 exact wr n5_ 25 [] [] [] 0 [] hC []
theorem e48:EN 48:=en Tryz.func48
theorem Axz (x0:Ab) (r:Ab) (h:Ze x0=some r):CO 117 [.agg (d34 x0)] [] (.agg [.os 0,.os 1,.os 2,.os 3]) (zp r []):=by
 unfold Ze at h
 refine co 16 Tryz.func117 λ C hC=>?_
 obtain⟨y1,h2,y3,h4,y5,h6,y7,h8,h⟩:=C8 h
 replace h:=sI h
 subst h
 exact wr n3_ 25 [] [⟨.app [] (x0.Ae.map pB) 1 ((x0.Ae.map pB).length*(1+1)) (y1.map pB),Rw pB 1 (λ _=>rfl) h2⟩,⟨.app [] (x0.Ac.map q87) 4 ((x0.Ac.map q87).length*(32+1)) (y3.map q87),Rw q87 4 (λ _=>rfl) h4⟩,⟨.app [] (x0.Al.map pI) 1 ((x0.Al.map pI).length*(8+1)) (y5.map pI),Rw pI 1 (λ _=>rfl) h6⟩,⟨.app [] (x0.Ah.map q92) 2 ((x0.Ah.map q92).length*(16+1)) (y7.map q92),Rw q92 2 (λ _=>rfl) h8⟩] [] 0 [3,5,7,9] hC []
theorem Ayh:EN 117:=en Tryz.func117
def Ag0:List Nat:=[0,1,2,3,6,8,10,11,12,13,25]
def Afd (x0:Ab) (x1:Int) (x2:Int) (n0:Nat) (z0:Unit):St:=[(1,dI x1),(2,dI x2),(6,dB false),(10,.d (DS q92 x0.Ah)),(11,dI (ln x0.Ah)),(12,dI (cnt 0 n0))]
def Ap4  (n0:Nat) (z0:Unit):List Res:=[]
def Asp  (z0:Unit):St:=[(6,dB false)]
def Awc  (z0:Unit):List Res:=[]
theorem k15 (x0:Ab) (x1:Int) (x2:Int) (r:Bool) (h:F15 x0 x1 x2=some r):CO 15 [.agg (d34 x0),.d (I x1),.d (I x2)] [] (.d (Bo r)) []:=by
 unfold F15 at h
 refine co 27 Tryz.func15 λ C hC=>?_
 refine ws Ag0 26 [] [pl q92 x0.Ah] [] 0 [] (Afd x0 x1 x2 0 ()) (Ap4 0 ()) hC [] ?_
 obtain⟨w0,hm0,hret0,hnext0⟩:=Av h
 clear h
 refine wc w0 (Asp) (Awc) ?_ λ z0 hs0=>?_
 ·refine wb ?_
  refine Bq 10 rfl λ hl0=>?_
  refine wl (Afd x0 x1 x2) (Ap4) hm0 (λ z0 hn0=>?_) λ n0 a0 z0 w0b hi0 hx0 h hb0 hr0=>?_
  ·clear hm0
   exact wx w0 (Asp) (Awc) Ag0 26 [false] [] [] 0 [] _ hC [pq (A5 hl0)] hn0
  ·unfold uY at h
   rcases cB h with⟨h1,h⟩ | ⟨h1,h⟩
   ·have hq:=hret0 _ (hr0 _ (sI h).symm)
    replace hq:=sI hq
    subst hq
    exact wr Ag0 35 [true,true] [pt hx0 hl0] [] 0 [] hC [pq (A4 hi0 hl0),pq h1]
   ·exact wx w0b (Afd x0 x1 x2 (n0+1)) (Ap4 (n0+1)) Ag0 36 [true,false] [pt hx0 hl0] [] 0 [] _ hC [pq (A4 hi0 hl0),pq h1] (sI h).symm
 ·have h:=hnext0 _ hs0
  replace h:=sI h
  subst h
  exact wr Ag0 23 [] [] [] 0 [] hC []
theorem e15:EN 15:=en Tryz.func15
def Kq:List Nat:=[0,1,2,3,4,6,7,8,9,10,11,19,20,21,23,24,25,26,53,65,66,67,72]
def Ael (y5:List Bool) (n0:Nat) (z0:(List Bool)):St:=[(3,dO 0 0),(4,dO 1 0),(6,.d (DS pI [])),(7,dS 2),(19,dI (ln y5)),(20,dI (cnt 0 n0))]
def Apa (x0:Aa) (x1:Ab) (n0:Nat) (z0:(List Bool)):List Res:=[.box 29 (d29 x0),.box 34 (d34 x1),v1_ z0]
def Arf  (z0:(List Bool)):St:=[(6,.d (DS pI [])),(7,dS 0)]
def Au2  (z0:(List Bool)):List Res:=[v1_ z0]
def Zm (x0:Aa) (y5:List Bool) (n0:Nat) (n1:Nat) (z1:(List Bool)):St:=[(3,dO 0 0),(4,dO 1 0),(6,.d (DS pI [])),(7,dS 2),(19,dI (ln y5)),(20,dI (cnt 0 n0)),(23,.d (DS q49 x0.Ad)),(24,dI (ln x0.Ad)),(25,dI (cnt 0 n1))]
def Ads (x0:Aa) (x1:Ab) (n1:Nat) (z1:(List Bool)):List Res:=[.box 29 (d29 x0),.box 34 (d34 x1),v1_ z1]
def Are (y5:List Bool) (n0:Nat) (z1:(List Bool)):St:=[(3,dO 0 0),(4,dO 1 0),(6,.d (DS pI [])),(7,dS 2),(19,dI (ln y5)),(20,dI (cnt 0 n0))]
def Au1 (x0:Aa) (x1:Ab) (z1:(List Bool)):List Res:=[.box 29 (d29 x0),.box 34 (d34 x1),v1_ z1]
def Zl (z0:(List Bool)) (n2:Nat) (z2:(List Int)):St:=[(6,.d (DS pI [])),(7,dS 0),(10,dS 1),(65,dI (ln z0)),(66,dI (cnt 0 n2))]
def Adr (z0:(List Bool)) (n2:Nat) (z2:(List Int)):List Res:=[v1_ z0,v0_ z2]
def Ard  (z2:(List Int)):St:=[(6,.d (DS pI [])),(10,dS 0)]
def Au0  (z2:(List Int)):List Res:=[v0_ z2]
theorem k98 (x0:Aa) (x1:Ab) (x2:Int) (r:(List Int)) (h:F98 x0 x1 x2=some r):CO 98 [.agg (d29 x0),.agg (d34 x1),.d (I x2)] [] (.d (.os 0)) [v0_ r]:=by
 unfold F98 at h
 refine co 79 Tryz.func98 λ C hC=>?_
 obtain⟨y1,h2,y3,h4,y5,h6,h⟩:=Bw h
 refine ws Kq 30 [] [⟨.room (x0.Am*(1+1)) (List.replicate (Int.toNat x0.Am) (pB false)) (y1.map pB),Ko h2⟩,pr pB h4,pu pB h4 h6,pl pB y5] [] 0 n3_ (Ael y5 0 y5) (Apa x0 x1 0 y5) hC [] ?_
 obtain⟨w0,hm0,hret0,hnext0⟩:=Av h
 clear h
 refine wc w0 (Arf) (Au2) ?_ λ z0 hs0=>?_
 ·refine wb ?_
  refine B1 7 2 rfl rfl λ hl0=>?_
  refine wl (Ael y5) (Apa x0 x1) hm0 (λ z0 hn0=>?_) λ n0 a0 z0 w0b hi0 hx0 h hb0 hr0=>?_
  ·clear hm0
   exact wx w0 (Arf) (Au2) Kq 26 [false] [] [] 0 [2] _ hC [pq (A5 hl0)] hn0
  ·unfold Ajc at h
   refine ws Kq 30 [true] [pl q49 x0.Ad] [] 0 n3_ (Zm x0 y5 n0 0 z0) (Ads x0 x1 0 z0) hC [pq (A4 hi0 hl0)] ?_
   obtain⟨w1,hm1,hret1,hnext1⟩:=Av h
   clear h
   refine wc w1 (Are y5 n0) (Au1 x0 x1) ?_ λ z1 hs1=>?_
   ·refine wb ?_
    refine Bq 23 rfl λ hl1=>?_
    refine wl (Zm x0 y5 n0) (Ads x0 x1) hm1 (λ z1 hn1=>?_) λ n1 a1 z1 w1b hi1 hx1 h hb1 hr1=>?_
    ·clear hm1
     exact wx w1 (Are y5 n0) (Au1 x0 x1) Kq 26 [false] [] [] 0 n3_ _ hC [pq (A5 hl1)] hn1
    ·unfold Ajb at h
     obtain⟨y7,h8,y9,h10,y11,h12,h⟩:=Bw h
     refine wn Kq 32 [true] [pt hx1 hl1,pR pB h8,pR pB h10,pN pB h10,pR pB h12,pN pB h12] [] 0 n4_ [3,4,6,7,9,19,20,23,24,25,53] hC [pq (A4 hi1 hl1)] ?_
     rcases cB h with⟨h13,h⟩ | ⟨h13,h⟩
     ·obtain⟨y14,h15,y16,h17,y18,h19,y20,h21,h⟩:=C8 h
      exact wx w1b (Zm x0 y5 n0 (n1+1)) (Ads x0 x1 (n1+1)) Kq 25 [true] [pr pB h15,pu pB h15 h17,pr pB h19,pu pB h19 h21] [] 0 n3_ _ hC [pq h13] (sI h).symm
     ·exact wx w1b (Zm x0 y5 n0 (n1+1)) (Ads x0 x1 (n1+1)) Kq 25 [false] [] [] 0 n3_ _ hC [pq h13] (sI h).symm
   ·have h:=hnext1 _ hs1
    exact wx w0b (Ael y5 (n0+1)) (Apa x0 x1 (n0+1)) Kq 23 [] [] [] 0 n3_ _ hC [] (sI h).symm
 ·have h:=hnext0 _ hs0
  refine ws Kq 26 [] [pl pB z0] [.own 10 3 1] 0 [0,1] (Zl z0 0 ([]:List Int)) (Adr z0 0 ([]:List Int)) hC [] ?_
  obtain⟨w2,hm2,hret2,hnext2⟩:=Av h
  clear h
  refine wc w2 (Ard) (Au0) ?_ λ z2 hs2=>?_
  ·refine wb ?_
   refine B1 7 0 rfl rfl λ hl2=>?_
   refine wl (Zl z0) (Adr z0) hm2 (λ z2 hn2=>?_) λ n2 a2 z2 w2b hi2 hx2 h hb2 hr2=>?_
   ·clear hm2
    exact wx w2 (Ard) (Au0) Kq 26 [false] [] [] 0 [1] _ hC [pq (A5 hl2)] hn2
   ·unfold Aja at h
    rcases cB h with⟨h22,h⟩ | ⟨h22,h⟩
    ·obtain⟨y23,h24,h⟩:=Aw h
     exact wx w2b (Zl z0 (n2+1)) (Adr z0 (n2+1)) Kq 36 [true,true] [pr pB (Bb hx2 hl2),pn pB (Bb hx2 hl2),pa pI 1 h24] [] 0 [0,2] _ hC [pq (A4 hi2 hl2),pq h22] (sI h).symm
    ·exact wx w2b (Zl z0 (n2+1)) (Adr z0 (n2+1)) Kq 36 [true,false] [pr pB (Bb hx2 hl2),pn pB (Bb hx2 hl2)] [] 0 [0,1] _ hC [pq (A4 hi2 hl2),pq h22] (sI h).symm
  ·have h:=hnext2 _ hs2
   replace h:=sI h
   subst h
   exact wr Kq 23 [] [] [] 0 [0] hC []
theorem e98:EN 98:=en Tryz.func98
def Agw:List Nat:=[0,1,4,6,7,8,9,10,15]
def Ae2 (x0:List Int) (x1:Int) (n0:Nat) (z0:Unit):St:=[(1,dI x1),(4,dB false),(7,.d (DS pI x0)),(8,dI (ln x0)),(9,dI (cnt 0 n0))]
def Apr  (n0:Nat) (z0:Unit):List Res:=[]
def Ar6  (z0:Unit):St:=[(4,dB false)]
def Avt  (z0:Unit):List Res:=[]
theorem k53 (x0:List Int) (x1:Int) (r:Bool) (h:F53 x0 x1=some r):CO 53 [.d (DS pI x0),.d (I x1)] [] (.d (Bo r)) []:=by
 unfold F53 at h
 refine co 17 Tryz.func53 λ C hC=>?_
 refine ws Agw 26 [] [pl pI x0] [] 0 [] (Ae2 x0 x1 0 ()) (Apr 0 ()) hC [] ?_
 obtain⟨w0,hm0,hret0,hnext0⟩:=Av h
 clear h
 refine wc w0 (Ar6) (Avt) ?_ λ z0 hs0=>?_
 ·refine wb ?_
  refine Bq 7 rfl λ hl0=>?_
  refine wl (Ae2 x0 x1) (Apr) hm0 (λ z0 hn0=>?_) λ n0 a0 z0 w0b hi0 hx0 h hb0 hr0=>?_
  ·clear hm0
   exact wx w0 (Ar6) (Avt) Agw 26 [false] [] [] 0 [] _ hC [pq (A5 hl0)] hn0
  ·unfold uL at h
   rcases cB h with⟨h1,h⟩ | ⟨h1,h⟩
   ·have hq:=hret0 _ (hr0 _ (sI h).symm)
    replace hq:=sI hq
    subst hq
    exact wr Agw 35 [true,true] [pt hx0 hl0] [] 0 [] hC [pq (A4 hi0 hl0),pq h1]
   ·exact wx w0b (Ae2 x0 x1 (n0+1)) (Apr (n0+1)) Agw 36 [true,false] [pt hx0 hl0] [] 0 [] _ hC [pq (A4 hi0 hl0),pq h1] (sI h).symm
 ·have h:=hnext0 _ hs0
  replace h:=sI h
  subst h
  exact wr Agw 23 [] [] [] 0 [] hC []
theorem e53:EN 53:=en Tryz.func53
theorem k93 (x0:Int) (x1:Int) (x2:Int) (r:Bool) (h:F93 x0 x1 x2=r):CO 93 [.d (I x0),.d (I x1),.d (I x2)] [] (.d (Bo r)) []:=by
 unfold F93 at h
 refine co 15 Tryz.func93 λ C hC=>?_
 subst h
 exact wr [0,1,2,6] 25 [] [] [] 0 [] hC []
theorem e93:EN 93:=en Tryz.func93
def jP:List Nat:=[0,1,4,5,7,8,9,16]
def vQ (x0:List Int) (x1:Int) (n0:Nat) (z0:Unit):St:=[(0,.d (DS pI x0)),(1,dI x1),(4,dI 0),(7,dI (ln x0)),(8,dI (cnt 0 n0))]
def Ai4  (n0:Nat) (z0:Unit):List Res:=[]
def Aly  (z0:Unit):St:=[(4,dI 0)]
def Am2  (z0:Unit):List Res:=[]
theorem A7c (x0:List Int) (x1:Int) (r:Int) (h:Aqp x0 x1=some r):CO 106 [.d (DS pI x0),.d (I x1)] [] (.d (I r)) []:=by
 unfold Aqp at h
 refine co 19 Tryz.func106 λ C hC=>?_
 refine ws jP 26 [] [pl pI x0] [] 0 [] (vQ x0 x1 0 ()) (Ai4 0 ()) hC [] ?_
 obtain⟨w0,hm0,hret0,hnext0⟩:=Av h
 clear h
 refine wc w0 (Aly) (Am2) ?_ λ z0 hs0=>?_
 ·refine wb ?_
  refine Bq 0 rfl λ hl0=>?_
  refine wl (vQ x0 x1) (Ai4) hm0 (λ z0 hn0=>?_) λ n0 a0 z0 w0b hi0 hx0 h hb0 hr0=>?_
  ·clear hm0
   exact wx w0 (Aly) (Am2) jP 26 [false] [] [] 0 [] _ hC [pq (A5 hl0)] hn0
  ·unfold Am6 at h
   rcases cB h with⟨h1,h⟩ | ⟨h1,h⟩
   ·have hq:=hret0 _ (hr0 _ (sI h).symm)
    replace hq:=sI hq
    subst hq
    exact wr jP 35 [true,true] [pt hx0 hl0] [] 0 [] hC [pq (A4 hi0 hl0),pq h1]
   ·exact wx w0b (vQ x0 x1 (n0+1)) (Ai4 (n0+1)) jP 36 [true,false] [pt hx0 hl0] [] 0 [] _ hC [pq (A4 hi0 hl0),pq h1] (sI h).symm
 ·have h:=hnext0 _ hs0
  replace h:=sI h
  subst h
  exact wr jP 23 [] [] [] 0 [] hC []
theorem A70:EN 106:=en Tryz.func106
theorem A2x (x0:List Int) (r:Bool) (h:Ay9 x0=r):CO 140 [.d (DS pI x0)] [] (.d (Bo r)) []:=by
 unfold Ay9 at h
 refine co 6 Tryz.func140 λ C hC=>?_
 subst h
 exact wr [0,2] 25 [] [pl pI x0] [] 0 [] hC []
theorem A35:EN 140:=en Tryz.func140
def jN:List Nat:=[0,1,2,4,5,6,11,16,20]
theorem A63 (x0:Aa) (x1:Int) (r:Int) (h:L_ x0 x1=r):CO 136 [.agg (d29 x0),.d (I x1)] [] (.d (I r)) []:=by
 unfold L_ at h
 refine co 25 Tryz.func136 λ C hC=>?_
 rcases cB h with⟨h1,h⟩ | ⟨h1,h⟩
 ·subst h
  exact wr jN 32 [true] [pl q98 x0.Ac] [] 0 [] hC [pq h1]
 ·rcases cB h with⟨h2,h⟩ | ⟨h2,h⟩
  ·subst h
   exact wr jN 35 [false,true] [pl q49 x0.Ad] [] 0 [] hC [pq h1,pq h2]
  ·rcases cB h with⟨h3,h⟩ | ⟨h3,h⟩
   ·subst h
    exact wr jN 38 [false,false,true] [] [] 0 [] hC [pq h1,pq h2,pq h3]
   ·rcases cB h with⟨h4,h⟩ | ⟨h4,h⟩
    ·subst h
     exact wr jN 41 [false,false,false,true] [pl q90 x0.Af] [] 0 [] hC [pq h1,pq h2,pq h3,pq h4]
    ·subst h
     exact wr jN 43 [false,false,false,false] [] [] 0 [] hC [pq h1,pq h2,pq h3,pq h4]
theorem A7r:EN 136:=en Tryz.func136
theorem L5 (x0:Int) (r:Bool) (h:Y9 x0=r):CO 166 [.d (I x0)] [] (.d (Bo r)) []:=by
 unfold Y9 at h
 refine co 6 Tryz.func166 λ C hC=>?_
 subst h
 exact wr [0,2] 25 [] [] [] 0 [] hC []
theorem L6:EN 166:=en Tryz.func166
def jM:List Nat:=[0,2,3,5,6,7,8,9,14]
def vO (x0:List Int) (n0:Nat) (z0:Unit):St:=[(2,dI 0),(3,dI 0),(6,.d (DS pI x0)),(7,dI (ln x0)),(8,dI (cnt 0 n0))]
def Ai2  (n0:Nat) (z0:Unit):List Res:=[]
def Alt  (z0:Unit):St:=[(2,dI 0),(3,dI 0)]
def Amx  (z0:Unit):List Res:=[]
theorem A62 (x0:List Int) (r:Int) (h:zZ x0=some r):CO 137 [.d (DS pI x0)] [] (.d (I r)) []:=by
 unfold zZ at h
 refine co 18 Tryz.func137 λ C hC=>?_
 refine ws jM 28 [] [pl pI x0] [] 0 [] (vO x0 0 ()) (Ai2 0 ()) hC [] ?_
 obtain⟨w0,hm0,hret0,hnext0⟩:=Av h
 clear h
 refine wc w0 (Alt) (Amx) ?_ λ z0 hs0=>?_
 ·refine wb ?_
  refine Bq 6 rfl λ hl0=>?_
  refine wl (vO x0) (Ai2) hm0 (λ z0 hn0=>?_) λ n0 a0 z0 w0b hi0 hx0 h hb0 hr0=>?_
  ·clear hm0
   exact wx w0 (Alt) (Amx) jM 26 [false] [] [] 0 [] _ hC [pq (A5 hl0)] hn0
  ·unfold W0 at h
   rcases cB h with⟨h1,h⟩ | ⟨h1,h⟩
   ·have hq:=hret0 _ (hr0 _ (sI h).symm)
    replace hq:=sI hq
    subst hq
    exact wr jM 35 [true,true] [pt hx0 hl0] [] 0 [] hC [pq (A4 hi0 hl0),pq h1]
   ·exact wx w0b (vO x0 (n0+1)) (Ai2 (n0+1)) jM 36 [true,false] [pt hx0 hl0] [] 0 [] _ hC [pq (A4 hi0 hl0),pq h1] (sI h).symm
 ·have h:=hnext0 _ hs0
  replace h:=sI h
  subst h
  exact wr jM 23 [] [] [] 0 [] hC []
theorem A7q:EN 137:=en Tryz.func137
def Ags:List Nat:=[0,1,2,3,4,6,7,8,9,11,12,13,14,33]
def Zn (x0:Aa) (x2:Int) (n0:Nat) (z0:Int):St:=[(2,dI x2),(4,dO 0 0),(6,dI 0),(7,dI z0),(11,.d (DS q49 x0.Ad)),(12,dI (ln x0.Ad)),(13,dI (cnt 0 n0))]
def Adt (x1:Ab) (n0:Nat) (z0:Int):List Res:=[.box 34 (d34 x1)]
def Arn  (z0:Int):St:=[(6,dI 0),(7,dI z0)]
def Ava  (z0:Int):List Res:=[]
theorem k94 (x0:Aa) (x1:Ab) (x2:Int) (r:Int) (h:F94 x0 x1 x2=some r):CO 94 [.agg (d29 x0),.agg (d34 x1),.d (I x2)] [] (.d (I r)) []:=by
 unfold F94 at h
 refine co 38 Tryz.func94 λ C hC=>?_
 refine ws Ags 28 [] [pl q49 x0.Ad] [] 0 [1] (Zn x0 x2 0 0) (Adt x1 0 0) hC [] ?_
 obtain⟨w0,hm0,hret0,hnext0⟩:=Av h
 clear h
 refine wc w0 (Arn) (Ava) ?_ λ z0 hs0=>?_
 ·refine wb ?_
  refine Bq 11 rfl λ hl0=>?_
  refine wl (Zn x0 x2) (Adt x1) hm0 (λ z0 hn0=>?_) λ n0 a0 z0 w0b hi0 hx0 h hb0 hr0=>?_
  ·clear hm0
   exact wx w0 (Arn) (Ava) Ags 26 [false] [] [] 0 [] _ hC [pq (A5 hl0)] hn0
  ·unfold Ajj at h
   obtain⟨y1,h2,h⟩:=Aw h
   rcases cB h with⟨h3,h⟩ | ⟨h3,h⟩
   ·exact wx w0b (Zn x0 x2 (n0+1)) (Adt x1 (n0+1)) Ags 36 [true,true] [pt hx0 hl0,pR pB h2] [] 0 [0] _ hC [pq (A4 hi0 hl0),pq h3] (sI h).symm
   ·exact wx w0b (Zn x0 x2 (n0+1)) (Adt x1 (n0+1)) Ags 36 [true,false] [pt hx0 hl0,pR pB h2] [] 0 [0] _ hC [pq (A4 hi0 hl0),pq h3] (sI h).symm
 ·have h:=hnext0 _ hs0
  replace h:=sI h
  subst h
  exact wr Ags 23 [] [] [] 0 [] hC []
theorem e94:EN 94:=en Tryz.func94
theorem k78 (x0:List Bool) (r:List Bool) (h:F78 x0=some r):CO 78 [.d (.p (.s (x0.map pB)))] [] (.d (.os 0)) [v1_ r]:=by
 unfold F78 at h
 refine co 8 Tryz.func78 λ C hC=>?_
 refine ws [0,4] 40 [] [] [] 0 [] [(0,.d (.p (.s (x0.map pB)))),(4,.d (.nq (x0.map pB)))] [] hC [] ?_
 refine Adp 4 (by kernel_rfl) (by kernel_rfl) rfl (λ hn=>?_) ?_
 ·have hx:x0=[]:=by cases x0 with | nil=>rfl | cons=>cases hn
  subst hx
  have hr:r=[]:=by simpa [appI] using h.symm
  subst hr
  exact wr [2] 40 [] [] [.own 2 4 1] 0 [0] hC []
 ·exact wr [2] 40 [] [⟨.own,trivial⟩,⟨.app [] (x0.map pB) 1 ((([]:List (List Pd)).length+(x0.map pB).length)*(1+1)) (r.map pB),Ky (l:=[]) pB 1 (λ _=>rfl) h⟩] [] 0 [1] hC []
theorem e78:EN 78:=en Tryz.func78
theorem k79 (x0:List Ai) (r:List Ai) (h:F79 x0=some r):CO 79 [.d (.p (.s (x0.map q87)))] [] (.d (.os 0)) [v4_ r]:=by
 unfold F79 at h
 refine co 8 Tryz.func79 λ C hC=>?_
 refine ws [0,4] 40 [] [] [] 0 [] [(0,.d (.p (.s (x0.map q87)))),(4,.d (.nq (x0.map q87)))] [] hC [] ?_
 refine Adp 4 (by kernel_rfl) (by kernel_rfl) rfl (λ hn=>?_) ?_
 ·have hx:x0=[]:=by cases x0 with | nil=>rfl | cons=>cases hn
  subst hx
  have hr:r=[]:=by simpa [appI] using h.symm
  subst hr
  exact wr [2] 40 [] [] [.own 2 87 4] 0 [0] hC []
 ·exact wr [2] 40 [] [⟨.own,trivial⟩,⟨.app [] (x0.map q87) 4 ((([]:List (List Pd)).length+(x0.map q87).length)*(32+1)) (r.map q87),Ky (l:=[]) q87 4 (λ _=>rfl) h⟩] [] 0 [1] hC []
theorem e79:EN 79:=en Tryz.func79
theorem k80 (x0:List Int) (r:List Int) (h:F80 x0=some r):CO 80 [.d (.p (.s (x0.map pI)))] [] (.d (.os 0)) [v0_ r]:=by
 unfold F80 at h
 refine co 8 Tryz.func80 λ C hC=>?_
 refine ws [0,4] 40 [] [] [] 0 [] [(0,.d (.p (.s (x0.map pI)))),(4,.d (.nq (x0.map pI)))] [] hC [] ?_
 refine Adp 4 (by kernel_rfl) (by kernel_rfl) rfl (λ hn=>?_) ?_
 ·have hx:x0=[]:=by cases x0 with | nil=>rfl | cons=>cases hn
  subst hx
  have hr:r=[]:=by simpa [appI] using h.symm
  subst hr
  exact wr [2] 40 [] [] [.own 2 3 1] 0 [0] hC []
 ·exact wr [2] 40 [] [⟨.own,trivial⟩,⟨.app [] (x0.map pI) 1 ((([]:List (List Pd)).length+(x0.map pI).length)*(8+1)) (r.map pI),Ky (l:=[]) pI 1 (λ _=>rfl) h⟩] [] 0 [1] hC []
theorem e80:EN 80:=en Tryz.func80
theorem k81 (x0:List As) (r:List As) (h:F81 x0=some r):CO 81 [.d (.p (.s (x0.map q92)))] [] (.d (.os 0)) [v3_ r]:=by
 unfold F81 at h
 refine co 8 Tryz.func81 λ C hC=>?_
 refine ws [0,4] 40 [] [] [] 0 [] [(0,.d (.p (.s (x0.map q92)))),(4,.d (.nq (x0.map q92)))] [] hC [] ?_
 refine Adp 4 (by kernel_rfl) (by kernel_rfl) rfl (λ hn=>?_) ?_
 ·have hx:x0=[]:=by cases x0 with | nil=>rfl | cons=>cases hn
  subst hx
  have hr:r=[]:=by simpa [appI] using h.symm
  subst hr
  exact wr [2] 40 [] [] [.own 2 92 2] 0 [0] hC []
 ·exact wr [2] 40 [] [⟨.own,trivial⟩,⟨.app [] (x0.map q92) 2 ((([]:List (List Pd)).length+(x0.map q92).length)*(16+1)) (r.map q92),Ky (l:=[]) q92 2 (λ _=>rfl) h⟩] [] 0 [1] hC []
theorem e81:EN 81:=en Tryz.func81
def jL:List Nat:=[0,1,3,4,5,7,8,9,16]
def vJ (x0:List As) (n0:Nat) (z0:Unit):St:=[(0,.d (DS q92 x0)),(3,dO 0 0),(4,dI 0),(7,dI (ln x0)),(8,dI (cnt 0 n0))]
def Aix (x1:As) (n0:Nat) (z0:Unit):List Res:=[.box 92 (d92 x1)]
def Alm  (z0:Unit):St:=[(4,dI 0)]
def Amq  (z0:Unit):List Res:=[]
theorem A6x (x0:List As) (x1:As) (r:Int) (h:Aqk x0 x1=some r):CO 162 [.d (DS q92 x0),.agg (d92 x1)] [] (.d (I r)) []:=by
 unfold Aqk at h
 refine co 19 Tryz.func162 λ C hC=>?_
 refine ws jL 26 [] [pl q92 x0] [] 0 [0] (vJ x0 0 ()) (Aix x1 0 ()) hC [] ?_
 obtain⟨w0,hm0,hret0,hnext0⟩:=Av h
 clear h
 refine wc w0 (Alm) (Amq) ?_ λ z0 hs0=>?_
 ·refine wb ?_
  refine Bq 0 rfl λ hl0=>?_
  refine wl (vJ x0) (Aix x1) hm0 (λ z0 hn0=>?_) λ n0 a0 z0 w0b hi0 hx0 h hb0 hr0=>?_
  ·clear hm0
   exact wx w0 (Alm) (Amq) jL 26 [false] [] [] 0 [] _ hC [pq (A5 hl0)] hn0
  ·unfold Am5 at h
   rcases cB h with⟨h1,h⟩ | ⟨h1,h⟩
   ·have hq:=hret0 _ (hr0 _ (sI h).symm)
    replace hq:=sI hq
    subst hq
    exact wr jL 35 [true,true] [pt hx0 hl0] [] 0 [] hC [pq (A4 hi0 hl0),pq h1]
   ·exact wx w0b (vJ x0 (n0+1)) (Aix x1 (n0+1)) jL 36 [true,false] [pt hx0 hl0] [] 0 [0] _ hC [pq (A4 hi0 hl0),pq h1] (sI h).symm
 ·have h:=hnext0 _ hs0
  replace h:=sI h
  subst h
  exact wr jL 23 [] [] [] 0 [] hC []
theorem A7l:EN 162:=en Tryz.func162
theorem Ag3 (x0:Ax) (x1:Int) (r:Ax) (h:Nt x0 x1=some r):CO 153 [.d (.o 0 0),.d (I x1)] (.box 147 (zb x0.An [.os 1,.os 2,.os 3,.os 4,.os 5])::zp x0.Ao [v2_ x0.acts]) (.tup []) (.box 147 (zb r.An [.os 1,.os 2,.os 3,.os 4,.os 6])::zp r.Ao [.non,v2_ r.acts]):=by
 unfold Nt at h
 refine co 22 Tryz.func153 λ C hC=>?_
 obtain⟨y1,h2,y3,h4,y5,h6,h⟩:=Bw h
 replace h:=sI h
 subst h
 exact wf [0,1] 23 [] [pr pB h2,pu pB h2 h4,pa q47 3 h6] [] 6 n7_ hC []
theorem Ahr:EN 153:=en Tryz.func153
def Jz:List Nat:=[0,1,2,3,4,5,6,7,8,9,14,15,16,24,25,26,28,29,30,31,44]
def vL (y1:List Int) (n0:Nat) (z0:(List Int)):St:=[(2,dO 0 0),(3,dO 1 0),(4,.d (DS pI [])),(5,dS 2),(14,dI (ln y1)),(15,dI (cnt 0 n0))]
def Aiz (x0:Aa) (x1:Ab) (n0:Nat) (z0:(List Int)):List Res:=[.box 29 (d29 x0),.box 34 (d34 x1),v0_ z0]
def Alp  (z0:(List Int)):St:=[(2,dO 0 0),(3,dO 1 0),(4,.d (DS pI [])),(5,dS 2)]
def Amt (x0:Aa) (x1:Ab) (z0:(List Int)):List Res:=[.box 29 (d29 x0),.box 34 (d34 x1),v0_ z0]
def vK (z0:(List Int)) (n1:Nat) (z1:(List Int)):St:=[(2,dO 0 0),(3,dO 1 0),(4,.d (DS pI [])),(5,dS 2),(24,dI (ln z0)),(25,dI (cnt 0 n1))]
def Aiy (x0:Aa) (x1:Ab) (n1:Nat) (z1:(List Int)):List Res:=[.box 29 (d29 x0),.box 34 (d34 x1),v0_ z1]
def Alo  (z1:(List Int)):St:=[(4,.d (DS pI [])),(5,dS 0)]
def Ams  (z1:(List Int)):List Res:=[v0_ z1]
def Vt (x0:Aa) (z0:(List Int)) (n1:Nat) (n2:Nat) (z2:(List Int)):St:=[(2,dO 0 0),(3,dO 1 0),(4,.d (DS pI [])),(5,dS 2),(24,dI (ln z0)),(25,dI (cnt 0 n1)),(28,.d (DS q49 x0.Ad)),(29,dI (ln x0.Ad)),(30,dI (cnt 0 n2))]
def uC (x0:Aa) (x1:Ab) (n2:Nat) (z2:(List Int)):List Res:=[.box 29 (d29 x0),.box 34 (d34 x1),v0_ z2]
def Aln (z0:(List Int)) (n1:Nat) (z2:(List Int)):St:=[(2,dO 0 0),(3,dO 1 0),(4,.d (DS pI [])),(5,dS 2),(24,dI (ln z0)),(25,dI (cnt 0 n1))]
def Amr (x0:Aa) (x1:Ab) (z2:(List Int)):List Res:=[.box 29 (d29 x0),.box 34 (d34 x1),v0_ z2]
theorem A2t (x0:Aa) (x1:Ab) (r:(List Int)) (h:zW x0 x1=some r):CO 155 [.agg (d29 x0),.agg (d34 x1)] [] (.d (.os 0)) [v0_ r]:=by
 unfold zW at h
 refine co 69 Tryz.func155 λ C hC=>?_
 obtain⟨y1,h2,h⟩:=Aw h
 refine ws Jz 28 [] [⟨.room (x0.Am*(8+1)) (List.replicate (Int.toNat x0.Am) (pI 0)) (y1.map pI),Ko h2⟩,pl pI y1] [] 0 n3_ (vL y1 0 y1) (Aiz x0 x1 0 y1) hC [] ?_
 obtain⟨w0,hm0,hret0,hnext0⟩:=Av h
 clear h
 refine wc w0 (Alp) (Amt x0 x1) ?_ λ z0 hs0=>?_
 ·refine wb ?_
  refine B1 5 2 rfl rfl λ hl0=>?_
  refine wl (vL y1) (Aiz x0 x1) hm0 (λ z0 hn0=>?_) λ n0 a0 z0 w0b hi0 hx0 h hb0 hr0=>?_
  ·clear hm0
   exact wx w0 (Alp) (Amt x0 x1) Jz 26 [false] [] [] 0 n3_ _ hC [pq (A5 hl0)] hn0
  ·unfold zV at h
   obtain⟨y3,h4,y5,h6,h⟩:=A_ h
   exact wx w0b (vL y1 (n0+1)) (Aiz x0 x1 (n0+1)) Jz 33 [true] [pr pI h4,pu pI h4 h6] [] 0 n3_ _ hC [pq (A4 hi0 hl0)] (sI h).symm
 ·have h := hnext0 _ hs0
  refine ws Jz 24 [] [pl pI z0] [] 0 n3_ (vK z0 0 z0) (Aiy x0 x1 0 z0) hC [] ?_
  obtain⟨w1,hm1,hret1,hnext1⟩:=Av h
  clear h
  refine wc w1 (Alo) (Ams) ?_ λ z1 hs1=>?_
  ·refine wb ?_
   refine B1 5 2 rfl rfl λ hl1=>?_
   refine wl (vK z0) (Aiy x0 x1) hm1 (λ z1 hn1=>?_) λ n1 a1 z1 w1b hi1 hx1 h hb1 hr1=>?_
   ·clear hm1
    exact wx w1 (Alo) (Ams) Jz 26 [false] [] [] 0 [2] _ hC [pq (A5 hl1)] hn1
   ·unfold zU at h
    refine ws Jz 30 [true] [pl q49 x0.Ad] [] 0 n3_ (Vt x0 z0 n1 0 z1) (uC x0 x1 0 z1) hC [pq (A4 hi1 hl1)] ?_
    obtain⟨w2,hm2,hret2,hnext2⟩:=Av h
    clear h
    refine wc w2 (Aln z0 n1) (Amr x0 x1) ?_ λ z2 hs2=>?_
    ·refine wb ?_
     refine Bq 28 rfl λ hl2=>?_
     refine wl (Vt x0 z0 n1) (uC x0 x1) hm2 (λ z2 hn2=>?_) λ n2 a2 z2 w2b hi2 hx2 h hb2 hr2=>?_
     ·clear hm2
      exact wx w2 (Aln z0 n1) (Amr x0 x1) Jz 26 [false] [] [] 0 n3_ _ hC [pq (A5 hl2)] hn2
     ·unfold Wy at h
      obtain⟨y7,h8,h⟩:=Aw h
      rcases cB h with⟨h9,h⟩ | ⟨h9,h⟩
      ·obtain⟨y10,h11,y12,h13,y14,h15,h⟩:=Bw h
       obtain⟨y16,h17,y18,h19,h⟩:=A_ h
       exact wx w2b (Vt x0 z0 n1 (n2+1)) (uC x0 x1 (n2+1)) Jz 38 [true,true] [pt hx2 hl2,pR pB h8,pr pI h11,pn pI h11,pr pI h13,pn pI h13,pr pI h11,pu pI h11 h15,pr pI h17,pu pI h17 h19] [] 0 n3_ _ hC [pq (A4 hi2 hl2),pq h9] (sI h).symm
      ·exact wx w2b (Vt x0 z0 n1 (n2+1)) (uC x0 x1 (n2+1)) Jz 36 [true,false] [pt hx2 hl2,pR pB h8] [] 0 n3_ _ hC [pq (A4 hi2 hl2),pq h9] (sI h).symm
    ·have h:=hnext2 _ hs2
     exact wx w1b (vK z0 (n1+1)) (Aiy x0 x1 (n1+1)) Jz 23 [] [] [] 0 n3_ _ hC [] (sI h).symm
  ·have h:=hnext1 _ hs1
   replace h:=sI h
   subst h
   exact wr Jz 23 [] [] [] 0 [0] hC []
theorem A31:EN 155:=en Tryz.func155
def jK:List Nat:=[0,1,2,3,4,5,8,9,10,11,13,14,15,16,36]
def vI (x0:Aa) (x2:Int) (x3:Int) (n0:Nat) (z0:Unit):St:=[(2,dI x2),(3,dI x3),(5,dO 0 0),(8,dI 0),(9,dB false),(13,.d (DS q49 x0.Ad)),(14,dI (ln x0.Ad)),(15,dI (cnt 0 n0))]
def Aiv (x1:Ab) (n0:Nat) (z0:Unit):List Res:=[.box 34 (d34 x1)]
def All  (z0:Unit):St:=[(8,dI 0),(9,dB false)]
def Amp  (z0:Unit):List Res:=[]
theorem A2o (x0:Aa) (x1:Ab) (x2:Int) (x3:Int) (r:Int×Bool) (h:zT x0 x1 x2 x3=some r):CO 167 [.agg (d29 x0),.agg (d34 x1),.d (I x2),.d (I x3)] [] (.tup [.d (I r.1),.d (Bo r.2)]) []:=by
 unfold zT at h
 refine co 40 Tryz.func167 λ C hC=>?_
 refine ws jK 26 [] [pl q49 x0.Ad] [] 0 [1] (vI x0 x2 x3 0 ()) (Aiv x1 0 ()) hC [] ?_
 obtain⟨w0,hm0,hret0,hnext0⟩:=Av h
 clear h
 refine wc w0 (All) (Amp) ?_ λ z0 hs0=>?_
 ·refine wb ?_
  refine Bq 13 rfl λ hl0=>?_
  refine wl (vI x0 x2 x3) (Aiv x1) hm0 (λ z0 hn0=>?_) λ n0 a0 z0 w0b hi0 hx0 h hb0 hr0=>?_
  ·clear hm0
   exact wx w0 (All) (Amp) jK 26 [false] [] [] 0 [] _ hC [pq (A5 hl0)] hn0
  ·unfold Wx at h
   obtain⟨y1,h2,h⟩:=Aw h
   rcases cB h with⟨h3,h⟩ | ⟨h3,h⟩
   ·have hq:=hret0 _ (hr0 _ (sI h).symm)
    replace hq:=sI hq
    subst hq
    exact wr jK 35 [true,true] [pt hx0 hl0,pR pB h2] [] 0 [] hC [pq (A4 hi0 hl0),pq h3]
   ·exact wx w0b (vI x0 x2 x3 (n0+1)) (Aiv x1 (n0+1)) jK 36 [true,false] [pt hx0 hl0,pR pB h2] [] 0 [0] _ hC [pq (A4 hi0 hl0),pq h3] (sI h).symm
 ·have h:=hnext0 _ hs0
  replace h:=sI h
  subst h
  exact wr jK 23 [] [] [] 0 [] hC []
theorem A3w:EN 167:=en Tryz.func167
theorem A2s (x0:Aj) (r:Bool) (h:Aql x0=r):CO 158 [.agg (d62 x0)] [] (.d (Bo r)) []:=by
 unfold Aql at h
 refine co 7 Tryz.func158 λ C hC=>?_
 subst h
 exact wr n3_ 25 [] [pl pI x0.Am] [] 0 [] hC []
theorem A30:EN 158:=en Tryz.func158
def V5:List Nat:=[0,1,2,3,5,7,8,9,10,11]
def Td (x1:List Int) (n0:Nat) (z0:(List Ai)):St:=[(3,dO 4 0),(5,dO 5 0),(8,.d (DS pI x1)),(9,dI (ln x1)),(10,dI (cnt 0 n0))]
def Ys (x0:Ab) (x2:Ai) (n0:Nat) (z0:(List Ai)):List Res:=[v1_ x0.Ae,v4_ z0,v0_ x0.Al,v3_ x0.Ah,.box 34 [.os 0,.os 1,.os 2,.os 3],.box 87 (d87 x2)]
def Aa3  (z0:(List Ai)):St:=[]
def Ace (x0:Ab) (z0:(List Ai)):List Res:=[v1_ x0.Ae,v4_ z0,v0_ x0.Al,v3_ x0.Ah]
theorem Ag5 (x0:Ab) (x1:List Int) (x2:Ai) (r:(List Ai)) (h:Nu x0 x1 x2=some r):CO 145 [.agg [.os 0,.os 1,.os 2,.os 3],.d (DS pI x1),.agg (d87 x2)] (zp x0 []) (.tup []) [v1_ x0.Ae,v4_ r,v0_ x0.Al,v3_ x0.Ah]:=by
 unfold Nu at h
 refine co 29 Tryz.func145 λ C hC=>?_
 refine ws V5 25 [] [pl pI x1] [] 4 n6_ (Td x1 0 x0.Ac) (Ys x0 x2 0 x0.Ac) hC [] ?_
 obtain⟨w0,hm0,hret0,hnext0⟩:=Av h
 clear h
 refine wc w0 (Aa3) (Ace x0) ?_ λ z0 hs0=>?_
 ·refine wb ?_
  refine Bq 8 rfl λ hl0=>?_
  refine wl (Td x1) (Ys x0 x2) hm0 (λ z0 hn0=>?_) λ n0 a0 z0 w0b hi0 hx0 h hb0 hr0=>?_
  ·clear hm0
   exact wx w0 (Aa3) (Ace x0) V5 26 [false] [] [] 4 n4_ _ hC [pq (A5 hl0)] hn0
  ·unfold U_ at h
   obtain⟨y1,h2,y3,h4,y5,h6,y7,h8,h⟩:=C8 h
   exact wx w0b (Td x1 (n0+1)) (Ys x0 x2 (n0+1)) V5 33 [true] [pt hx0 hl0,pr q87 h2,pu q87 h2 h4,pr q87 h6,pu q87 h6 h8] [] 4 n6_ _ hC [pq (A4 hi0 hl0)] (sI h).symm
 ·have h:=hnext0 _ hs0
  replace h:=sI h
  subst h
  exact wf V5 20 [] [] [] 4 n4_ hC []
theorem Aht:EN 145:=en Tryz.func145
theorem A2q (x0:Ag) (x1:Int) (r:Bool) (h:U5 x0 x1=r):CO 161 [.agg (d49 x0),.d (.ip [.v (.int .i64 x1)])] [] (.d (Bo r)) []:=by
 unfold U5 at h
 refine co 13 Tryz.func161 λ C hC=>?_
 subst h
 exact wr n4_ 25 [] [] [] 0 [] hC []
theorem A3y:EN 161:=en Tryz.func161
def yI:List Nat:=[0,1,4,5,10,12,13,14,24]
def Ae0 (x0:List Bool) (x1:List Bool) (n0:Nat) (z0:Unit):St:=[(0,.d (DS pB x0)),(1,.d (DS pB x1)),(4,dB false),(12,dI (ln x0)),(13,dI (cnt 0 n0))]
def App  (n0:Nat) (z0:Unit):List Res:=[]
def Arz  (z0:Unit):St:=[(4,dB false)]
def Avm  (z0:Unit):List Res:=[]
theorem k72 (x0:List Bool) (x1:List Bool) (r:Bool) (h:F72 x0 x1=some r):CO 72 [.d (DS pB x0),.d (DS pB x1)] [] (.d (Bo r)) []:=by
 unfold F72 at h
 refine co 26 Tryz.func72 λ C hC=>?_
 rcases cB h with⟨h1,h⟩ | ⟨h1,h⟩
 ·replace h:=sI h
  subst h
  exact wr yI 29 [true] [pl pB x0,pl pB x1] [] 0 [] hC [pq h1]
 ·refine ws yI 31 [false] [pl pB x0,pl pB x1,pl pB x0] [] 0 [] (Ae0 x0 x1 0 ()) (App 0 ()) hC [pq h1] ?_
  obtain⟨w0,hm0,hret0,hnext0⟩:=Av h
  clear h
  refine wc w0 (Arz) (Avm) ?_ λ z0 hs0=>?_
  ·refine wb ?_
   refine Bq 0 rfl λ hl0=>?_
   refine wl (Ae0 x0 x1) (App) hm0 (λ z0 hn0=>?_) λ n0 a0 z0 w0b hi0 hx0 h hb0 hr0=>?_
   ·clear hm0
    exact wx w0 (Arz) (Avm) yI 26 [false] [] [] 0 [] _ hC [pq (A5 hl0)] hn0
   ·unfold Ajt at h
    obtain⟨y2,h3,h⟩:=Aw h
    rcases cB h with⟨h4,h⟩ | ⟨h4,h⟩
    ·have hq:=hret0 _ (hr0 _ (sI h).symm)
     replace hq:=sI hq
     subst hq
     exact wr yI 35 [true,true] [pt hx0 hl0,pr pB h3] [] 0 [] hC [pq (A4 hi0 hl0),pq h4]
    ·exact wx w0b (Ae0 x0 x1 (n0+1)) (App (n0+1)) yI 36 [true,false] [pt hx0 hl0,pr pB h3] [] 0 [] _ hC [pq (A4 hi0 hl0),pq h4] (sI h).symm
  ·have h:=hnext0 _ hs0
   replace h:=sI h
   subst h
   exact wr yI 23 [] [] [] 0 [] hC []
theorem e72:EN 72:=en Tryz.func72
def yH:List Nat:=[0,1,4,5,10,12,13,14,24]
def Aez (x0:List Ai) (x1:List Ai) (n0:Nat) (z0:Unit):St:=[(0,.d (DS q87 x0)),(1,.d (DS q87 x1)),(4,dB false),(12,dI (ln x0)),(13,dI (cnt 0 n0))]
def Apo  (n0:Nat) (z0:Unit):List Res:=[]
def Ary  (z0:Unit):St:=[(4,dB false)]
def Avl  (z0:Unit):List Res:=[]
theorem k73 (x0:List Ai) (x1:List Ai) (r:Bool) (h:F73 x0 x1=some r):CO 73 [.d (DS q87 x0),.d (DS q87 x1)] [] (.d (Bo r)) []:=by
 unfold F73 at h
 refine co 26 Tryz.func73 λ C hC=>?_
 rcases cB h with⟨h1,h⟩ | ⟨h1,h⟩
 ·replace h:=sI h
  subst h
  exact wr yH 29 [true] [pl q87 x0,pl q87 x1] [] 0 [] hC [pq h1]
 ·refine ws yH 31 [false] [pl q87 x0,pl q87 x1,pl q87 x0] [] 0 [] (Aez x0 x1 0 ()) (Apo 0 ()) hC [pq h1] ?_
  obtain⟨w0,hm0,hret0,hnext0⟩:=Av h
  clear h
  refine wc w0 (Ary) (Avl) ?_ λ z0 hs0=>?_
  ·refine wb ?_
   refine Bq 0 rfl λ hl0=>?_
   refine wl (Aez x0 x1) (Apo) hm0 (λ z0 hn0=>?_) λ n0 a0 z0 w0b hi0 hx0 h hb0 hr0=>?_
   ·clear hm0
    exact wx w0 (Ary) (Avl) yH 26 [false] [] [] 0 [] _ hC [pq (A5 hl0)] hn0
   ·unfold Ajs at h
    obtain⟨y2,h3,h⟩:=Aw h
    rcases cB h with⟨h4,h⟩ | ⟨h4,h⟩
    ·have hq:=hret0 _ (hr0 _ (sI h).symm)
     replace hq:=sI hq
     subst hq
     exact wr yH 35 [true,true] [pt hx0 hl0,pr q87 h3] [] 0 [] hC [pq (A4 hi0 hl0),pq h4]
    ·exact wx w0b (Aez x0 x1 (n0+1)) (Apo (n0+1)) yH 36 [true,false] [pt hx0 hl0,pr q87 h3] [] 0 [] _ hC [pq (A4 hi0 hl0),pq h4] (sI h).symm
  ·have h:=hnext0 _ hs0
   replace h:=sI h
   subst h
   exact wr yH 23 [] [] [] 0 [] hC []
theorem e73:EN 73:=en Tryz.func73
def yG:List Nat:=[0,1,4,5,10,12,13,14,24]
def Aey (x0:List Int) (x1:List Int) (n0:Nat) (z0:Unit):St:=[(0,.d (DS pI x0)),(1,.d (DS pI x1)),(4,dB false),(12,dI (ln x0)),(13,dI (cnt 0 n0))]
def Apn  (n0:Nat) (z0:Unit):List Res:=[]
def Arx  (z0:Unit):St:=[(4,dB false)]
def Avk  (z0:Unit):List Res:=[]
theorem k74 (x0:List Int) (x1:List Int) (r:Bool) (h:F74 x0 x1=some r):CO 74 [.d (DS pI x0),.d (DS pI x1)] [] (.d (Bo r)) []:=by
 unfold F74 at h
 refine co 26 Tryz.func74 λ C hC=>?_
 rcases cB h with⟨h1,h⟩ | ⟨h1,h⟩
 ·replace h:=sI h
  subst h
  exact wr yG 29 [true] [pl pI x0,pl pI x1] [] 0 [] hC [pq h1]
 ·refine ws yG 31 [false] [pl pI x0,pl pI x1,pl pI x0] [] 0 [] (Aey x0 x1 0 ()) (Apn 0 ()) hC [pq h1] ?_
  obtain⟨w0,hm0,hret0,hnext0⟩:=Av h
  clear h
  refine wc w0 (Arx) (Avk) ?_ λ z0 hs0=>?_
  ·refine wb ?_
   refine Bq 0 rfl λ hl0=>?_
   refine wl (Aey x0 x1) (Apn) hm0 (λ z0 hn0=>?_) λ n0 a0 z0 w0b hi0 hx0 h hb0 hr0=>?_
   ·clear hm0
    exact wx w0 (Arx) (Avk) yG 26 [false] [] [] 0 [] _ hC [pq (A5 hl0)] hn0
   ·unfold Ajr at h
    obtain⟨y2,h3,h⟩:=Aw h
    rcases cB h with⟨h4,h⟩ | ⟨h4,h⟩
    ·have hq:=hret0 _ (hr0 _ (sI h).symm)
     replace hq:=sI hq
     subst hq
     exact wr yG 35 [true,true] [pt hx0 hl0,pr pI h3] [] 0 [] hC [pq (A4 hi0 hl0),pq h4]
    ·exact wx w0b (Aey x0 x1 (n0+1)) (Apn (n0+1)) yG 36 [true,false] [pt hx0 hl0,pr pI h3] [] 0 [] _ hC [pq (A4 hi0 hl0),pq h4] (sI h).symm
  ·have h:=hnext0 _ hs0
   replace h:=sI h
   subst h
   exact wr yG 23 [] [] [] 0 [] hC []
theorem e74:EN 74:=en Tryz.func74
def yF:List Nat:=[0,1,4,5,10,12,13,14,24]
def Aex (x0:List As) (x1:List As) (n0:Nat) (z0:Unit):St:=[(0,.d (DS q92 x0)),(1,.d (DS q92 x1)),(4,dB false),(12,dI (ln x0)),(13,dI (cnt 0 n0))]
def Apm  (n0:Nat) (z0:Unit):List Res:=[]
def Arw  (z0:Unit):St:=[(4,dB false)]
def Avj  (z0:Unit):List Res:=[]
theorem k75 (x0:List As) (x1:List As) (r:Bool) (h:F75 x0 x1=some r):CO 75 [.d (DS q92 x0),.d (DS q92 x1)] [] (.d (Bo r)) []:=by
 unfold F75 at h
 refine co 26 Tryz.func75 λ C hC=>?_
 rcases cB h with⟨h1,h⟩ | ⟨h1,h⟩
 ·replace h:=sI h
  subst h
  exact wr yF 29 [true] [pl q92 x0,pl q92 x1] [] 0 [] hC [pq h1]
 ·refine ws yF 31 [false] [pl q92 x0,pl q92 x1,pl q92 x0] [] 0 [] (Aex x0 x1 0 ()) (Apm 0 ()) hC [pq h1] ?_
  obtain⟨w0,hm0,hret0,hnext0⟩:=Av h
  clear h
  refine wc w0 (Arw) (Avj) ?_ λ z0 hs0=>?_
  ·refine wb ?_
   refine Bq 0 rfl λ hl0=>?_
   refine wl (Aex x0 x1) (Apm) hm0 (λ z0 hn0=>?_) λ n0 a0 z0 w0b hi0 hx0 h hb0 hr0=>?_
   ·clear hm0
    exact wx w0 (Arw) (Avj) yF 26 [false] [] [] 0 [] _ hC [pq (A5 hl0)] hn0
   ·unfold Ajq at h
    obtain⟨y2,h3,h⟩:=Aw h
    rcases cB h with⟨h4,h⟩ | ⟨h4,h⟩
    ·have hq:=hret0 _ (hr0 _ (sI h).symm)
     replace hq:=sI hq
     subst hq
     exact wr yF 35 [true,true] [pt hx0 hl0,pr q92 h3] [] 0 [] hC [pq (A4 hi0 hl0),pq h4]
    ·exact wx w0b (Aex x0 x1 (n0+1)) (Apm (n0+1)) yF 36 [true,false] [pt hx0 hl0,pr q92 h3] [] 0 [] _ hC [pq (A4 hi0 hl0),pq h4] (sI h).symm
  ·have h:=hnext0 _ hs0
   replace h:=sI h
   subst h
   exact wr yF 23 [] [] [] 0 [] hC []
theorem e75:EN 75:=en Tryz.func75
theorem A3i (x0:Ag) (x1:Int) (r:Bool) (h:vE x0 x1=r):CO 104 [.agg (d49 x0),.d (.ip [.v (.int .i64 x1)])] [] (.d (Bo r)) []:=by
 unfold vE at h
 refine co 13 Tryz.func104 λ C hC=>?_
 subst h
 exact wr n4_ 25 [] [] [] 0 [] hC []
theorem A4q:EN 104:=en Tryz.func104
def Agv:List Nat:=[0,1,4,5,7,8,9,16]
def Aew (x0:List Bool) (x1:Bool) (n0:Nat) (z0:Unit):St:=[(0,.d (DS pB x0)),(1,dB x1),(4,dI 0),(7,dI (ln x0)),(8,dI (cnt 0 n0))]
def Apl  (n0:Nat) (z0:Unit):List Res:=[]
def Arv  (z0:Unit):St:=[(4,dI 0)]
def Avi  (z0:Unit):List Res:=[]
theorem k77 (x0:List Bool) (x1:Bool) (r:Int) (h:F77 x0 x1=some r):CO 77 [.d (DS pB x0),.d (Bo x1)] [] (.d (I r)) []:=by
 unfold F77 at h
 refine co 19 Tryz.func77 λ C hC=>?_
 refine ws Agv 26 [] [pl pB x0] [] 0 [] (Aew x0 x1 0 ()) (Apl 0 ()) hC [] ?_
 obtain⟨w0,hm0,hret0,hnext0⟩:=Av h
 clear h
 refine wc w0 (Arv) (Avi) ?_ λ z0 hs0=>?_
 ·refine wb ?_
  refine Bq 0 rfl λ hl0=>?_
  refine wl (Aew x0 x1) (Apl) hm0 (λ z0 hn0=>?_) λ n0 a0 z0 w0b hi0 hx0 h hb0 hr0=>?_
  ·clear hm0
   exact wx w0 (Arv) (Avi) Agv 26 [false] [] [] 0 [] _ hC [pq (A5 hl0)] hn0
  ·unfold Ajp at h
   rcases cB h with⟨h1,h⟩ | ⟨h1,h⟩
   ·have hq:=hret0 _ (hr0 _ (sI h).symm)
    replace hq:=sI hq
    subst hq
    exact wr Agv 35 [true,true] [pt hx0 hl0] [] 0 [] hC [pq (A4 hi0 hl0),pq h1]
   ·exact wx w0b (Aew x0 x1 (n0+1)) (Apl (n0+1)) Agv 36 [true,false] [pt hx0 hl0] [] 0 [] _ hC [pq (A4 hi0 hl0),pq h1] (sI h).symm
 ·have h:=hnext0 _ hs0
  replace h:=sI h
  subst h
  exact wr Agv 23 [] [] [] 0 [] hC []
theorem e77:EN 77:=en Tryz.func77
theorem Adi (x0:Ay) (x1:Int) (x2:Int) (r:Ay) (h:Ot x0 x1 x2=some r):CO 40 [.d (.o 0 0),.d (I x1),.d (I x2)] (.box 80 (zb x0.An [.os 1,.os 2,.os 3,.os 4,.os 5,.os 6])::zp x0.Ao [v1_ x0.goal,v2_ x0.acts]) (.tup []) (.box 80 (zb r.An [.os 1,.os 2,.os 3,.os 4,.os 5,.os 7])::zp r.Ao [v1_ r.goal,.non,v2_ r.acts]):=by
 unfold Ot at h
 refine co 27 Tryz.func40 λ C hC=>?_
 obtain⟨y1,h2,y3,h4,y5,h6,h⟩:=Bw h
 replace h:=sI h
 subst h
 exact wf n3_ 23 [] [pa q47 3 h2,pr pB h4,pu pB h4 h6] [] 7 n8_ hC []
theorem Adk:EN 40:=en Tryz.func40
theorem A6w (x0:Int) (x1:Int) (r:Int×Int) (h:Aqj x0 x1=r):CO 164 [.d (.p (.v (.int .u64 x0))),.d (.p (.v (.int .u64 x1)))] [] (.tup [.d (.p (.v (.int .u64 r.1))),.d (.p (.v (.int .u64 r.2)))]) []:=by
 unfold Aqj at h
 refine co 51 Tryz.func164 λ C hC=>?_
 subst h
 exact wr [0,1,4,5,6,7,8,9,10,11,12,13] 45 [] [] [] 0 [] hC []
theorem A7k:EN 164:=en Tryz.func164
theorem k84 (x0:List Int):CO 84 [.d (.p (.s (x0.map pI)))] [] (.d (.fn (.func 131) [] [.o 0 0])) [.box 22 [.p (.s (x0.map pI))]]:=by
 refine co 4 Tryz.func84 λ C hC=>?_
 exact wr [1,2] 40 [] [] [] 0 [0] hC []
theorem e84:EN 84:=en Tryz.func84
theorem k42  (r:Aa×Ab) (h:F42  = r):CO 42 [] [] (.tup [.agg (d29 r.1),.agg (d34 r.2)]) []:=by
 unfold F42 at h
 refine co 14 Tryz.func42 λ C hC=>?_
 subst h
 exact wr n3_ 27 [] [] [.ownb 0 3 90 5,.frz 3,.ownb 1 2 3 1,.frz 4,.ownb 1 3 92 2,.frz 5] 0 [] hC []
theorem e42:EN 42:=en Tryz.func42
def jO:List Nat:=[0,1,2,3,6,7,8,9,14,19,23]
theorem X5 (x0:Aa) (x1:Int) (x2:Int) (r:Bool) (h:G8 x0 x1 x2=r):CO 108 [.agg (d29 x0),.d (I x1),.d (I x2)] [] (.d (Bo r)) []:=by
 unfold G8 at h
 refine co 35 Tryz.func108 λ C hC=>?_
 rcases cB h with⟨h1,h⟩ | ⟨h1,h⟩
 ·subst h
  exact wr jO 36 [true] [pl q98 x0.Ac] [] 0 [] hC [pq h1]
 ·rcases cB h with⟨h2,h⟩ | ⟨h2,h⟩
  ·subst h
   exact wr jO 39 [false,true] [pl q49 x0.Ad] [] 0 [] hC [pq h1,pq h2]
  ·rcases cB h with⟨h3,h⟩ | ⟨h3,h⟩
   ·subst h
    exact wr jO 42 [false,false,true] [] [] 0 [] hC [pq h1,pq h2,pq h3]
   ·rcases cB h with⟨h4,h⟩ | ⟨h4,h⟩
    ·subst h
     exact wr jO 45 [false,false,false,true] [pl q90 x0.Af] [] 0 [] hC [pq h1,pq h2,pq h3,pq h4]
    ·subst h
     exact wr jO 45 [false,false,false,false] [] [] 0 [] hC [pq h1,pq h2,pq h3,pq h4]
theorem Ya:EN 108:=en Tryz.func108
theorem An9 (x0:Int) (r:Int) (h:Hr x0=r):CO 171 [.d (I x0)] [] (.d (I r)) []:=by
 unfold Hr at h
 refine co 10 Tryz.func171 λ C hC=>?_
 rcases cB h with⟨h1,h⟩ | ⟨h1,h⟩
 ·subst h
  exact wr [0,2,6] 32 [true] [⟨.nz 3600,jF rfl⟩] [] 0 [] hC [pq h1]
 ·subst h
  exact wr [0,2,6] 32 [false] [⟨.nz 3600,jF rfl⟩] [] 0 [] hC [pq h1]
theorem Aom:EN 171:=en Tryz.func171
theorem A3f (x0:A0) (x1:Int) (x2:Int) (r:Int×A0) (h:Vo x0 x1 x2=some r):CO 114 [.d (.o 0 0),.d (I x1),.d (I x2)] (.box 107 (zb x0.An [.os 1,.os 2,.os 3,.os 4,I x0.time])::zp x0.Ao []) (.d (I r.1)) (.box 107 (zb r.2.An [.os 1,.os 2,.os 3,.os 4,I r.2.time])::zp r.2.Ao []):=by
 unfold Vo at h
 refine co 30 Tryz.func114 λ C hC=>?_
 obtain⟨y1,h2,h⟩:=Aw h
 rcases cB h with⟨h3,h⟩ | ⟨h3,h⟩
 ·replace h:=sI h
  subst h
  exact wr [0,1,2,6,21] 29 [true] [pR q90 h2] [] 5 n5_ hC [pq h3]
 ·obtain⟨y4,h5,y6,h7,h⟩:=A_ h
  replace h:=sI h
  subst h
  exact wr [0,1,2,6,21] 32 [false] [pR q90 h2,pr pI h5,pu pI h5 h7] [] 5 n5_ hC [pq h3]
theorem A4n:EN 114:=en Tryz.func114
theorem A2w (x0:As) (x1:As) (r:Int) (h:Sn x0 x1=r):CO 149 [.agg (d92 x0),.agg (d92 x1)] [] (.d (I r)) []:=by
 unfold Sn at h
 refine co 20 Tryz.func149 λ C hC=>?_
 rcases cB h with⟨h1,h⟩ | ⟨h1,h⟩
 ·subst h
  exact wr [0,1,2,3,4,9] 29 [true] [] [] 0 [] hC [pq h1]
 ·subst h
  exact wr [0,1,2,3,4,9] 30 [false] [] [] 0 [] hC [pq h1]
theorem A34:EN 149:=en Tryz.func149
def yM:List Nat:=[0,1,2,6,7,8,9,16,22,31,68]
theorem A2v (x0:List As) (x1:Int) (x2:List As) (r:(List As)) (h:Qc x0 x1 x2=some r):CO 150 [.d (.os 0),.d (I x1),.d (DS q92 x2)] [v3_ x0] (.d (.os 1)) [.non,v3_ r]:=by
 by_cases hh:((ln x2)==0)=false/\(x1==(ln x0))=false
 ·unfold Qc at h
  exact A1g (enc:=q92) (λ _=>rfl) hh.1 hh.2 h
 unfold Qc at h
 refine co 95 Tryz.func150 λ C hC=>?_
 obtain⟨u2,h1,h⟩:=Aw h
 rcases cB h with⟨h3,h⟩ | ⟨h3,h⟩
 ·replace h:=sI h
  subst h
  exact wr yM 33 [true] [⟨.bnd (x0.map q92).length x1 (((x0.map q92).length:Nat):Int) (ln x0),Fz (by simp) (by simp) h1⟩,pl q92 x2] [.mv 0] 1 [0,1] hC [pq h3]
 ·refine wn yM 37 [false] [⟨.bnd (x0.map q92).length x1 (((x0.map q92).length:Nat):Int) (ln x0),Fz (by simp) (by simp) h1⟩,pl q92 x2,pl q92 x0] [] 1 [0] [0,1,2,6,7,8,22] hC [pq h3] ?_
  rcases cB h with⟨h4,h⟩ | ⟨h4,h⟩
  ·obtain⟨y5,h6,h⟩:=Aw h
   replace h:=sI h
   subst h
   exact wr yM 24 [true] [pa q92 2 h6] [] 1 [0,1] hC [pq h4]
  ·exact absurd ⟨h3,h4⟩ hh
theorem A33:EN 150:=en Tryz.func150
theorem A2u (x0:List As) (x1:Int) (x2:Int) (r:(List As)) (h:U7 x0 x1 x2=some r):CO 151 [.d (.os 0),.d (I x1),.d (I x2)] [.sl 92 2 (x0.map q92)] (.d (.os 1)) [.non,.sl 92 2 (r.map q92)]:=by
 unfold U7 at h
 refine co 33 Tryz.func151 λ C hC=>?_
 obtain⟨u2,h1,h⟩:=Aw h
 rcases cB h with⟨h3,h⟩ | ⟨h3,h⟩
 ·replace h:=sI h
  subst h
  exact wr [0,1,2,6,7,16] 31 [true] [pl q92 x0,⟨.bnd3 (x0.map q92).length x1 x2 (ln x0),Ah9 (by simp) h1⟩] [.mv 0] 1 [0,1] hC [pq h3]
 ·obtain⟨u5,h4,u7,h6,y8,h9,u11,h10,h⟩:=C8 h
  replace h:=sI h
  subst h
  (rw [List.map_take];exact qY (bs:=[((x1==x2),false)]) I4 [0,1,2,6,7,16] 38 [false] [.len (ln (x0.map q92)) (ln x0),.bnd3 (x0.map q92).length x1 x2 (ln x0),.len (ln (x0.map q92)) (ln x0),.bnd (x0.map q92).length 0 x1 x1,.bnd (x0.map q92).length x2 (((x0.map q92).length:Nat):Int) (ln x0),.appP (x0.map q92) (((x0.map q92).drop (Int.toNat x2)).take ((Int.toNat (ln x0))-(Int.toNat x2))) 2 ((Int.toNat x1)-0) (((Int.toNat x1)-0)+((x0.drop (Int.toNat x2)).take ((Int.toNat (ln x0))-(Int.toNat x2))).length) ((x0.map q92).take ((Int.toNat x1)-0)++((((x0.map q92).drop (Int.toNat x2)).take ((Int.toNat (ln x0))-(Int.toNat x2)))++(x0.map q92).drop (((Int.toNat x1)-0)+(((x0.map q92).drop (Int.toNat x2)).take ((Int.toNat (ln x0))-(Int.toNat x2))).length))) (y8.map q92),.len (((((Int.toNat x1)-0)+((x0.drop (Int.toNat x2)).take ((Int.toNat (ln x0))-(Int.toNat x2))).length):Nat):Int) (((((Int.toNat x1)-0)+((x0.drop (Int.toNat x2)).take ((Int.toNat (ln x0))-(Int.toNat x2))).length):Nat):Int),.bnd ((y8.map q92).length-0) (((((Int.toNat x1)-0)+((x0.drop (Int.toNat x2)).take ((Int.toNat (ln x0))-(Int.toNat x2))).length):Nat):Int) (ln x0) (ln x0),.eqr ((y8.map q92).take (0+(Int.toNat (((((Int.toNat x1)-0)+((x0.drop (Int.toNat x2)).take ((Int.toNat (ln x0))-(Int.toNat x2))).length):Nat):Int)))++(List.replicate ((Int.toNat (ln x0))-(Int.toNat (((((Int.toNat x1)-0)+((x0.drop (Int.toNat x2)).take ((Int.toNat (ln x0))-(Int.toNat x2))).length):Nat):Int))) (q92 (⟨0,0⟩:As))++(y8.map q92).drop ((0+(Int.toNat (((((Int.toNat x1)-0)+((x0.drop (Int.toNat x2)).take ((Int.toNat (ln x0))-(Int.toNat x2))).length):Nat):Int)))+((Int.toNat (ln x0))-(Int.toNat (((((Int.toNat x1)-0)+((x0.drop (Int.toNat x2)).take ((Int.toNat (ln x0))-(Int.toNat x2))).length):Nat):Int)))))) ((G5 y8 (0+(Int.toNat (((((Int.toNat x1)-0)+((x0.drop (Int.toNat x2)).take ((Int.toNat (ln x0))-(Int.toNat x2))).length):Nat):Int))) ((Int.toNat (ln x0))-(Int.toNat (((((Int.toNat x1)-0)+((x0.drop (Int.toNat x2)).take ((Int.toNat (ln x0))-(Int.toNat x2))).length):Nat):Int))) (⟨0,0⟩:As)).map q92)] [.trunc 6] [.tmp 6] 1 [0,1] rfl hC ⟨Wb _ _,Ah9 (by simp) h1,Wb _ _,Fz (by simp) rfl h4,Fz (by simp) (by simp) h6,Ayy q92 2 (λ _=>rfl) (Agi _ _ _ _) h9,rfl,Fz (by simp) rfl h10,zE q92 rfl,trivial⟩ ⟨h3,trivial⟩ (by kernel_rfl))
theorem A32:EN 151:=en Tryz.func151
def An1:List Nat:=[0,1,4,5,10,12,13,14,24]
def Ae6 (x0:List Ak) (x1:List Ak) (n0:Nat) (z0:Unit):St:=[(0,.d (DS q47 x0)),(1,.d (DS q47 x1)),(4,dB false),(12,dI (ln x0)),(13,dI (cnt 0 n0))]
def Apv  (n0:Nat) (z0:Unit):List Res:=[]
def Asd  (z0:Unit):St:=[(4,dB false)]
def Av0  (z0:Unit):List Res:=[]
theorem k43 (x0:List Ak) (x1:List Ak) (r:Bool) (h:F43 x0 x1=some r):CO 43 [.d (DS q47 x0),.d (DS q47 x1)] [] (.d (Bo r)) []:=by
 unfold F43 at h
 refine co 26 Tryz.func43 λ C hC=>?_
 rcases cB h with⟨h1,h⟩ | ⟨h1,h⟩
 ·cases h
 ·refine ws An1 31 [false] [pl q47 x0,pl q47 x1,pl q47 x0] [] 0 [] (Ae6 x0 x1 0 ()) (Apv 0 ()) hC [pq h1] ?_
  obtain⟨w0,hm0,hret0,hnext0⟩:=Av h
  clear h
  refine wc w0 (Asd) (Av0) ?_ λ z0 hs0=>?_
  ·refine wb ?_
   refine Bq 0 rfl λ hl0=>?_
   refine wl (Ae6 x0 x1) (Apv) hm0 (λ z0 hn0=>?_) λ n0 a0 z0 w0b hi0 hx0 h hb0 hr0=>?_
   ·clear hm0
    exact wx w0 (Asd) (Av0) An1 26 [false] [] [] 0 [] _ hC [pq (A5 hl0)] hn0
   ·unfold Awq at h
    obtain⟨y2,h3,h⟩:=Aw h
    rcases cB h with⟨h4,h⟩ | ⟨h4,h⟩
    ·cases h
    ·exact wx w0b (Ae6 x0 x1 (n0+1)) (Apv (n0+1)) An1 36 [true,false] [pt hx0 hl0,pr q47 h3] [] 0 [] _ hC [pq (A4 hi0 hl0),pq h4] (sI h).symm
  ·have h:=hnext0 _ hs0
   replace h:=sI h
   subst h
   exact wr An1 23 [] [] [] 0 [] hC []
theorem e43:EN 43:=en Tryz.func43
theorem k60 (x0:Ap) (x1:Int) (r:Int×Ap) (h:F60 x0 x1=some r):CO 60 [.d (.o 0 0),.d (I x1)] [.box 70 (d70 x0)] (.d (I r.1)) [.box 70 (d70 r.2)]:=by
 unfold F60 at h
 refine co 35 Tryz.func60 λ C hC=>?_
 rcases cB h with⟨h1,h⟩ | ⟨h1,h⟩
 ·replace h:=sI h
  subst h
  exact wr [0,1,4,14] 29 [true] [pl pI x0.L] [] 1 [0] hC [pq h1]
 ·obtain⟨y2,h3,y4,h5,h⟩:=A_ h
  replace h:=sI h
  subst h
  exact wr [0,1,4,14] 32 [false] [pl pI x0.L,pr pI h3,pc A7z (A7b y2 x1 _ h5) []] [] 1 [0] hC [pq h1]
theorem e60:EN 60:=en Tryz.func60
def Agz:List Nat:=[0,1,2,3,4,6,7,16,25,33]
theorem k47 (x0:Aa) (x1:As) (r:Bool) (h:F47 x0 x1=r):CO 47 [.agg (d29 x0),.agg (d92 x1)] [] (.d (Bo r)) []:=by
 unfold F47 at h
 refine co 42 Tryz.func47 λ C hC=>?_
 rcases cB h with⟨h1,h⟩ | ⟨h1,h⟩
 ·subst h
  exact wr Agz 32 [true] [pl q98 x0.Ac,pc e46 (k46 x1.Number 0 (w64 ((ln x0.Ac)-1)) _ rfl) []] [] 0 [] hC [pq h1]
 ·rcases cB h with⟨h2,h⟩ | ⟨h2,h⟩
  ·subst h
   exact wr Agz 35 [false,true] [pl q49 x0.Ad,pc e46 (k46 x1.Number 0 (w64 ((ln x0.Ad)-1)) _ rfl) []] [] 0 [] hC [pq h1,pq h2]
  ·rcases cB h with⟨h3,h⟩ | ⟨h3,h⟩
   ·subst h
    exact wr Agz 38 [false,false,true] [pc e46 (k46 x1.Number 0 (w64 (x0.Am-1)) _ rfl) []] [] 0 [] hC [pq h1,pq h2,pq h3]
   ·rcases cB h with⟨h4,h⟩ | ⟨h4,h⟩
    ·subst h
     exact wr Agz 41 [false,false,false,true] [pl q90 x0.Af,pc e46 (k46 x1.Number 0 (w64 ((ln x0.Af)-1)) _ rfl) []] [] 0 [] hC [pq h1,pq h2,pq h3,pq h4]
    ·subst h
     exact wr Agz 43 [false,false,false,false] [] [] 0 [] hC [pq h1,pq h2,pq h3,pq h4]
theorem e47:EN 47:=en Tryz.func47
def Eb:List Nat:=[0,1,2,3,4,6,7,8,10,11,12,13,23,25,26,37,38,47,48,57,61,62,63,64,69,74,75,76,82,86,87,88,94]
def S7 (x0:Aa) (n0:Nat) (z0:Unit):St:=[(1,dO 0 0),(2,dB false),(10,.d (DS q49 x0.Ad)),(11,dI (ln x0.Ad)),(12,dI (cnt 0 n0))]
def uB (x0:Aa) (n0:Nat) (z0:Unit):List Res:=[.box 29 (d29 x0)]
def Arm  (z0:Unit):St:=[(1,dO 0 0),(2,dB false)]
def Au9 (x0:Aa) (z0:Unit):List Res:=[.box 29 (d29 x0)]
def Aer (x0:Aa) (n0:Nat) (y9:List Ag) (n1:Nat) (z1:Unit):St:=[(1,dO 0 0),(2,dB false),(4,dO 1 0),(10,.d (DS q49 x0.Ad)),(11,dI (ln x0.Ad)),(12,dI (cnt 0 n0)),(61,.d (DS q49 y9)),(62,dI (ln y9)),(63,dI (cnt 0 n1))]
def Apg (x0:Aa) (a0:Ag) (n1:Nat) (z1:Unit):List Res:=[.box 29 (d29 x0),.box 49 (d49 a0)]
def Arl (x0:Aa) (n0:Nat) (z1:Unit):St:=[(1,dO 0 0),(2,dB false),(10,.d (DS q49 x0.Ad)),(11,dI (ln x0.Ad)),(12,dI (cnt 0 n0))]
def Au8 (x0:Aa) (z1:Unit):List Res:=[.box 29 (d29 x0)]
def Aeq (x0:Aa) (z2:Int):St:=[(1,dO 0 0),(2,dB false),(74,dI (ln x0.Ac)),(75,dI z2)]
def Apf (x0:Aa) (z2:Int):List Res:=[.box 29 (d29 x0)]
def Ark  (z2:Int):St:=[(1,dO 0 0),(2,dB false)]
def Au7 (x0:Aa) (z2:Int):List Res:=[.box 29 (d29 x0)]
def Aep (x0:Aa) (z3:Int):St:=[(1,dO 0 0),(2,dB false),(86,dI (ln x0.Af)),(87,dI z3)]
def Ape (x0:Aa) (z3:Int):List Res:=[.box 29 (d29 x0)]
def Arj  (z3:Int):St:=[(2,dB false)]
def Au6  (z3:Int):List Res:=[]
theorem k95 (x0 : Aa) (r : Bool) (h : F95 x0 = some r) : CO 95 [.agg (d29 x0)] [] (.d (Bo r)) [] := by
 unfold F95 at h
 refine co 96 Tryz.func95 λ C hC=>?_
 refine ws Eb 26 [] [pl q49 x0.Ad] [] 0 [0] (S7 x0 0 ()) (uB x0 0 ()) hC [] ?_
 obtain⟨w0,hm0,hret0,hnext0⟩:=Av h
 clear h
 refine wc w0 (Arm) (Au9 x0) ?_ λ z0 hs0=>?_
 ·refine wb ?_
  refine Bq 10 rfl λ hl0=>?_
  refine wl (S7 x0) (uB x0) hm0 (λ z0 hn0=>?_) λ n0 a0 z0 w0b hi0 hx0 h hb0 hr0=>?_
  ·clear hm0
   exact wx w0 (Arm) (Au9 x0) Eb 26 [false] [] [] 0 [0] _ hC [pq (A5 hl0)] hn0
  ·unfold Aji at h
   refine wn Eb 33 [true] [pt hx0 hl0,pc e46 (k46 a0.A 0 (w64 (x0.Am-1)) _ rfl) []] [] 0 [0,1] [1,2,3,4,10,11,12,23] hC [pq (A4 hi0 hl0)] ?_
   rcases cB h with⟨h1,h⟩ | ⟨h1,h⟩
   ·have hq:=hret0 _ (hr0 _ (sI h).symm)
    replace hq:=sI hq
    subst hq
    exact wr Eb 24 [true] [] [] 0 [] hC [pq h1]
   ·rcases cB h with ⟨h2, h⟩ | ⟨h2, h⟩
    ·rcases cB h with⟨h3,h⟩ | ⟨h3,h⟩
     ·have hq:=hret0 _ (hr0 _ (sI h).symm)
      replace hq:=sI hq
      subst hq
      exact wr Eb 34 [false,true,true] [pc e46 (k46 a0.B (w64 (a0.A+1)) (w64 (x0.Am-1)) _ rfl) []] [] 0 [] hC [pq h1,pq h2,pq h3]
     ·exact wx w0b (S7 x0 (n0+1)) (uB x0 (n0+1)) Eb 36 [false,true,false] [pc e46 (k46 a0.B (w64 (a0.A+1)) (w64 (x0.Am-1)) _ rfl) []] [] 0 [0] _ hC [pq h1,pq h2,pq h3] (sI h).symm
    ·rcases cB h with⟨h4,h⟩ | ⟨h4,h⟩
     ·refine wn Eb 34 [false,false,true] [pl q98 x0.Ac,pc e46 (k46 a0.B 0 (w64 ((ln x0.Ac)-1)) _ rfl) []] [] 0 [0] [1,2,10,11,12,47] hC [pq h1,pq h2,pq h4] ?_
      rcases cB h with⟨h5,h⟩ | ⟨h5,h⟩
      ·have hq:=hret0 _ (hr0 _ (sI h).symm)
       replace hq:=sI hq
       subst hq
       exact wr Eb 24 [true] [] [] 0 [] hC [pq h5]
      ·exact wx w0b (S7 x0 (n0+1)) (uB x0 (n0+1)) Eb 26 [false] [] [] 0 [0] _ hC [pq h5] (sI h).symm
     ·rcases cB h with⟨h6,h⟩ | ⟨h6,h⟩
      ·refine wn Eb 38 [false,false,false,true] [pl q90 x0.Af,pc e46 (k46 a0.B 0 (w64 ((ln x0.Af)-1)) _ rfl) []] [] 0 [0,1] [1,2,3,4,10,11,12,57] hC [pq h1,pq h2,pq h4,pq h6] ?_
       rcases cB h with⟨h7,h⟩ | ⟨h7,h⟩
       ·have hq:=hret0 _ (hr0 _ (sI h).symm)
        replace hq:=sI hq
        subst hq
        exact wr Eb 24 [true] [] [] 0 [] hC [pq h7]
       ·obtain⟨y9,h8,h⟩:=Aw h
        refine ws Eb 25 [false] [⟨.cut (x0.Ad.map q49) 3 0 (cnt 0 n0) (y9.map q49),Amf q49 3 (λ _=>rfl) h8⟩,pl q49 y9] [] 0 [0,1] (Aer x0 n0 y9 0 ()) (Apg x0 a0 0 ()) hC [pq h7] ?_
        obtain⟨w1,hm1,hret1,hnext1⟩:=Av h
        clear h
        refine wc w1 (Arl x0 n0) (Au8 x0) ?_ λ z1 hs1=>?_
        ·refine wb ?_
         refine Bq 61 rfl λ hl1=>?_
         refine wl (Aer x0 n0 y9) (Apg x0 a0) hm1 (λ z1 hn1=>?_) λ n1 a1 z1 w1b hi1 hx1 h hb1 hr1=>?_
         ·clear hm1
          exact wx w1 (Arl x0 n0) (Au8 x0) Eb 26 [false] [] [] 0 [0] _ hC [pq (A5 hl1)] hn1
         ·unfold uH at h
          rcases cB h with⟨h10,h⟩ | ⟨h10,h⟩
          ·have hq:=hret1 _ (hr1 _ (sI h).symm)
           replace hq:=hret0 _ (hr0 _ (sI hq).symm)
           replace hq:=sI hq
           subst hq
           exact wr Eb 35 [true,true] [pt hx1 hl1] [] 0 [] hC [pq (A4 hi1 hl1),pq h10]
          ·exact wx w1b (Aer x0 n0 y9 (n1+1)) (Apg x0 a0 (n1+1)) Eb 36 [true,false] [pt hx1 hl1] [] 0 [0,1] _ hC [pq (A4 hi1 hl1),pq h10] (sI h).symm
        ·have h:=hnext1 _ hs1
         exact wx w0b (S7 x0 (n0+1)) (uB x0 (n0+1)) Eb 24 [] [] [] 0 [0] _ hC [] (sI h).symm
      ·have hq:=hret0 _ (hr0 _ (sI h).symm)
       replace hq:=sI hq
       subst hq
       exact wr Eb 37 [false,false,false,false] [] [] 0 [] hC [pq h1,pq h2,pq h4,pq h6]
 ·have h:=hnext0 _ hs0
  refine ws Eb 24 [] [pl q98 x0.Ac] [] 0 [0] (Aeq x0 0) (Apf x0 0) hC [] ?_
  obtain⟨w2,hm2,hret2,hnext2⟩:=Av h
  clear h
  refine wc w2 (Ark) (Au7 x0) ?_ λ z2 hs2=>?_
  ·refine wb ?_
   refine ww (Aeq x0) (Apf x0) hm2 λ z2 w2b h hb2 hr2=>?_
   unfold Ajh at h
   rcases cB h with⟨h11,h⟩ | ⟨h11,h⟩
   ·obtain⟨y12,h13,h⟩:=Aw h
    refine wn Eb 32 [true] [pc e49 (k49 x0 2 z2 _ h13) [],pl pI y12] [] 0 [0] [1,2,74,75,82] hC [pq h11] ?_
    rcases cB h with⟨h14,h⟩ | ⟨h14,h⟩
    ·have hq:=hret2 _ (hr2 _ (sI h).symm)
     replace hq:=sI hq
     subst hq
     exact wr Eb 24 [true] [] [] 0 [] hC [pq h14]
    ·exact wx w2b (Aeq x0) (Apf x0) Eb 25 [false] [] [] 0 [0] _ hC [pq h14] (sI h).symm
   ·exact wx w2 (Ark) (Au7 x0) Eb 26 [false] [] [] 0 [0] z2 hC [pq h11] (hb2 _ (sI h).symm)
  ·have h:=hnext2 _ hs2
   refine ws Eb 24 [] [pl q90 x0.Af] [] 0 [0] (Aep x0 0) (Ape x0 0) hC [] ?_
   obtain⟨w3,hm3,hret3,hnext3⟩:=Av h
   clear h
   refine wc w3 (Arj) (Au6) ?_ λ z3 hs3=>?_
   ·refine wb ?_
    refine ww (Aep x0) (Ape x0) hm3 λ z3 w3b h hb3 hr3=>?_
    unfold Ajg at h
    rcases cB h with⟨h15,h⟩ | ⟨h15,h⟩
    ·obtain⟨y16,h17,h⟩:=Aw h
     refine wn Eb 32 [true] [pc e49 (k49 x0 3 z3 _ h17) [],pl pI y16] [] 0 [0] [1,2,86,87,94] hC [pq h15] ?_
     rcases cB h with⟨h18,h⟩ | ⟨h18,h⟩
     ·have hq:=hret3 _ (hr3 _ (sI h).symm)
      replace hq:=sI hq
      subst hq
      exact wr Eb 24 [true] [] [] 0 [] hC [pq h18]
     ·exact wx w3b (Aep x0) (Ape x0) Eb 25 [false] [] [] 0 [0] _ hC [pq h18] (sI h).symm
    ·exact wx w3 (Arj) (Au6) Eb 26 [false] [] [] 0 [] z3 hC [pq h15] (hb3 _ (sI h).symm)
   ·have h:=hnext3 _ hs3
    replace h:=sI h
    subst h
    exact wr Eb 23 [] [] [] 0 [] hC []
theorem e95:EN 95:=en Tryz.func95
def yD:List Nat:=[0,1,2,4,6,7,8,9,29]
def Aeo (x0:Aa) (n0:Nat) (z0:Unit):St:=[(2,dB false),(6,.d (DS q98 x0.Ac)),(7,dI (ln x0.Ac)),(8,dI (cnt 0 n0))]
def Apd  (n0:Nat) (z0:Unit):List Res:=[]
def Ari  (z0:Unit):St:=[(2,dB false)]
def Au5  (z0:Unit):List Res:=[]
theorem k96 (x0:Aa) (r:Bool) (h:F96 x0=some r):CO 96 [.agg (d29 x0)] [] (.d (Bo r)) []:=by
 unfold F96 at h
 refine co 31 Tryz.func96 λ C hC=>?_
 refine ws yD 26 [] [pl q98 x0.Ac] [] 0 [] (Aeo x0 0 ()) (Apd 0 ()) hC [] ?_
 obtain⟨w0,hm0,hret0,hnext0⟩:=Av h
 clear h
 refine wc w0 (Ari) (Au5) ?_ λ z0 hs0=>?_
 ·refine wb ?_
  refine Bq 6 rfl λ hl0=>?_
  refine wl (Aeo x0) (Apd) hm0 (λ z0 hn0=>?_) λ n0 a0 z0 w0b hi0 hx0 h hb0 hr0=>?_
  ·clear hm0
   exact wx w0 (Ari) (Au5) yD 26 [false] [] [] 0 [] _ hC [pq (A5 hl0)] hn0
  ·unfold Ajf at h
   refine wn yD 32 [true] [pt hx0 hl0,pc e46 (k46 a0.Rating 1 50000 _ rfl) [],⟨.when [(!(F46 a0.Rating 1 50000),false)] (.call 46 [dI a0.Least,dI 0,dI a0.Rating] [] (dB (F46 a0.Least 0 a0.Rating)) [] []),λ hg=>⟨e46,(k46 a0.Least 0 a0.Rating _ rfl)⟩⟩,⟨.when [(((!(F46 a0.Rating 1 50000)) || (!(F46 a0.Least 0 a0.Rating))),false)] (.call 46 [dI a0.Start,dI 0,dI 600] [] (dB (F46 a0.Start 0 600)) [] []),λ hg=>⟨e46,(k46 a0.Start 0 600 _ rfl)⟩⟩] [] 0 [] [2,6,7,8,29] hC [pq (A4 hi0 hl0)] ?_
   rcases cB h with⟨h1,h⟩ | ⟨h1,h⟩
   ·have hq:=hret0 _ (hr0 _ (sI h).symm)
    replace hq:=sI hq
    subst hq
    exact wr yD 24 [true] [] [] 0 [] hC [pq h1]
   ·exact wx w0b (Aeo x0 (n0+1)) (Apd (n0+1)) yD 25 [false] [] [] 0 [] _ hC [pq h1] (sI h).symm
 ·have h:=hnext0 _ hs0
  replace h:=sI h
  subst h
  exact wr yD 23 [] [] [] 0 [] hC []
theorem e96:EN 96:=en Tryz.func96
def M_:List Nat:=[0,1,2,3,4,5,6,8,9,10,11,44,46,47,48,49,71]
def Aen (x0:Aa) (n0:Nat) (z0:Unit):St:=[(2,dB false),(8,.d (DS q90 x0.Af)),(9,dI (ln x0.Af)),(10,dI (cnt 0 n0))]
def Apc  (n0:Nat) (z0:Unit):List Res:=[]
def Arh  (z0:Unit):St:=[(2,dB false)]
def Au4  (z0:Unit):List Res:=[]
def Aem (x0:Aa) (n0:Nat) (a0:A3) (n1:Nat) (z1:Unit):St:=[(2,dB false),(3,dI (cnt 0 n0)),(4,dO 0 0),(8,.d (DS q90 x0.Af)),(9,dI (ln x0.Af)),(10,dI (cnt 0 n0)),(46,.d (DS pI a0.Needs)),(47,dI (ln a0.Needs)),(48,dI (cnt 0 n1))]
def Apb (a0:A3) (n1:Nat) (z1:Unit):List Res:=[.box 90 (d90 a0)]
def Arg (x0:Aa) (n0:Nat) (z1:Unit):St:=[(2,dB false),(8,.d (DS q90 x0.Af)),(9,dI (ln x0.Af)),(10,dI (cnt 0 n0))]
def Au3  (z1:Unit):List Res:=[]
theorem k97 (x0:Aa) (r:Bool) (h:F97 x0=some r):CO 97 [.agg (d29 x0)] [] (.d (Bo r)) []:=by
 unfold F97 at h
 refine co 74 Tryz.func97 λ C hC=>?_
 refine ws M_ 26 [] [pl q90 x0.Af] [] 0 [] (Aen x0 0 ()) (Apc 0 ()) hC [] ?_
 obtain⟨w0,hm0,hret0,hnext0⟩:=Av h
 clear h
 refine wc w0 (Arh) (Au4) ?_ λ z0 hs0=>?_
 ·refine wb ?_
  refine Bq 8 rfl λ hl0=>?_
  refine wl (Aen x0) (Apc) hm0 (λ z0 hn0=>?_) λ n0 a0 z0 w0b hi0 hx0 h hb0 hr0=>?_
  ·clear hm0
   exact wx w0 (Arh) (Au4) M_ 26 [false] [] [] 0 [] _ hC [pq (A5 hl0)] hn0
  ·unfold Aje at h
   refine wn M_ 33 [true] [pt hx0 hl0,pc e46 (k46 a0.Load 0 50000 _ rfl) [],⟨.when [(!(F46 a0.Load 0 50000),false)] (.call 46 [dI a0.Least,dI 0,dI a0.Load] [] (dB (F46 a0.Least 0 a0.Load)) [] []),λ hg=>⟨e46,(k46 a0.Least 0 a0.Load _ rfl)⟩⟩,⟨.when [(((!(F46 a0.Load 0 50000)) || (!(F46 a0.Least 0 a0.Load))),false)] (.call 46 [dI a0.Bl,dI 0,dI 15] [] (dB (F46 a0.Bl 0 15)) [] []),λ hg=>⟨e46,(k46 a0.Bl 0 15 _ rfl)⟩⟩,⟨.when [((((!(F46 a0.Load 0 50000)) || (!(F46 a0.Least 0 a0.Load))) || (!(F46 a0.Bl 0 15))),false)] (.call 46 [dI a0.Thruster,dI (-1),dI 7] [] (dB (F46 a0.Thruster (-1) 7)) [] []),λ hg=>⟨e46,(k46 a0.Thruster (-1) 7 _ rfl)⟩⟩,pL_ [(((((!(F46 a0.Load 0 50000)) || (!(F46 a0.Least 0 a0.Load))) || (!(F46 a0.Bl 0 15))) || (!(F46 a0.Thruster (-1) 7))),false)] pI a0.Needs] [] 0 [0] [2,3,4,8,9,10,44] hC [pq (A4 hi0 hl0)] ?_
   rcases cB h with⟨h1,h⟩ | ⟨h1,h⟩
   ·have hq:=hret0 _ (hr0 _ (sI h).symm)
    replace hq:=sI hq
    subst hq
    exact wr M_ 24 [true] [] [] 0 [] hC [pq h1]
   ·refine ws M_ 25 [false] [pl pI a0.Needs] [] 0 [0] (Aem x0 n0 a0 0 ()) (Apb a0 0 ()) hC [pq h1] ?_
    obtain⟨w1,hm1,hret1,hnext1⟩:=Av h
    clear h
    refine wc w1 (Arg x0 n0) (Au3) ?_ λ z1 hs1=>?_
    ·refine wb ?_
     refine Bq 46 rfl λ hl1=>?_
     refine wl (Aem x0 n0 a0) (Apb a0) hm1 (λ z1 hn1=>?_) λ n1 a1 z1 w1b hi1 hx1 h hb1 hr1=>?_
     ·clear hm1
      exact wx w1 (Arg x0 n0) (Au3) M_ 26 [false] [] [] 0 [] _ hC [pq (A5 hl1)] hn1
     ·unfold Ajd at h
      obtain⟨y2,h3,h⟩:=Aw h
      refine wn M_ 32 [true] [pt hx1 hl1,pc e46 (k46 a1 0 (w64 ((cnt 0 n0)-1)) _ rfl) [],pR pI h3] [] 0 [0] [2,3,4,8,9,10,46,47,48,71] hC [pq (A4 hi1 hl1)] ?_
      rcases cB h with⟨h4,h⟩ | ⟨h4,h⟩
      ·have hq:=hret1 _ (hr1 _ (sI h).symm)
       replace hq:=hret0 _ (hr0 _ (sI hq).symm)
       replace hq:=sI hq
       subst hq
       exact wr M_ 24 [true] [] [] 0 [] hC [pq h4]
      ·exact wx w1b (Aem x0 n0 a0 (n1+1)) (Apb a0 (n1+1)) M_ 25 [false] [] [] 0 [0] _ hC [pq h4] (sI h).symm
    ·have h:=hnext1 _ hs1
     exact wx w0b (Aen x0 (n0+1)) (Apc (n0+1)) M_ 23 [] [] [] 0 [] _ hC [] (sI h).symm
 ·have h:=hnext0 _ hs0
  replace h:=sI h
  subst h
  exact wr M_ 23 [] [] [] 0 [] hC []
theorem e97:EN 97:=en Tryz.func97
def Adf:List Nat:=[0,1,2,3,4,6,7,16,18,19,25]
theorem A67 (x0:Aa) (x1:Ab) (x2:Int) (r:Bool) (h:Akm x0 x1 x2=some r):CO 118 [.agg (d29 x0),.agg (d34 x1),.d (I x2)] [] (.d (Bo r)) []:=by
 unfold Akm at h
 refine co 45 Tryz.func118 λ C hC=>?_
 obtain⟨y1,h2,y3,h4,h⟩:=A_ h
 rcases cB h with⟨h5,h⟩ | ⟨h5,h⟩
 ·replace h:=sI h
  subst h
  exact wr Adf 31 [true] [pr q49 h2,pc e15 (k15 x1 3 y1.A _ h4) []] [] 0 [] hC [pq h5]
 ·rcases cB h with⟨h6,h⟩ | ⟨h6,h⟩
  ·obtain⟨y7,h8,h⟩:=Aw h
   replace h:=sI h
   subst h
   exact wr Adf 39 [false,true] [pr q49 h2,pc e15 (k15 x1 3 y1.A _ h4) [],pc e15 (k15 x1 3 y1.B _ h8) []] [] 0 [] hC [pq h5,pq h6]
  ·rcases cB h with⟨h9,h⟩ | ⟨h9,h⟩
   ·obtain⟨y10,h11,y12,h13,h⟩:=A_ h
    replace h:=sI h
    subst h
    exact wr Adf 42 [false,false,true] [pr q49 h2,pc e15 (k15 x1 3 y1.A _ h4) [],pc e15 (k15 x1 1 y1.B _ h11) [],pR q87 h13] [] 0 [] hC [pq h5,pq h6,pq h9]
   ·obtain⟨y14,h15,h⟩:=Aw h
    replace h:=sI h
    subst h
    exact wr Adf 44 [false,false,false] [pr q49 h2,pc e15 (k15 x1 3 y1.A _ h4) [],pc e15 (k15 x1 4 y1.B _ h15) []] [] 0 [] hC [pq h5,pq h6,pq h9]
theorem A7v:EN 118:=en Tryz.func118
theorem k59 (x0:List Int) (x1:Int) (r:Bool) (h:F59 x0 x1=some r):CO 59 [.d (DS pI x0),.d (I x1)] [] (.d (Bo r)) []:=by
 unfold F59 at h
 refine co 9 Tryz.func59 λ C hC=>?_
 obtain⟨y1,h2,h⟩:=Aw h
 replace h:=sI h
 subst h
 exact wr [0,1,4] 25 [] [pc A70 (A7c x0 x1 _ h2) []] [] 0 [] hC []
theorem e59:EN 59:=en Tryz.func59
def Pq:List Nat:=[0,1,4,5,7,8,9,16]
def Ta (x0:List (List Int)) (n0:Nat) (z0:Unit):St:=[(0,.d (DS (pL pI) x0)),(1,.d (.fn (.func 140) [] [])),(4,dI 0),(7,dI (ln x0)),(8,dI (cnt 0 n0))]
def Yp  (n0:Nat) (z0:Unit):List Res:=[]
def Aax  (z0:Unit):St:=[(4,dI 0)]
def Ab8  (z0:Unit):List Res:=[]
theorem A2n (x0:List (List Int)) (r:Int) (h:uW x0=some r):CO 168 [.d (DS (pL pI) x0),.d (.fn (.func 140) [] [])] [] (.d (I r)) []:=by
 unfold uW at h
 refine co 19 Tryz.func168 λ C hC=>?_
 refine ws Pq 26 [] [pl (pL pI) x0] [] 0 [] (Ta x0 0 ()) (Yp 0 ()) hC [] ?_
 obtain⟨w0,hm0,hret0,hnext0⟩:=Av h
 clear h
 refine wc w0 (Aax) (Ab8) ?_ λ z0 hs0=>?_
 ·refine wb ?_
  refine Bq 0 rfl λ hl0=>?_
  refine wl (Ta x0) (Yp) hm0 (λ z0 hn0=>?_) λ n0 a0 z0 w0b hi0 hx0 h hb0 hr0=>?_
  ·clear hm0
   exact wx w0 (Aax) (Ab8) Pq 26 [false] [] [] 0 [] _ hC [pq (A5 hl0)] hn0
  ·unfold Acw at h
   rcases cB h with⟨h1,h⟩ | ⟨h1,h⟩
   ·have hq:=hret0 _ (hr0 _ (sI h).symm)
    replace hq:=sI hq
    subst hq
    exact wr Pq 35 [true,true] [pt hx0 hl0,pc A35 (A2x a0 _ rfl) []] [] 0 [] hC [pq (A4 hi0 hl0),pq h1]
   ·exact wx w0b (Ta x0 (n0+1)) (Yp (n0+1)) Pq 36 [true,false] [pt hx0 hl0,pc A35 (A2x a0 _ rfl) []] [] 0 [] _ hC [pq (A4 hi0 hl0),pq h1] (sI h).symm
 ·have h:=hnext0 _ hs0
  replace h:=sI h
  subst h
  exact wr Pq 23 [] [] [] 0 [] hC []
theorem A3v:EN 168:=en Tryz.func168
theorem A7e (x0:Bc) (r:Bool) (h:Aah x0=r):CO 100 [.agg (d98 x0)] [] (.d (Bo r)) []:=by
 unfold Aah at h
 refine co 18 Tryz.func100 λ C hC=>?_
 subst h
 exact wr n3_ 25 [] [pc e93 (k93 x0.Rating 1 50000 _ rfl) [],⟨.when [(F93 x0.Rating 1 50000,true)] (.call 93 [dI x0.Least,dI 0,dI x0.Rating] [] (dB (F93 x0.Least 0 x0.Rating)) [] []),λ hg=>⟨e93,(k93 x0.Least 0 x0.Rating _ rfl)⟩⟩,⟨.when [(((F93 x0.Rating 1 50000)&&(F93 x0.Least 0 x0.Rating)),true)] (.call 93 [dI x0.Start,dI 0,dI 600] [] (dB (F93 x0.Start 0 600)) [] []),λ hg=>⟨e93,(k93 x0.Start 0 600 _ rfl)⟩⟩] [] 0 [] hC []
theorem A72:EN 100:=en Tryz.func100
def V9:List Nat:=[0,1,2,4,5,6,8,9,10,11,33]
def vS (x0:A3) (x1:Int) (n0:Nat) (z0:Unit):St:=[(1,dI x1),(2,dO 0 0),(4,dB false),(8,.d (DS pI x0.Needs)),(9,dI (ln x0.Needs)),(10,dI (cnt 0 n0))]
def Ai6 (x0:A3) (n0:Nat) (z0:Unit):List Res:=[.box 90 (d90 x0)]
def Al0  (z0:Unit):St:=[(2,dO 0 0),(4,dB false)]
def Am4 (x0:A3) (z0:Unit):List Res:=[.box 90 (d90 x0)]
theorem A7d (x0:A3) (x1:Int) (r:Bool) (h:Aag x0 x1=some r):CO 101 [.agg (d90 x0),.d (I x1)] [] (.d (Bo r)) []:=by
 unfold Aag at h
 refine co 61 Tryz.func101 λ C hC=>?_
 refine ws V9 26 [] [pl pI x0.Needs] [] 0 [0] (vS x0 x1 0 ()) (Ai6 x0 0 ()) hC [] ?_
 obtain⟨w0,hm0,hret0,hnext0⟩:=Av h
 clear h
 refine wc w0 (Al0) (Am4 x0) ?_ λ z0 hs0=>?_
 ·refine wb ?_
  refine Bq 8 rfl λ hl0=>?_
  refine wl (vS x0 x1) (Ai6 x0) hm0 (λ z0 hn0=>?_) λ n0 a0 z0 w0b hi0 hx0 h hb0 hr0=>?_
  ·clear hm0
   exact wx w0 (Al0) (Am4 x0) V9 26 [false] [] [] 0 [0] _ hC [pq (A5 hl0)] hn0
  ·unfold W5 at h
   obtain⟨y1,h2,h⟩:=Aw h
   refine wn V9 32 [true] [pt hx0 hl0,pc e93 (k93 a0 0 (w64 (x1-1)) _ rfl) [],pR pI h2] [] 0 [0] [1,2,4,8,9,10,33] hC [pq (A4 hi0 hl0)] ?_
   rcases cB h with⟨h3,h⟩ | ⟨h3,h⟩
   ·have hq:=hret0 _ (hr0 _ (sI h).symm)
    replace hq:=sI hq
    subst hq
    exact wr V9 24 [true] [] [] 0 [] hC [pq h3]
   ·exact wx w0b (vS x0 x1 (n0+1)) (Ai6 x0 (n0+1)) V9 25 [false] [] [] 0 [0] _ hC [pq h3] (sI h).symm
 ·have h:=hnext0 _ hs0
  replace h:=sI h
  subst h
  exact wr V9 23 [] [pc e93 (k93 x0.Load 0 50000 _ rfl) [],⟨.when [(F93 x0.Load 0 50000,true)] (.call 93 [dI x0.Least,dI 0,dI x0.Load] [] (dB (F93 x0.Least 0 x0.Load)) [] []),λ hg=>⟨e93,(k93 x0.Least 0 x0.Load _ rfl)⟩⟩,⟨.when [(((F93 x0.Load 0 50000)&&(F93 x0.Least 0 x0.Load)),true)] (.call 93 [dI x0.Bl,dI 0,dI 15] [] (dB (F93 x0.Bl 0 15)) [] []),λ hg=>⟨e93,(k93 x0.Bl 0 15 _ rfl)⟩⟩,⟨.when [((((F93 x0.Load 0 50000)&&(F93 x0.Least 0 x0.Load))&&(F93 x0.Bl 0 15)),true)] (.call 93 [dI x0.Thruster,dI (-1),dI 7] [] (dB (F93 x0.Thruster (-1) 7)) [] []),λ hg=>⟨e93,(k93 x0.Thruster (-1) 7 _ rfl)⟩⟩,pL_ [(((((F93 x0.Load 0 50000)&&(F93 x0.Least 0 x0.Load))&&(F93 x0.Bl 0 15))&&(F93 x0.Thruster (-1) 7)),true)] pI x0.Needs] [] 0 [] hC []
theorem A71:EN 101:=en Tryz.func101
def V6:List Nat:=[0,1,4,5,6,11,12,13,16,19]
theorem Axy (x0:Int) (x1:Int) (r:Int) (h:K1 x0 x1=r):CO 134 [.d (I x0),.d (I x1)] [] (.d (I r)) []:=by
 unfold K1 at h
 refine co 20 Tryz.func134 λ C hC=>?_
 rcases cB h with⟨h1,h⟩ | ⟨h1,h⟩
 ·rcases cB h with⟨h2,h⟩ | ⟨h2,h⟩
  ·subst h
   exact wr V6 37 [true,true] [pc L6 (L5 x0 _ rfl) [],pc L6 (L5 x1 _ rfl) []] [] 0 [] hC [pq h1,pq h2]
  ·subst h
   exact wr V6 38 [true,false] [pc L6 (L5 x0 _ rfl) [],pc L6 (L5 x1 _ rfl) []] [] 0 [] hC [pq h1,pq h2]
 ·rcases cB h with⟨h3,h⟩ | ⟨h3,h⟩
  ·subst h
   exact wr V6 38 [false,true] [pc L6 (L5 x0 _ rfl) [],pc L6 (L5 x1 _ rfl) []] [] 0 [] hC [pq h1,pq h3]
  ·rcases cB h with⟨h4,h⟩ | ⟨h4,h⟩
   ·subst h
    exact wr V6 43 [false,false,true] [pc L6 (L5 x0 _ rfl) [],pc L6 (L5 x1 _ rfl) []] [] 0 [] hC [pq h1,pq h3,pq h4]
   ·rcases cB h with⟨h5,h⟩ | ⟨h5,h⟩
    ·subst h
     exact wr V6 48 [false,false,false,true] [pc L6 (L5 x0 _ rfl) [],pc L6 (L5 x1 _ rfl) []] [] 0 [] hC [pq h1,pq h3,pq h4,pq h5]
    ·subst h
     exact wr V6 49 [false,false,false,false] [pc L6 (L5 x0 _ rfl) [],pc L6 (L5 x1 _ rfl) []] [] 0 [] hC [pq h1,pq h3,pq h4,pq h5]
theorem Ayg:EN 134:=en Tryz.func134
theorem k92 (x0:Ai) (r:Bool) (h:F92 x0=r):CO 92 [.agg (d87 x0)] [] (.d (Bo r)) []:=by
 unfold F92 at h
 refine co 21 Tryz.func92 λ C hC=>?_
 subst h
 exact wr n3_ 25 [] [pc e93 (k93 x0.State 0 3 _ rfl) [],⟨.when [(F93 x0.State 0 3,true)] (.call 93 [dI x0.Since,dI 0,dI 2147483648] [] (dB (F93 x0.Since 0 2147483648)) [] []),λ hg=>⟨e93,(k93 x0.Since 0 2147483648 _ rfl)⟩⟩,⟨.when [(((F93 x0.State 0 3)&&(F93 x0.Since 0 2147483648)),true)] (.call 93 [dI x0.Au,dI 0,dI 6000] [] (dB (F93 x0.Au 0 6000)) [] []),λ hg=>⟨e93,(k93 x0.Au 0 6000 _ rfl)⟩⟩,⟨.when [((((F93 x0.State 0 3)&&(F93 x0.Since 0 2147483648))&&(F93 x0.Au 0 6000)),true)] (.call 93 [dI x0.Phase,dI 0,dI 3599] [] (dB (F93 x0.Phase 0 3599)) [] []),λ hg=>⟨e93,(k93 x0.Phase 0 3599 _ rfl)⟩⟩] [] 0 [] hC []
theorem e92:EN 92:=en Tryz.func92
theorem k35 (x0:Ab) (r:Ab) (h:F35 x0=some r):CO 35 [.agg (d34 x0)] [] (.agg [.os 0,.os 1,.os 2,.os 3]) (zp r []):=by
 unfold F35 at h
 refine co 16 Tryz.func35 λ C hC=>?_
 obtain⟨y1,h2,y3,h4,y5,h6,y7,h8,h⟩:=C8 h
 replace h:=sI h
 subst h
 exact wr n3_ 25 [] [pc e78 (k78 x0.Ae _ h2) [],pc e79 (k79 x0.Ac _ h4) [],pc e80 (k80 x0.Al _ h6) [],pc e81 (k81 x0.Ah _ h8) []] [] 0 [2,3,4,5] hC []
theorem e35:EN 35:=en Tryz.func35
theorem A65 (x0:List As) (x1:As) (r:Bool) (h:Aqo x0 x1=some r):CO 129 [.d (DS q92 x0),.agg (d92 x1)] [] (.d (Bo r)) []:=by
 unfold Aqo at h
 refine co 9 Tryz.func129 λ C hC=>?_
 obtain⟨y1,h2,h⟩:=Aw h
 replace h:=sI h
 subst h
 exact wr [0,1,3,4] 25 [] [pc A7l (A6x x0 x1 _ h2) []] [] 0 [] hC []
theorem A7t:EN 129:=en Tryz.func129
def An3:List Nat:=[0,1,2,3,4,6,7,23]
theorem Axv (x0:Aa) (x1:Ab) (x2:Int) (r:Int×Bool) (h:Y_ x0 x1 x2=some r):CO 156 [.agg (d29 x0),.agg (d34 x1),.d (I x2)] [] (.tup [.d (I r.1),.d (Bo r.2)]) []:=by
 unfold Y_ at h
 refine co 30 Tryz.func156 λ C hC=>?_
 obtain⟨y1,h2,h⟩:=Aw h
 refine wn An3 26 [] [pl q87 x1.Ac,pc e93 (k93 x2 0 (w64 ((ln x1.Ac)-1)) _ rfl) [],pR q87 h2] [] 0 [0,1] [2,3,4,6,7,23] hC [] ?_
 rcases cB h with⟨h3,h⟩ | ⟨h3,h⟩
 ·replace h:=sI h
  subst h
  exact wr An3 24 [true] [] [] 0 [] hC [pq h3]
 ·obtain⟨y4,h5,h⟩:=Aw h
  replace h:=sI h
  subst h
  exact wr An3 25 [false] [pc A3w (A2o x0 x1 2 x2 _ h5) []] [] 0 [] hC [pq h3]
theorem Ayd:EN 156:=en Tryz.func156
theorem Axx (x0:Aa) (x1:Ab) (x2:Int) (r:Int×Bool) (h:Zc x0 x1 x2=some r):CO 135 [.agg (d29 x0),.agg (d34 x1),.d (I x2)] [] (.tup [.d (I r.1),.d (Bo r.2)]) []:=by
 unfold Zc at h
 refine co 14 Tryz.func135 λ C hC=>?_
 obtain⟨y1,h2,h⟩:=Aw h
 replace h:=sI h
 subst h
 exact wr [0,1,2,3,4,6,7] 25 [] [pc A3w (A2o x0 x1 3 x2 _ h2) []] [] 0 [] hC []
theorem Ayf:EN 135:=en Tryz.func135
def Mm:List Nat:=[0,1,4,5,7,8,9,16]
def S_ (x0:List Aj) (n0:Nat) (z0:Unit):St:=[(0,.d (DS q62 x0)),(1,.d (.fn (.func 158) [] [])),(4,dI 0),(7,dI (ln x0)),(8,dI (cnt 0 n0))]
def Yo  (n0:Nat) (z0:Unit):List Res:=[]
def Aaw  (z0:Unit):St:=[(4,dI 0)]
def Ab7  (z0:Unit):List Res:=[]
theorem Atd (x0:List Aj) (r:Int) (h:U2 x0=some r):CO 174 [.d (DS q62 x0),.d (.fn (.func 158) [] [])] [] (.d (I r)) []:=by
 unfold U2 at h
 refine co 19 Tryz.func174 λ C hC=>?_
 refine ws Mm 26 [] [pl q62 x0] [] 0 [] (S_ x0 0 ()) (Yo 0 ()) hC [] ?_
 obtain⟨w0,hm0,hret0,hnext0⟩:=Av h
 clear h
 refine wc w0 (Aaw) (Ab7) ?_ λ z0 hs0=>?_
 ·refine wb ?_
  refine Bq 0 rfl λ hl0=>?_
  refine wl (S_ x0) (Yo) hm0 (λ z0 hn0=>?_) λ n0 a0 z0 w0b hi0 hx0 h hb0 hr0=>?_
  ·clear hm0
   exact wx w0 (Aaw) (Ab7) Mm 26 [false] [] [] 0 [] _ hC [pq (A5 hl0)] hn0
  ·unfold Acv at h
   refine wn Mm 32 [true] [pt hx0 hl0,pc A30 (A2s a0 _ rfl) []] [] 0 [] [0,1,4,5,7,8,16] hC [pq (A4 hi0 hl0)] ?_
   rcases cB h with⟨h1,h⟩ | ⟨h1,h⟩
   ·have hq:=hret0 _ (hr0 _ (sI h).symm)
    replace hq:=sI hq
    subst hq
    exact wr Mm 24 [true] [] [] 0 [] hC [pq h1]
   ·exact wx w0b (S_ x0 (n0+1)) (Yo (n0+1)) Mm 25 [false] [] [] 0 [] _ hC [pq h1] (sI h).symm
 ·have h:=hnext0 _ hs0
  replace h:=sI h
  subst h
  exact wr Mm 23 [] [] [] 0 [] hC []
theorem At5:EN 174:=en Tryz.func174
def Ic:List Nat:=[0,1,4,5,6,8,13,14,15,16,32,38,39,40,41]
def N3 (x0:Ax) (n0:Nat) (z0:(List Int)):St:=[(0,dO 0 0),(1,.d (.fn (.func 161) [] [.o 6 0])),(4,dS 7),(13,.d (DS q49 x0.An.Ad)),(14,dI (ln x0.An.Ad)),(15,dI (cnt 0 n0))]
def Sb (x0:Ax) (x1c0:Int) (n0:Nat) (z0:(List Int)):List Res:=(.box 147 (zb x0.An [.os 8,.os 9,.os 10,.os 11,.os 12]) :: .non :: .non :: .non :: .non :: .non :: .box 3 [I x1c0]::v0_ z0::zp x0.Ao [v2_ x0.acts])
def Abc  (z0:(List Int)):St:=[(0,dO 0 0),(4,dS 7)]
def Acn (x0:Ax) (x1c0:Int) (z0:(List Int)):List Res:=(.box 147 (zb x0.An [.os 8,.os 9,.os 10,.os 11,.os 12]) :: .non :: .non :: .non :: .non :: .non :: .box 3 [I x1c0]::v0_ z0::zp x0.Ao [v2_ x0.acts])
def Tg (z0:(List Int)) (n1:Nat) (z1:Sg7):St:=[(0,dO 0 0),(38,dS 7),(39,dI (ln z0)),(40,dI (cnt 0 n1))]
def Yv (x1c0:Int) (z0:(List Int)) (n1:Nat) (z1:Sg7):List Res:=[.box 147 [I z1.1,DS q49 z1.2.1,DS q98 z1.2.2.1,DS q90 (g3_ z1),I (g4_ z1),I (g5_ z1),.os 8,.os 9,.os 10,.os 11,.os 12],.non,.non,.non,.non,.non,.box 3 [I x1c0],v0_ z0,v1_ (g6_ z1),v4_ (g7_ z1),v0_ (g8_ z1),v3_ (g9_ z1),v2_ (Gj z1)]
def Abb  (z1:Sg7):St:=[]
def Acm (x1c0:Int) (z1:Sg7):List Res:=[.box 147 [I z1.1,DS q49 z1.2.1,DS q98 z1.2.2.1,DS q90 (g3_ z1),I (g4_ z1),I (g5_ z1),.os 7,.os 8,.os 9,.os 10,.os 11],.non,.non,.non,.non,.non,.box 3 [I x1c0],v1_ (g6_ z1),v4_ (g7_ z1),v0_ (g8_ z1),v3_ (g9_ z1),v2_ (Gj z1)]
theorem A3a (x0:Ax) (x1c0:Int) (r:Ax×Int) (h:Vj x0 x1c0=some r):CO 120 [.d (.o 0 0),.d (.fn (.func 161) [] [.o 6 0])] (.box 147 (zb x0.An [.os 1,.os 2,.os 3,.os 4,.os 5])::zp x0.Ao [v2_ x0.acts,.box 3 [I x1c0]]) (.tup []) (.box 147 (zb r.1.An [.os 7,.os 8,.os 9,.os 10,.os 11]) :: .non :: .non :: .non :: .non :: .non :: .box 3 [I r.2]::zp r.1.Ao [v2_ r.1.acts]):=by
 unfold Vj at h
 refine co 48 Tryz.func120 λ C hC=>?_
 refine ws Ic 26 [] [pl q49 x0.An.Ad] [.own 4 3 1,.mv 1,.mv 2,.mv 3,.mv 4,.mv 5] 7 Dm (N3 x0 0 ([]:List Int)) (Sb x0 x1c0 0 ([]:List Int)) hC [] ?_
 obtain⟨w0,hm0,hret0,hnext0⟩:=Av h
 clear h
 refine wc w0 (Abc) (Acn x0 x1c0) ?_ λ z0 hs0=>?_
 ·refine wb ?_
  refine Bq 13 rfl λ hl0=>?_
  refine wl (N3 x0) (Sb x0 x1c0) hm0 (λ z0 hn0=>?_) λ n0 a0 z0 w0b hi0 hx0 h hb0 hr0=>?_
  ·clear hm0
   exact wx w0 (Abc) (Acn x0 x1c0) Ic 26 [false] [] [] 7 Dm _ hC [pq (A5 hl0)] hn0
  ·unfold Vi at h
   obtain⟨y1,h2,h⟩:=Aw h
   refine wn Ic 32 [true] [pt hx0 hl0,pr pB h2,pn pB h2,⟨.when [(y1,true)] (.callB 161 [.agg (d49 a0),.d (.ip [.v (.int .i64 x1c0)])] (dB (U5 a0 x1c0)) [[]] 0 []),λ hg=>T4 ⟨A3y,(A2q a0 x1c0 _ rfl)⟩⟩] [] 7 Dm [0,1,4,5,13,14,15,32] hC [pq (A4 hi0 hl0)] ?_
   rcases cB h with⟨h3,h⟩ | ⟨h3,h⟩
   ·obtain⟨y4,h5,h⟩:=Aw h
    exact wx w0b (N3 x0 (n0+1)) (Sb x0 x1c0 (n0+1)) Ic 25 [true] [pa pI 1 h5] [] 7 [0,1,2,3,4,5,6,13,8,9,10,11,12] _ hC [pq h3] (sI h).symm
   ·exact wx w0b (N3 x0 (n0+1)) (Sb x0 x1c0 (n0+1)) Ic 25 [false] [] [] 7 Dm _ hC [pq h3] (sI h).symm
 ·have h:=hnext0 _ hs0
  refine ws Ic 23 [] [pl pI z0] [] 7 Dm (Tg z0 0 (zt x0.An (zu x0.Ao x0.acts))) (Yv x1c0 z0 0 (zt x0.An (zu x0.Ao x0.acts))) hC [] ?_
  obtain⟨w1,hm1,hret1,hnext1⟩:=Av h
  clear h
  refine wc w1 (Abb) (Acm x1c0) ?_ λ z1 hs1=>?_
  ·refine wb ?_
   refine B1 38 7 rfl rfl λ hl1=>?_
   refine wl (Tg z0) (Yv x1c0 z0) hm1 (λ z1 hn1=>?_) λ n1 a1 z1 w1b hi1 hx1 h hb1 hr1=>?_
   ·clear hm1
    exact wx w1 (Abb) (Acm x1c0) Ic 26 [false] [] [] 7 [0,1,2,3,4,5,6,8,9,10,11,12] _ hC [pq (A5 hl1)] hn1
   ·unfold Ac1 at h
    obtain⟨y6,h7,h⟩:=Aw h
    exact wx w1b (Tg z0 (n1+1)) (Yv x1c0 z0 (n1+1)) Ic 33 [true] [pr pI (Bb hx1 hl1),pn pI (Bb hx1 hl1),pc Ahr (Ag3 (⟨(⟨z1.1,z1.2.1,z1.2.2.1,(g3_ z1),(g4_ z1),(g5_ z1)⟩:Aa),(⟨(g6_ z1),(g7_ z1),(g8_ z1),(g9_ z1)⟩:Ab),(Gj z1)⟩:Ax) a1 _ h7) [0,8,9,10,11,12]] [] 7 [0,1,2,3,4,5,6,7,8,9,10,11,13] _ hC [pq (A4 hi1 hl1)] (sI h).symm
  ·have h:=hnext1 _ hs1
   replace h:=sI h
   subst h
   exact wf Ic 20 [] [] [] 7 E0 hC []
theorem A4i:EN 120:=en Tryz.func120
theorem k32 (x0:Ab) (x1:Ab) (r:Bool) (h:F32 x0 x1=some r):CO 32 [.agg (d34 x0),.agg (d34 x1)] [] (.d (Bo r)) []:=by
 unfold F32 at h
 refine co 31 Tryz.func32 λ C hC=>?_
 obtain⟨y1,h2,y3,h4,y5,h6,y7,h8,h⟩:=C8 h
 replace h:=sI h
 subst h
 exact wr n5_ 25 [] [pc e72 (k72 x0.Ae x1.Ae _ h2) [],pw e73 (λ hg=>k73 x0.Ac x1.Ac _ (A1 h4 hg)) [],pw e74 (λ hg=>k74 x0.Al x1.Al _ (A1 h6 hg)) [],pw e75 (λ hg=>k75 x0.Ah x1.Ah _ (A1 h8 hg)) []] [] 0 [] hC []
theorem e32:EN 32:=en Tryz.func32
def Mu:List Nat:=[0,1,4,5,7,8,9,16]
def Tj (x0:List Ag) (n0:Nat) (z0:Unit):St:=[(0,.d (DS q49 x0)),(1,.d (.fn (.func 104) [] [.o 0 0])),(4,dI 0),(7,dI (ln x0)),(8,dI (cnt 0 n0))]
def Yy (x1c0:Int) (n0:Nat) (z0:Unit):List Res:=[.box 3 [I x1c0]]
def Abi  (z0:Unit):St:=[(4,dI 0)]
def Acu (x1c0:Int) (z0:Unit):List Res:=[.box 3 [I x1c0]]
theorem A3j (x0:List Ag) (x1c0:Int) (r:Int×Int) (h:vF x0 x1c0=some r):CO 103 [.d (DS q49 x0),.d (.fn (.func 104) [] [.o 0 0])] [.box 3 [I x1c0]] (.d (I r.1)) [.box 3 [I r.2]]:=by
 unfold vF at h
 refine co 19 Tryz.func103 λ C hC=>?_
 refine ws Mu 26 [] [pl q49 x0] [] 1 [0] (Tj x0 0 ()) (Yy x1c0 0 ()) hC [] ?_
 obtain⟨w0,hm0,hret0,hnext0⟩:=Av h
 clear h
 refine wc w0 (Abi) (Acu x1c0) ?_ λ z0 hs0=>?_
 ·refine wb ?_
  refine Bq 0 rfl λ hl0=>?_
  refine wl (Tj x0) (Yy x1c0) hm0 (λ z0 hn0=>?_) λ n0 a0 z0 w0b hi0 hx0 h hb0 hr0=>?_
  ·clear hm0
   exact wx w0 (Abi) (Acu x1c0) Mu 26 [false] [] [] 1 [0] _ hC [pq (A5 hl0)] hn0
  ·unfold Oz at h
   refine wn Mu 32 [true] [pt hx0 hl0,pb A4q (A3i a0 x1c0 _ rfl)] [] 1 [0] [0,1,4,5,7,8,16] hC [pq (A4 hi0 hl0)] ?_
   rcases cB h with⟨h1,h⟩ | ⟨h1,h⟩
   ·have hq:=hret0 _ (hr0 _ (sI h).symm)
    replace hq:=sI hq
    subst hq
    exact wr Mu 24 [true] [] [] 1 [0] hC [pq h1]
   ·exact wx w0b (Tj x0 (n0+1)) (Yy x1c0 (n0+1)) Mu 25 [false] [] [] 1 [0] _ hC [pq h1] (sI h).symm
 ·have h:=hnext0 _ hs0
  replace h:=sI h
  subst h
  exact wr Mu 23 [] [] [] 1 [0] hC []
theorem A4r:EN 103:=en Tryz.func103
theorem k34 (x0:List Bool) (x1:Bool) (r:Bool) (h:F34 x0 x1=some r):CO 34 [.d (DS pB x0),.d (Bo x1)] [] (.d (Bo r)) []:=by
 unfold F34 at h
 refine co 9 Tryz.func34 λ C hC=>?_
 obtain⟨y1,h2,h⟩:=Aw h
 replace h:=sI h
 subst h
 exact wr [0,1,4] 25 [] [pc e77 (k77 x0 x1 _ h2) []] [] 0 [] hC []
theorem e34:EN 34:=en Tryz.func34
theorem A64 (x0:Int) (x1:Int) (r:Int×Int) (h:So x0 x1=r):CO 130 [.d (.p (.v (.int .u64 x0))),.d (.p (.v (.int .u64 x1)))] [] (.tup [.d (.p (.v (.int .u64 r.1))),.d (.p (.v (.int .u64 r.2)))]) []:=by
 unfold So at h
 refine co 30 Tryz.func130 λ C hC=>?_
 subst h
 exact wr [0,1,4,5,6,7,8,9] 30 [false] [pc A7k (A6w x0 x1 _ rfl) []] [] 0 [] hC [⟨(false,false),rfl⟩]
theorem A7s:EN 130:=en Tryz.func130
def Ks:List Nat:=[0,1,2,3,4,6,7,14,21,27,39]
def Afu (x1:Ak) (z0:Bool):St:=[(2,dO 0 0),(3,dO 1 0),(4,dB false),(6,dI x1.Kind),(7,dB z0)]
def Aig (x0:Aa) (x1:Ak) (z0:Bool):List Res:=[.box 29 (d29 x0),.box 47 (d47 x1)]
def Afs (x1:Ak) (z1:Bool):St:=[(2,dO 0 0),(3,dO 1 0),(4,dB false),(6,dI x1.Kind),(14,dB z1)]
def Aif (x0:Aa) (x1:Ak) (z1:Bool):List Res:=[.box 29 (d29 x0),.box 47 (d47 x1)]
theorem k62 (x0 : Aa) (x1 : Ak) (r : Bool) (h : F62 x0 x1 = some r) : CO 62 [.agg (d29 x0), .agg (d47 x1)] [] (.d (Bo r)) [] := by
 unfold F62 at h
 refine co 48 Tryz.func62 λ C hC=>?_
 refine wn Ks 30 [] [] [] 0 [0,1] [2,3,4,6,7] hC [] ?_
 obtain⟨w0,h,hret0,hnext0⟩:=Av h
 refine wc w0 (Afu x1) (Aig x0 x1) ?_ λ z0 hs0=>?_
 ·unfold Aj1 at h
  rcases cB h with⟨h1,h⟩ | ⟨h1,h⟩
  ·exact wx w0 (Afu x1) (Aig x0 x1) Ks 23 [true] [] [] 0 [0,1] _ hC [pq h1] (sI h).symm
  ·exact wx w0 (Afu x1) (Aig x0 x1) Ks 23 [false] [] [] 0 [0,1] _ hC [pq h1] (sI h).symm
 ·clear h; have h := hnext0 _ hs0
  rcases cB h with⟨h2,h⟩ | ⟨h2,h⟩
  ·replace h:=sI h
   subst h
   exact wr Ks 24 [true] [pc Ya (X5 x0 2 x1.Unit _ rfl) []] [] 0 [] hC [pq h2]
  ·refine wn Ks 25 [false] [] [] 0 [0,1] [2,3,4,6,14] hC [pq h2] ?_
   obtain⟨w1,h,hret1,hnext1⟩:=Av h
   refine wc w1 (Afs x1) (Aif x0 x1) ?_ λ z1 hs1=>?_
   ·unfold Aj0 at h
    rcases cB h with⟨h3,h⟩ | ⟨h3,h⟩
    ·exact wx w1 (Afs x1) (Aif x0 x1) Ks 23 [true] [] [] 0 [0,1] _ hC [pq h3] (sI h).symm
    ·exact wx w1 (Afs x1) (Aif x0 x1) Ks 23 [false] [] [] 0 [0,1] _ hC [pq h3] (sI h).symm
   ·clear h;have h:=hnext1 _ hs1
    rcases cB h with⟨h4,h⟩ | ⟨h4,h⟩
    ·replace h:=sI h
     subst h
     exact wr Ks 24 [true] [pc Ya (X5 x0 1 x1.Unit _ rfl) []] [] 0 [] hC [pq h4]
    ·rcases cB h with⟨h5,h⟩ | ⟨h5,h⟩
     ·replace h:=sI h
      subst h
      exact wr Ks 27 [false,true] [pc Ya (X5 x0 4 x1.Unit _ rfl) []] [] 0 [] hC [pq h4,pq h5]
     ·rcases cB h with⟨h6,h⟩ | ⟨h6,h⟩
      ·replace h:=sI h
       subst h
       exact wr Ks 30 [false,false,true] [pc Ya (X5 x0 1 x1.Unit _ rfl) [],⟨.when [(G8 x0 1 x1.Unit,true)] (.call 108 [.agg (d29 x0),dI 3,dI x1.Value] [] (dB (G8 x0 3 x1.Value)) [] []),λ hg=>⟨Ya,(X5 x0 3 x1.Value _ rfl)⟩⟩] [] 0 [] hC [pq h4,pq h5,pq h6]
      ·rcases cB h with⟨h7,h⟩ | ⟨h7,h⟩
       ·replace h:=sI h
        subst h
        exact wr Ks 36 [false,false,false,true,true] [pc Ya (X5 x0 x1.Value x1.Unit _ rfl) []] [] 0 [] hC [pq h4,pq h5,pq h6,pq h7,pq h7]
       ·rcases cB h with⟨h8,h⟩ | ⟨h8,h⟩
        ·replace h:=sI h
         subst h
         exact wr Ks 36 [false,false,false,false,true] [pc Ya (X5 x0 x1.Value x1.Unit _ rfl) []] [] 0 [] hC [pq h4,pq h5,pq h6,pq h7,pq h8]
        ·replace h:=sI h
         subst h
         exact wr Ks 38 [false,false,false,false,false] [] [] 0 [] hC [pq h4,pq h5,pq h6,pq h7,pq h8]
theorem e62:EN 62:=en Tryz.func62
theorem k64 (x0:Ap) (x1:Int) (x2:Int) (r:Int×Ap) (h:F64 x0 x1 x2=some r):CO 64 [.d (.o 0 0),.d (I x1),.d (I x2)] [.box 70 (d70 x0)] (.d (I r.1)) [.box 70 (d70 r.2)]:=by
 unfold F64 at h
 refine co 15 Tryz.func64 λ C hC=>?_
 obtain⟨y1,h2,h⟩:=Aw h
 replace h:=sI h
 subst h
 exact wr [0,1,2,6] 25 [] [pc e60 (k60 x0 (w64 ((w64 (x2-x1))+1)) _ h2) [0]] [] 1 [0] hC []
theorem e64:EN 64:=en Tryz.func64
theorem k65 (x0:Ap) (x1:List Int) (r:Int×Ap) (h:F65 x0 x1=some r):CO 65 [.d (.o 0 0),.d (DS pI x1)] [.box 70 (d70 x0)] (.d (I r.1)) [.box 70 (d70 r.2)]:=by
 unfold F65 at h
 refine co 12 Tryz.func65 λ C hC=>?_
 obtain⟨y1,h2,y3,h4,h⟩:=A_ h
 replace h:=sI h
 subst h
 exact wr [0,1,4] 25 [] [pl pI x1,pc e60 (k60 x0 (ln x1) _ h2) [0],pr pI h4] [] 1 [0] hC []
theorem e65:EN 65:=en Tryz.func65
theorem k45 (x0:Aa) (r:Int) (h:F45 x0=some r):CO 45 [.agg (d29 x0)] [] (.d (I r)) []:=by
 unfold F45 at h
 refine co 62 Tryz.func45 λ C hC=>?_
 refine wn [0,1,2,28,61] 26 [] [pL_ [(((decide (x0.Am<1)) || (decide (x0.Am>6))),false)] q49 x0.Ad,pL_ [((((decide (x0.Am<1)) || (decide (x0.Am>6))) || (decide ((ln x0.Ad)>24))),false)] q98 x0.Ac,pL_ [(((((decide (x0.Am<1)) || (decide (x0.Am>6))) || (decide ((ln x0.Ad)>24))) || (decide ((ln x0.Ac)>8))),false)] q90 x0.Af] [] 0 [0] [1,2,28] hC [] ?_
 rcases cB h with⟨h1,h⟩ | ⟨h1,h⟩
 ·replace h:=sI h
  subst h
  exact wr [0,1,2,28,61] 24 [true] [] [] 0 [] hC [pq h1]
 ·obtain⟨y2,h3,y4,h5,y6,h7,h⟩:=Bw h
  refine wn [0,1,2,28,61] 26 [false] [pc e95 (k95 x0 _ h3) [],pw e96 (λ hg=>k96 x0 _ (A1 h5 hg)) [],pw e97 (λ hg=>k97 x0 _ (A1 h7 hg)) []] [] 0 [] [2,61] hC [pq h1] ?_
  rcases cB h with⟨h8,h⟩ | ⟨h8,h⟩
  ·replace h:=sI h
   subst h
   exact wr [0,1,2,28,61] 24 [true] [] [] 0 [] hC [pq h8]
  ·replace h:=sI h
   subst h
   exact wr [0,1,2,28,61] 25 [false] [] [] 0 [] hC [pq h8]
theorem e45:EN 45:=en Tryz.func45
theorem A2y (x0:List (List Int)) (r:Bool) (h:Va x0=some r):CO 139 [.d (DS (pL pI) x0),.d (.fn (.func 140) [] [])] [] (.d (Bo r)) []:=by
 unfold Va at h
 refine co 9 Tryz.func139 λ C hC=>?_
 obtain⟨y1,h2,h⟩:=Aw h
 replace h:=sI h
 subst h
 exact wr [0,1,4] 25 [] [pc A3v (A2n x0 _ h2) []] [] 0 [] hC []
theorem A36:EN 139:=en Tryz.func139
def yE:List Nat:=[0,1,2,4,5,6,7,8,9,10,49]
def Aes (x1:List As) (n0:Nat) (z0:Unit):St:=[(1,.d (DS q92 x1)),(2,dO 0 0),(4,dB false),(7,.d (DS q92 x1)),(8,dI (ln x1)),(9,dI (cnt 0 n0))]
def Aph (x0:Aa) (n0:Nat) (z0:Unit):List Res:=[.box 29 (d29 x0)]
def Aro (x1:List As) (z0:Unit):St:=[(1,.d (DS q92 x1)),(4,dB false)]
def Avb  (z0:Unit):List Res:=[]
theorem k89 (x0:Aa) (x1:List As) (r:Bool) (h:F89 x0 x1=some r):CO 89 [.agg (d29 x0),.d (DS q92 x1)] [] (.d (Bo r)) []:=by
 unfold F89 at h
 refine co 54 Tryz.func89 λ C hC=>?_
 refine ws yE 26 [] [pl q92 x1] [] 0 [0] (Aes x1 0 ()) (Aph x0 0 ()) hC [] ?_
 obtain⟨w0,hm0,hret0,hnext0⟩:=Av h
 clear h
 refine wc w0 (Aro x1) (Avb) ?_ λ z0 hs0=>?_
 ·refine wb ?_
  refine Bq 7 rfl λ hl0=>?_
  refine wl (Aes x1) (Aph x0) hm0 (λ z0 hn0=>?_) λ n0 a0 z0 w0b hi0 hx0 h hb0 hr0=>?_
  ·clear hm0
   exact wx w0 (Aro x1) (Avb) yE 26 [false] [] [] 0 [] _ hC [pq (A5 hl0)] hn0
  ·unfold uI at h
   obtain⟨y1,h2,y3,h4,y5,h6,h⟩:=Bw h
   refine wn yE 32 [true] [pt hx0 hl0,pc A7r (A63 x0 a0.Kind _ rfl) [],pc e93 (k93 a0.Number 0 (w64 ((L_ x0 a0.Kind)-1)) _ rfl) [],pR q92 h2,⟨.when [(!(F93 a0.Number 0 (w64 ((L_ x0 a0.Kind)-1))),false),(decide ((cnt 0 n0)>0),true)] (.call 134 [dI y1.Kind,dI a0.Kind] [] (dI (K1 y1.Kind a0.Kind)) [] []),λ hg=>⟨Ayg,(Axy y1.Kind a0.Kind _ rfl)⟩⟩,pR q92 h4,⟨.when [(!(F93 a0.Number 0 (w64 ((L_ x0 a0.Kind)-1))),false),(decide ((cnt 0 n0)>0),true)] (.call 134 [dI y3.Number,dI a0.Number] [] (dI (K1 y3.Number a0.Number)) [] []),λ hg=>⟨Ayg,(Axy y3.Number a0.Number _ rfl)⟩⟩,pw A7q (λ hg=>A62 [K1 y1.Kind a0.Kind,K1 y3.Number a0.Number] _ (A1 h6 hg)) []] [] 0 [0] [1,2,4,7,8,9,49] hC [pq (A4 hi0 hl0)] ?_
   rcases cB h with⟨h7,h⟩ | ⟨h7,h⟩
   ·have hq:=hret0 _ (hr0 _ (sI h).symm)
    replace hq:=sI hq
    subst hq
    exact wr yE 24 [true] [] [] 0 [] hC [pq h7]
   ·exact wx w0b (Aes x1 (n0+1)) (Aph x0 (n0+1)) yE 25 [false] [] [] 0 [0] _ hC [pq h7] (sI h).symm
 ·have h:=hnext0 _ hs0
  replace h:=sI h
  subst h
  exact wr yE 23 [] [pl q92 x1] [] 0 [] hC []
theorem e89:EN 89:=en Tryz.func89
theorem A6t (x0:Int) (x1:Int) (r:Int) (h:Aqi x0 x1=r):CO 180 [.d (I x0),.d (I x1)] [] (.d (I r)) []:=by
 unfold Aqi at h
 refine co 17 Tryz.func180 λ C hC=>?_
 refine wn [0,1,4,5,13] 28 [] [pc Aom (An9 x1 _ rfl) [],pc Aom (An9 x0 _ rfl) [],pc Aom (An9 (w64 ((Hr x1)-(Hr x0))) _ rfl) []] [] 0 [] [4,5,13] hC [] ?_
 rcases cB h with⟨h1,h⟩ | ⟨h1,h⟩
 ·subst h
  exact wr [0,1,4,5,13] 25 [true] [] [] 0 [] hC [pq h1]
 ·subst h
  exact wr [0,1,4,5,13] 25 [false] [] [] 0 [] hC [pq h1]
theorem A7h:EN 180:=en Tryz.func180
def Mp:List Nat:=[0,1,2,4,6,7,8,9,10,11,17,31]
def Nx (x0:List As) (z0:Int×Int):St:=[(0,.d (DS q92 x0)),(2,.d (.fn (.func 149) [] [])),(4,dO 0 0),(6,dI 0),(7,dB false),(8,dI (ln x0)),(9,dI z0.1),(10,dI z0.2)]
def R6 (x1:As) (z0:Int×Int):List Res:=[.box 92 (d92 x1)]
def Aa2 (x0:List As) (z0:Int×Int):St:=[(0,.d (DS q92 x0)),(2,.d (.fn (.func 149) [] [])),(4,dO 0 0),(6,dI 0),(7,dB false),(8,dI (ln x0)),(9,dI z0.1)]
def Acd (x1:As) (z0:Int×Int):List Res:=[.box 92 (d92 x1)]
theorem Atg (x0:List As) (x1:As) (r:Int×Bool) (h:U9 x0 x1=some r):CO 148 [.d (DS q92 x0),.agg (d92 x1),.d (.fn (.func 149) [] [])] [] (.tup [.d (I r.1),.d (Bo r.2)]) []:=by
 unfold U9 at h
 refine co 49 Tryz.func148 λ C hC=>?_
 refine ws Mp 28 [] [pl q92 x0] [] 0 [0] (Nx x0 (0,(ln x0))) (R6 x1 (0,(ln x0))) hC [] ?_
 obtain⟨w0,hm0,hret0,hnext0⟩:=Av h
 clear h
 refine wc w0 (Aa2 x0) (Acd x1) ?_ λ z0 hs0=>?_
 ·refine wb ?_
  refine ww (Nx x0) (R6 x1) hm0 λ z0 w0b h hb0 hr0=>?_
  unfold U8 at h
  rcases cB h with⟨h1,h⟩ | ⟨h1,h⟩
  ·obtain⟨y2,h3,h⟩:=Aw h
   refine wn Mp 31 [true] [pr q92 h3,pc A34 (A2w y2 x1 _ rfl) []] [] 0 [0] [0,2,4,6,7,8,9,10,11,31] hC [pq h1] ?_
   rcases cB h with⟨h4,h⟩ | ⟨h4,h⟩
   ·exact wx w0b (Nx x0) (R6 x1) Mp 24 [true] [] [] 0 [0] _ hC [pq h4] (sI h).symm
   ·exact wx w0b (Nx x0) (R6 x1) Mp 24 [false] [] [] 0 [0] _ hC [pq h4] (sI h).symm
  ·exact wx w0 (Aa2 x0) (Acd x1) Mp 26 [false] [] [] 0 [0] (z0.1,z0.2) hC [pq h1] (hb0 _ (sI h).symm)
 ·have h:=hnext0 _ hs0
  obtain⟨y5,h6,h⟩:=Aw h
  replace h:=sI h
  subst h
  exact wr Mp 23 [] [pR q92 h6,⟨.when [(decide (z0.1<(ln x0)),true)] (.call 149 [.agg (d92 y5),.agg (d92 x1)] [] (dI (Sn y5 x1)) [] []),λ hg=>⟨A34,(A2w y5 x1 _ rfl)⟩⟩] [] 0 [] hC []
theorem At8:EN 148:=en Tryz.func148
theorem k91 (x0:Ai) (r:Bool) (h:F91 x0=r):CO 91 [.agg (d87 x0)] [] (.d (Bo r)) []:=by
 unfold F91 at h
 refine co 6 Tryz.func91 λ C hC=>?_
 subst h
 exact wr n3_ 25 [] [pc e92 (k92 x0 _ rfl) []] [] 0 [] hC []
theorem e91:EN 91:=en Tryz.func91
theorem k76 (x0:Ab) (x1:Int) (x2:Int) (r:Bool) (h:F76 x0 x1 x2=some r):CO 76 [.agg (d34 x0),.d (I x1),.d (I x2)] [] (.d (Bo r)) []:=by
 unfold F76 at h
 refine co 13 Tryz.func76 λ C hC=>?_
 obtain⟨y1,h2,h⟩:=Aw h
 replace h:=sI h
 subst h
 exact wr [0,1,2,3,6] 25 [] [pc A7t (A65 x0.Ah (⟨x1,x2⟩:As) _ h2) []] [] 0 [] hC []
theorem e76:EN 76:=en Tryz.func76
def Ku:List Nat:=[0,1,4,5,6,7,12,19,29]
def Nw  (z0:Int×Int×(List Aj)):St:=[(0,dS 0),(1,.d (.fn (.func 158) [] [])),(4,.d (DS q62 [])),(5,dI z0.1),(6,dI z0.2.1)]
def R5  (z0:Int×Int×(List Aj)):List Res:=[v5_ z0.2.2]
def Aa1  (z0:Int×Int×(List Aj)):St:=[(0,dS 0),(4,.d (DS q62 [])),(5,dI z0.1)]
def Acc  (z0:Int×Int×(List Aj)):List Res:=[v5_ z0.2.2]
theorem Atf (x0:List Aj) (r:(List Aj)) (h:Qb x0=some r):CO 157 [.d (.os 0),.d (.fn (.func 158) [] [])] [.sl 62 3 (x0.map q62)] (.d (.os 1)) [.non,.sl 62 3 (r.map q62)]:=by
 unfold Qb at h
 refine co 42 Tryz.func157 λ C hC=>?_
 obtain⟨y1,h2,h⟩:=Aw h
 rcases cB h with⟨h3,h⟩ | ⟨h3,h⟩
 ·replace h:=sI h
  subst h
  exact wr Ku 31 [true] [pb At5 (Atd x0 _ h2)] [.mv 0] 1 [0,1] hC [pq h3]
 ·refine ws Ku 33 [false] [pb At5 (Atd x0 _ h2)] [] 1 [0] (Nw (y1,w64 (y1+1),x0)) (R5 (y1,w64 (y1+1),x0)) hC [pq h3] ?_
  obtain⟨w0,hm0,hret0,hnext0⟩:=Av h
  clear h
  refine wc w0 (Aa1) (Acc) ?_ λ z0 hs0=>?_
  ·refine wb ?_
   refine ww (Nw) (R5) hm0 λ z0 w0b h hb0 hr0=>?_
   unfold U6 at h
   rcases cB h with⟨h4,h⟩ | ⟨h4,h⟩
   ·obtain⟨y5,h6,h⟩:=Aw h
    refine wn Ku 32 [true] [pl q62 z0.2.2,pr q62 h6,pn q62 h6,pc A30 (A2s y5 _ rfl) []] [] 1 [0,1] [0,1,4,5,6,7,29] hC [pq h4] ?_
    rcases cB h with⟨h7,h⟩ | ⟨h7,h⟩
    ·obtain⟨y8,h9,y10,h11,h⟩:=A_ h
     exact wx w0b (Nw) (R5) Ku 27 [true] [pr q62 h9,pu q62 h9 h11] [] 1 [0] _ hC [pq h7] (sI h).symm
    ·exact wx w0b (Nw) (R5) Ku 25 [false] [] [] 1 [0] _ hC [pq h7] (sI h).symm
   ·exact wx w0 (Aa1) (Acc) Ku 26 [false] [pl q62 z0.2.2] [] 1 [0] (z0.1,z0.2.1,z0.2.2) hC [pq h4] (hb0 _ (sI h).symm)
  ·have h:=hnext0 _ hs0
   obtain⟨u13,h12,u15,h14,h⟩:=A_ h
   replace h:=sI h
   subst h
   (rw [List.map_take];exact qY (bs:=[]) I4 Ku 25 [] [.bnd (z0.2.2.map q62).length z0.1 (((z0.2.2.map q62).length:Nat):Int) (ln z0.2.2),.eqr ((z0.2.2.map q62).take (Int.toNat z0.1)++(List.replicate ((Int.toNat (ln z0.2.2))-(Int.toNat z0.1)) (q62 (⟨([]:List Int),([]:List Int),([]:List Int)⟩:Aj))++(z0.2.2.map q62).drop ((Int.toNat z0.1)+((Int.toNat (ln z0.2.2))-(Int.toNat z0.1))))) ((G5 z0.2.2 (Int.toNat z0.1) ((Int.toNat (ln z0.2.2))-(Int.toNat z0.1)) (⟨([]:List Int),([]:List Int),([]:List Int)⟩:Aj)).map q62),.bnd ((G5 z0.2.2 (Int.toNat z0.1) ((Int.toNat (ln z0.2.2))-(Int.toNat z0.1)) (⟨([]:List Int),([]:List Int),([]:List Int)⟩:Aj)).map q62).length 0 z0.1 z0.1] [.trunc 4] [.tmp 4] 1 [0,1] rfl hC ⟨Fz (by simp) (by simp) h12,zE q62 rfl,Fz (by simp) rfl h14,trivial⟩ trivial (by kernel_rfl))
theorem At7:EN 157:=en Tryz.func157
theorem A20 (x0:Int) (x1:Int) (x2:Aa) (r:Int) (h:Nv x0 x1 x2=some r):CO 133 [.d (I x0),.d (I x1),.d (.ip [.v (.int .i64 x2.Am),.s (x2.Ad.map q49),.s (x2.Ac.map q98),.s (x2.Af.map q90),.v (.int .i64 x2.Phase),.v (.int .i64 x2.Au)])] [] (.d (I r)) []:=by
 unfold Nv at h
 refine co 19 Tryz.func133 λ C hC=>?_
 obtain⟨y1,h2,y3,h4,h⟩:=A_ h
 replace h:=sI h
 subst h
 exact wr [0,1,2,5] 25 [] [pr q90 h2,pr q90 h4,pc Ayg (Axy y1.Bl y3.Bl _ rfl) []] [] 0 [] hC []
theorem A38:EN 133:=en Tryz.func133
theorem Ath (x0:Int) (x1:Aj) (r:Bool) (h:Qf x0 x1=some r):CO 126 [.d (I x0),.d (.ip [.s (x1.Am.map pI),.s (x1.Ac.map pI),.s (x1.Af.map pI)])] [] (.d (Bo r)) []:=by
 unfold Qf at h
 refine co 9 Tryz.func126 λ C hC=>?_
 obtain⟨y1,h2,h⟩:=Aw h
 replace h:=sI h
 subst h
 exact wr [0,1,3] 25 [] [pc e59 (k59 x1.Af x0 _ h2) []] [] 0 [] hC []
theorem At9:EN 126:=en Tryz.func126
theorem k56 (x0:Aa) (x1:Int) (r:Int) (h:F56 x0 x1=some r):CO 56 [.agg (d29 x0),.d (I x1)] [] (.d (I r)) []:=by
 unfold F56 at h
 refine co 9 Tryz.func56 λ C hC=>?_
 obtain⟨y1,h2,h⟩:=Aw h
 replace h:=sI h
 subst h
 exact wr n5_ 25 [] [pc A4r (A3j x0.Ad x1 _ h2) [1]] [] 0 [] hC []
theorem e56:EN 56:=en Tryz.func56
def T0:List Nat:=[0,1,4,5,6,7,8,10,26,37]
def Aru (x0:List Ak) (x1:Int) (z0:Unit):St:=[(0,.d (DS q47 x0)),(1,dI x1),(4,.d (DS q47 []))]
def Avh  (z0:Unit):List Res:=[]
def Art (x0:List Ak) (x1:Int) (z1:Unit):St:=[(0,.d (DS q47 x0)),(4,.d (DS q47 [])),(6,.d (.p (.v (.int .u64 ((So (IntKind.wrap .u64 (ln x0)) (IntKind.wrap .u64 x1)).2)))))]
def Avg  (z1:Unit):List Res:=[]
def Aev  (z2:Int×(List Ak)):St:=[(4,.d (DS q47 [])),(7,dS 0),(8,dI z2.1)]
def Apk  (z2:Int×(List Ak)):List Res:=[v2_ z2.2]
def Ars  (z2:Int×(List Ak)):St:=[(4,.d (DS q47 [])),(7,dS 0)]
def Avf  (z2:Int×(List Ak)):List Res:=[v2_ z2.2]
theorem k83 (x0:List Ak) (x1:Int) (r:(List Ak)) (h:F83 x0 x1=some r):CO 83 [.d (DS q47 x0),.d (I x1)] [] (.d (.os 0)) [v2_ r]:=by
 unfold F83 at h
 refine co 48 Tryz.func83 λ C hC=>?_
 refine wn T0 26 [] [] [] 0 [] [0,1,4,10] hC [] ?_
 obtain⟨w0,h,hret0,hnext0⟩:=Av h
 refine wc w0 (Aru x0 x1) (Avh) ?_ λ z0 hs0=>?_
 ·unfold Ajn at h
  rcases cB h with⟨h1,h⟩ | ⟨h1,h⟩
  ·cases h
  ·exact wx w0 (Aru x0 x1) (Avh) T0 23 [false] [] [] 0 [] _ hC [pq h1] (sI h).symm
 ·clear h;have h:=hnext0 _ hs0
  refine wn T0 26 [] [pl q47 x0,pc A7s (A64 (IntKind.wrap .u64 (ln x0)) (IntKind.wrap .u64 x1) _ rfl) []] [] 0 [] [0,4,6,26] hC [] ?_
  obtain⟨w1,h,hret1,hnext1⟩:=Av h
  refine wc w1 (Art x0 x1) (Avg) ?_ λ z1 hs1=>?_
  ·unfold Ajm at h
   rcases cB h with⟨h2,h⟩ | ⟨h2,h⟩
   ·cases h
   ·exact wx w1 (Art x0 x1) (Avg) T0 23 [false] [] [] 0 [] _ hC [pq h2] (sI h).symm
  ·clear h;have h:=hnext1 _ hs1
   obtain⟨y3,h4,h⟩:=Aw h
   refine ws T0 26 [] [⟨.room ((w64 ((So (IntKind.wrap .u64 (ln x0)) (IntKind.wrap .u64 x1)).2))*(24+1)) (List.replicate (Int.toNat (w64 ((So (IntKind.wrap .u64 (ln x0)) (IntKind.wrap .u64 x1)).2))) (q47 (⟨0,0,0⟩:Ak))) (y3.map q47),Ko h4⟩,⟨.cpy (x0.map q47) 3 ((y3.map q47).length) (Nat.min x0.length y3.length) ((y3.map q47).take 0++((x0.map q47).take (Nat.min x0.length y3.length)++(y3.map q47).drop (0+(Nat.min x0.length y3.length)))) ((Iy y3 0 y3.length x0).map q47),Amg q47 3 (λ _=>rfl) rfl (by simp)⟩] [] 0 [0] (Aev (((Nat.min x0.length y3.length):Int),(Iy y3 0 y3.length x0))) (Apk (((Nat.min x0.length y3.length):Int),(Iy y3 0 y3.length x0))) hC [] ?_
   obtain⟨w2,hm2,hret2,hnext2⟩:=Av h
   clear h
   refine wc w2 (Ars) (Avf) ?_ λ z2 hs2=>?_
   ·refine wb ?_
    refine ww (Aev) (Apk) hm2 λ z2 w2b h hb2 hr2=>?_
    unfold Ajo at h
    rcases cB h with⟨h5,h⟩ | ⟨h5,h⟩
    ·obtain⟨u7,h6,u9,h8,h⟩:=A_ h
     exact wx w2b (Aev) (Apk) T0 29 [true] [pl q47 z2.2,⟨.bnd (z2.2.map q47).length z2.1 (((z2.2.map q47).length:Nat):Int) (ln z2.2),Fz (by simp) (by simp) h6⟩,⟨.bnd (z2.2.map q47).length 0 z2.1 z2.1,Fz (by simp) rfl h8⟩,⟨.cpy (((z2.2.map q47).drop 0).take ((Int.toNat z2.1)-0)) 3 ((Int.toNat (ln z2.2))-(Int.toNat z2.1)) (Nat.min ((z2.2.drop 0).take ((Int.toNat z2.1)-0)).length ((Int.toNat (ln z2.2))-(Int.toNat z2.1))) ((z2.2.map q47).take (Int.toNat z2.1)++((((z2.2.map q47).drop 0).take ((Int.toNat z2.1)-0)).take (Nat.min ((z2.2.drop 0).take ((Int.toNat z2.1)-0)).length ((Int.toNat (ln z2.2))-(Int.toNat z2.1)))++(z2.2.map q47).drop ((Int.toNat z2.1)+(Nat.min ((z2.2.drop 0).take ((Int.toNat z2.1)-0)).length ((Int.toNat (ln z2.2))-(Int.toNat z2.1)))))) ((Iy z2.2 (Int.toNat z2.1) ((Int.toNat (ln z2.2))-(Int.toNat z2.1)) ((z2.2.drop 0).take ((Int.toNat z2.1)-0))).map q47),Amg q47 3 (λ _=>rfl) (Agi _ _ _ _) rfl⟩] [] 0 [0] _ hC [pq h5] (sI h).symm
    ·exact wx w2 (Ars) (Avf) T0 26 [false] [pl q47 z2.2] [] 0 [0] (z2.1,z2.2) hC [pq h5] (hb2 _ (sI h).symm)
   ·have h:=hnext2 _ hs2
    replace h:=sI h
    subst h
    exact wr T0 23 [] [] [] 0 [0] hC []
theorem e83:EN 83:=en Tryz.func83
theorem A2m (x0:Aa) (x1:Ai) (x2:Ai) (r:Bool) (h:Akf x0 x1 x2=r):CO 177 [.agg (d29 x0),.agg (d87 x1),.agg (d87 x2)] [] (.d (Bo r)) []:=by
 unfold Akf at h
 refine co 52 Tryz.func177 λ C hC=>?_
 rcases cB h with⟨h1,h⟩ | ⟨h1,h⟩
 ·subst h
  exact wr [0,1,2,3,4,5,6,7,8,22] 29 [true] [] [] 0 [] hC [pq h1]
 ·subst h
  exact wr [0,1,2,3,4,5,6,7,8,22] 34 [false] [pc A7h (A6t x1.Phase x2.Phase _ rfl) []] [] 0 [] hC [pq h1]
theorem A3u:EN 177:=en Tryz.func177
def Hj:List Nat:=[0,1,2,4,6,7,8,32,36,47,64,74]
def To (x2:Bool) (z0:(List As)):St:=[(0,dO 0 0),(2,dB x2),(4,dO 5 0),(6,dI 0)]
def Uy (x0:A0) (x1:As) (z0:(List As)):List Res:=[.box 107 (zb x0.An [.os 6,.os 7,.os 8,.os 9,I x0.time]),.non,.non,.non,.non,.box 92 (d92 x1),v1_ x0.Ao.Ae,v4_ x0.Ao.Ac,v0_ x0.Ao.Al,v3_ z0]
theorem A3d (x0:A0) (x1:As) (x2:Bool) (r:Int×A0) (h:H9 x0 x1 x2=some r):CO 116 [.d (.o 0 0),.agg (d92 x1),.d (Bo x2)] (.box 107 (zb x0.An [.os 1,.os 2,.os 3,.os 4,I x0.time])::zp x0.Ao []) (.d (I r.1)) (.box 107 (zb r.2.An [.os 5,.os 6,.os 7,.os 8,I r.2.time]) :: .non :: .non :: .non :: .non::zp r.2.Ao []):=by
 unfold H9 at h
 refine co 84 Tryz.func116 λ C hC=>?_
 obtain⟨y1,h2,h⟩:=Aw h
 rcases cB h with⟨h3,h⟩ | ⟨h3,h⟩
 ·replace h:=sI h
  subst h
  exact wr Hj 32 [true] [pb At8 (Atg x0.Ao.Ah x1 _ h2)] [.mv 1,.mv 2,.mv 3,.mv 4] 5 [0,1,2,3,4,6,7,8,9] hC [pq h3]
 ·refine wn Hj 32 [false] [pb At8 (Atg x0.Ao.Ah x1 _ h2),pL_ [(x2,true)] q92 x0.Ao.Ah] [.mv 1,.mv 2,.mv 3,.mv 4] 5 Jv [0,2,4,6,7,36] hC [pq h3] ?_
  rcases cB h with⟨h4,h⟩ | ⟨h4,h⟩
  ·replace h:=sI h
   subst h
   exact wr Hj 24 [true] [] [] 5 [0,1,2,3,4,6,7,8,9] hC [pq h4]
  ·refine wn Hj 24 [false] [] [] 5 Jv [0,2,4,6,7,47] hC [pq h4] ?_
   obtain⟨w0,h,hret0,hnext0⟩:=Av h
   refine wc w0 (To x2) (Uy x0 x1) ?_ λ z0 hs0=>?_
   ·unfold Ox at h
    rcases cB h with⟨h5,h⟩ | ⟨h5,h⟩
    ·obtain⟨y6,h7,h⟩:=Aw h
     exact wx w0 (To x2) (Uy x0 x1) Hj 23 [true] [pc A33 (A2v x0.Ao.Ah y1.1 [x1] _ h7) [9]] [] 5 [0,1,2,3,4,5,6,7,8,10] _ hC [pq h5] (sI h).symm
    ·obtain⟨y8,h9,h⟩:=Aw h
     exact wx w0 (To x2) (Uy x0 x1) Hj 23 [false] [pc A32 (A2u x0.Ao.Ah y1.1 (w64 (y1.1+1)) _ h9) [9]] [] 5 [0,1,2,3,4,5,6,7,8,10] _ hC [pq h5] (sI h).symm
   ·clear h;have h:=hnext0 _ hs0
    rcases cB h with⟨h10,h⟩ | ⟨h10,h⟩
    ·obtain⟨y11,h12,y13,h14,h⟩:=A_ h
     refine wn Hj 30 [true] [pr q87 h12,pu q87 h12 h14] [] 5 Jv [0,4,6,74] hC [pq h10] ?_
     rcases cB h with⟨h15,h⟩ | ⟨h15,h⟩
     ·obtain⟨y16,h17,y18,h19,h⟩:=A_ h
      replace h:=sI h
      subst h
      exact wr Hj 25 [true] [pr q87 h17,pu q87 h17 h19] [] 5 [0,1,2,3,4,6,7,8,9] hC [pq h15]
     ·replace h:=sI h
      subst h
      exact wr Hj 25 [false] [] [] 5 [0,1,2,3,4,6,7,8,9] hC [pq h15]
    ·replace h:=sI h
     subst h
     exact wr Hj 29 [false] [] [] 5 [0,1,2,3,4,6,7,8,9] hC [pq h10]
theorem A4l:EN 116:=en Tryz.func116
def Gp:List Nat:=[0,2,3,4,5,6,7,8,9,10,11,24,29,47,60,96,121,155]
def Zy  (z0:Sg2):St:=[(0,dO 0 0),(2,dO 1 0),(3,dO 2 0),(4,dI z0.1)]
def Ad4 (y1:Int×Ap) (y3:Int×Ap) (y5:Int×Ap) (z0:Sg2):List Res:=[.box 70 [DS pI z0.2.1,I z0.2.2.1],.box 29 [I 0,.os 3,.os 4,.os 5,I 0,I 0],.box 29 [I y1.1,.os 6,.os 7,.os 8,I y3.1,I y5.1],v6_ ([]:List Ag),v7_ ([]:List Bc),v8_ ([]:List A3),v6_ (E1 z0),v7_ ([]:List Bc),v8_ ([]:List A3)]
def Ash  (z0:Sg2):St:=[(0,dO 0 0),(2,dO 1 0),(3,dO 2 0)]
def Av4 (y1:Int×Ap) (y3:Int×Ap) (y5:Int×Ap) (z0:Sg2):List Res:=[.box 70 [DS pI z0.2.1,I z0.2.2.1],.box 29 [I 0,.os 3,.os 4,.os 5,I 0,I 0],.box 29 [I y1.1,.os 6,.os 7,.os 8,I y3.1,I y5.1],v6_ ([]:List Ag),v7_ ([]:List Bc),v8_ ([]:List A3),v6_ (E1 z0),v7_ ([]:List Bc),v8_ ([]:List A3)]
def Af8  (z1:(List Ag)):St:=[(0,dO 0 0),(2,dO 1 0),(3,dO 2 0)]
def Aiu (y1:Int×Ap) (y3:Int×Ap) (y5:Int×Ap) (y15:Int×Ap) (z1:(List Ag)):List Res:=[.box 70 (d70 y15.2),.box 29 [I 0,.os 3,.os 4,.os 5,I 0,I 0],.box 29 [I y1.1,.os 6,.os 7,.os 8,I y3.1,I y5.1],v6_ ([]:List Ag),v7_ ([]:List Bc),v8_ ([]:List A3),v6_ z1,v7_ ([]:List Bc),v8_ ([]:List A3)]
def Ae8  (z2:Sg4):St:=[(0,dO 0 0),(2,dO 1 0),(3,dO 2 0),(5,dI z2.1)]
def Apz (y1:Int×Ap) (y3:Int×Ap) (y5:Int×Ap) (z2:Sg4):List Res:=[.box 70 [DS pI z2.2.1,I z2.2.2.1],.box 29 [I 0,.os 3,.os 4,.os 5,I 0,I 0],.box 29 [I y1.1,.os 6,.os 7,.os 8,I y3.1,I y5.1],v6_ ([]:List Ag),v7_ ([]:List Bc),v8_ ([]:List A3),v6_ (g3_ z2),v7_ (Gs z2),v8_ ([]:List A3)]
def Asg  (z2:Sg4):St:=[(0,dO 0 0),(2,dO 1 0),(3,dO 2 0)]
def Av3 (y1:Int×Ap) (y3:Int×Ap) (y5:Int×Ap) (z2:Sg4):List Res:=[.box 70 [DS pI z2.2.1,I z2.2.2.1],.box 29 [I 0,.os 3,.os 4,.os 5,I 0,I 0],.box 29 [I y1.1,.os 6,.os 7,.os 8,I y3.1,I y5.1],v6_ ([]:List Ag),v7_ ([]:List Bc),v8_ ([]:List A3),v6_ (g3_ z2),v7_ (Gs z2),v8_ ([]:List A3)]
def Zx  (z3:Sg3):St:=[(0,dO 0 0),(2,dO 1 0),(3,dO 2 0),(7,dI z3.1)]
def Ad3 (y1:Int×Ap) (y3:Int×Ap) (y5:Int×Ap) (z2:Sg4) (z3:Sg3):List Res:=[.box 70 [DS pI z3.2.1,I z3.2.2.1],.box 29 [I 0,.os 3,.os 4,.os 5,I 0,I 0],.box 29 [I y1.1,.os 6,.os 7,.os 8,I y3.1,I y5.1],v6_ ([]:List Ag),v7_ ([]:List Bc),v8_ ([]:List A3),v6_ (g3_ z3),v7_ (Gs z2),v8_ (Gs z3)]
def Asf  (z3:Sg3):St:=[(2,dO 1 0),(3,dO 2 0)]
def Av2 (y1:Int×Ap) (y3:Int×Ap) (y5:Int×Ap) (z2:Sg4) (z3:Sg3):List Res:=[.box 70 [DS pI z3.2.1,I z3.2.2.1],.box 29 [I 0,.os 3,.os 4,.os 5,I 0,I 0],.box 29 [I y1.1,.os 6,.os 7,.os 8,I y3.1,I y5.1],v6_ ([]:List Ag),v7_ ([]:List Bc),v8_ ([]:List A3),v6_ (g3_ z3),v7_ (Gs z2),v8_ (Gs z3)]
def Af7 (z3:Sg3) (z4:(List Ag)):St:=[(0,dO 0 0),(2,dO 1 0),(3,dO 2 0),(7,dI z3.1),(8,dI (ln (Gs z3)))]
def Ait (y1:Int×Ap) (y3:Int×Ap) (y5:Int×Ap) (z2:Sg4) (z3:Sg3) (y42:Int×Ap) (z4:(List Ag)):List Res:=[.box 70 (d70 y42.2),.box 29 [I 0,.os 3,.os 4,.os 5,I 0,I 0],.box 29 [I y1.1,.os 8,.os 6,.os 7,I y3.1,I y5.1],v6_ ([]:List Ag),v7_ ([]:List Bc),v8_ ([]:List A3),v7_ (Gs z2),v8_ (Gs z3),v6_ z4]
set_option maxHeartbeats 4000000 in
theorem k28 (x0 : Ap) (r : Aa × Ap) (h : F28 x0 = some r) : CO 28 [.d (.o 0 0)] [.box 70 (d70 x0)] (.agg [I r.1.Am, .os 1, .os 2, .os 3, I r.1.Phase, I r.1.Au]) (.box 70 (d70 r.2) :: zs r.1 []) := by
 unfold F28 at h
 refine co 168 Tryz.func28 λ C hC=>?_
 obtain⟨y1,h2,y3,h4,y5,h6,h⟩:=Bw h
 refine ws Gp 28 [] [pc e64 (k64 x0 1 4 _ h2) [0],pc e65 (k65 y1.2 [0,50,200,1800] _ h4) [0],pc e65 (k65 y3.2 [0,10,50] _ h6) [0]] [.ownb 1 1 49 3,.ownb 1 2 98 3,.ownb 1 3 90 5,.ownb 2 1 49 3,.ownb 2 2 98 3,.ownb 2 3 90 5] 1 n9_ (Zy (1,y5.2.L,y5.2.At,([]:List Ag))) (Ad4 y1 y3 y5 (1,y5.2.L,y5.2.At,([]:List Ag))) hC [] ?_
 obtain⟨w0,hm0,hret0,hnext0⟩:=Av h
 clear h
 refine wc w0 (Ash) (Av4 y1 y3 y5) ?_ λ z0 hs0=>?_
 ·refine wb ?_
  refine ww (Zy) (Ad4 y1 y3 y5) hm0 λ z0 w0b h hb0 hr0=>?_
  unfold uT at h
  rcases cB h with⟨h7,h⟩ | ⟨h7,h⟩
  ·obtain⟨y8,h9,h⟩:=Aw h
   rcases cB h with⟨h10,h⟩ | ⟨h10,h⟩
   ·obtain⟨y11,h12,y13,h14,h⟩:=A_ h
    exact wx w0b (Zy) (Ad4 y1 y3 y5) Gp 34 [true,true] [pc e60 (k60 (⟨z0.2.1,z0.2.2.1⟩:Ap) 6 _ h9) [0],pc e60 (k60 y8.2 z0.1 _ h12) [0],pa q49 3 h14] [] 1 [0,1,2,3,4,5,9,7,8] _ hC [pq h7,pq h10] (sI h).symm
   ·exact wx w0b (Zy) (Ad4 y1 y3 y5) Gp 34 [true,false] [pc e60 (k60 (⟨z0.2.1,z0.2.2.1⟩:Ap) 6 _ h9) [0]] [] 1 n9_ _ hC [pq h7,pq h10] (sI h).symm
  ·exact wx w0 (Ash) (Av4 y1 y3 y5) Gp 26 [false] [] [] 1 n9_ (z0.1,z0.2.1,z0.2.2.1,(E1 z0)) hC [pq h7] (hb0 _ (sI h).symm)
 ·have h := hnext0 _ hs0
  obtain⟨y15,h16,h⟩:=Aw h
  refine wn Gp 24 [] [⟨.whenR [(decide (y1.1>2),true)] (.call 60 [dO 0 0,dI 2] [.box 70 [DS pI z0.2.1,I z0.2.2.1]] (dI y15.1) [.box 70 (d70 y15.2)] [0]),⟨λ hg=>⟨e60,(k60 (⟨z0.2.1,z0.2.2.1⟩:Ap) 2 _ (A1 h16 hg))⟩,λ hg=>by have e:=J5 h16 hg;subst e;rfl⟩⟩] [] 1 n9_ [0,2,3,47] hC [] ?_
  obtain⟨w1,h,hret1,hnext1⟩:=Av h
  refine wc w1 (Af8) (Aiu y1 y3 y5 y15) ?_ λ z1 hs1=>?_
  ·unfold Aj9 at h
   rcases cB h with⟨h17,h⟩ | ⟨h17,h⟩
   ·obtain⟨y18,h19,h⟩:=Aw h
    exact wx w1 (Af8) (Aiu y1 y3 y5 y15) Gp 23 [true] [pa q49 3 h19] [] 1 [0,1,2,3,4,5,9,7,8] _ hC [pq h17] (sI h).symm
   ·exact wx w1 (Af8) (Aiu y1 y3 y5 y15) Gp 23 [false] [] [] 1 n9_ _ hC [pq h17] (sI h).symm
  ·clear h;have h:=hnext1 _ hs1
   obtain⟨y20,h21,h⟩:=Aw h
   refine ws Gp 24 [] [pc e60 (k60 y15.2 5 _ h21) [0]] [] 1 n9_ (Ae8 (y20.1,y20.2.L,y20.2.At,z1,([]:List Bc))) (Apz y1 y3 y5 (y20.1,y20.2.L,y20.2.At,z1,([]:List Bc))) hC [] ?_
   obtain⟨w2,hm2,hret2,hnext2⟩:=Av h
   clear h
   refine wc w2 (Asg) (Av3 y1 y3 y5) ?_ λ z2 hs2=>?_
   ·refine wb ?_
    refine ww (Ae8) (Apz y1 y3 y5) hm2 λ z2 w2b h hb2 hr2=>?_
    unfold uS at h
    rcases cB h with⟨h22,h⟩ | ⟨h22,h⟩
    ·obtain⟨y23,h24,y25,h26,y27,h28,y29,h30,h⟩:=C8 h
     obtain⟨y31,h32,y33,h34,h⟩:=A_ h
     exact wx w2b (Ae8) (Apz y1 y3 y5) Gp 35 [true] [pc e60 (k60 (⟨z2.2.1,z2.2.2.1⟩:Ap) y1.1 _ h24) [0],pl q98 (Gs z2),pa q49 3 h26,pc e65 (k65 y23.2 [10,50,100] _ h28) [0],pc e65 (k65 y27.2 [0,5,y27.1] _ h30) [0],pc e65 (k65 y29.2 [0,1,3] _ h32) [0],pa q98 3 h34] [] 1 [0,1,2,3,4,5,9,10,8] _ hC [pq h22] (sI h).symm
    ·exact wx w2 (Asg) (Av3 y1 y3 y5) Gp 26 [false] [] [] 1 n9_ (z2.1,z2.2.1,z2.2.2.1,(g3_ z2),(Gs z2)) hC [pq h22] (hb2 _ (sI h).symm)
   ·have h:=hnext2 _ hs2
    obtain⟨y35,h36,h⟩:=Aw h
    refine ws Gp 24 [] [pc e60 (k60 (⟨z2.2.1,z2.2.2.1⟩:Ap) 6 _ h36) [0]] [] 1 n9_ (Zx (y35.1,y35.2.L,y35.2.At,(g3_ z2),([]:List A3))) (Ad3 y1 y3 y5 z2 (y35.1,y35.2.L,y35.2.At,(g3_ z2),([]:List A3))) hC [] ?_
    obtain⟨w3,hm3,hret3,hnext3⟩:=Av h
    clear h
    refine wc w3 (Asf) (Av2 y1 y3 y5 z2) ?_ λ z3 hs3=>?_
    ·refine wb ?_
     refine ww (Zx) (Ad3 y1 y3 y5 z2) hm3 λ z3 w3b h hb3 hr3=>?_
     unfold uR at h
     rcases cB h with⟨h37,h⟩ | ⟨h37,h⟩
     ·obtain⟨y38,h39,y40,h41,y42,h43,h⟩:=Bw h
      refine wn Gp 37 [true] [pl q90 (Gs z3),pc e60 (k60 (⟨z3.2.1,z3.2.2.1⟩:Ap) y1.1 _ h39) [0],pa q49 3 h41,⟨.whenR [(decide (y1.1>1),true)] (.call 60 [dO 0 0,dI 4] [.box 70 (d70 y38.2)] (dI y42.1) [.box 70 (d70 y42.2)] [0]),⟨λ hg=>⟨e60,(k60 y38.2 4 _ (A1 h43 hg))⟩,λ hg=>by have e:=J5 h43 hg;subst e;rfl⟩⟩] [] 1 [0,1,2,3,4,5,7,8,9] [0,2,3,7,8,9,121] hC [pq h37] ?_
      obtain⟨w4,h,hret4,hnext4⟩:=Av h
      refine wc w4 (Af7 z3) (Ait y1 y3 y5 z2 z3 y42) ?_ λ z4 hs4=>?_
      ·unfold Aj8 at h
       rcases cB h with⟨h44,h⟩ | ⟨h44,h⟩
       ·obtain⟨u46,h45,y47,h48,h⟩:=A_ h
        exact wx w4 (Af7 z3) (Ait y1 y3 y5 z2 z3 y42) Gp 23 [true] [⟨.nz y1.1,Agm h45⟩,pa q49 3 h48] [] 1 [0,1,2,3,4,5,6,7,9] _ hC [pq h44] (sI h).symm
       ·exact wx w4 (Af7 z3) (Ait y1 y3 y5 z2 z3 y42) Gp 23 [false] [] [] 1 n9_ _ hC [pq h44] (sI h).symm
      ·clear h;have h:=hnext4 _ hs4
       obtain⟨y49,h50,y51,h52,y53,h54,h⟩:=Bw h
       obtain⟨y55,h56,y57,h58,h⟩:=A_ h
       refine wn Gp 28 [] [pc e65 (k65 y42.2 [0,5,20,40] _ h50) [0],⟨.nz 2,jF rfl⟩,pc e65 (k65 y49.2 [0,w64 (Int.tdiv y49.1 2),y49.1] _ h52) [0],pc e60 (k60 y51.2 3 _ h54) [0],pc e64 (k64 y53.2 (-1) 2 _ h56) [0],⟨.whenR [(decide ((ln (Gs z3))>0),true)] (.call 60 [dO 0 0,dI 4] [.box 70 (d70 y55.2)] (dI y57.1) [.box 70 (d70 y57.2)] [0]),⟨λ hg=>⟨e60,(k60 y55.2 4 _ (A1 h58 hg))⟩,λ hg=>by have e:=J5 h58 hg;subst e;rfl⟩⟩] [.ownb 9 4 3 1] 1 Anz [0,2,3,7,8,11,155] hC [] ?_
       rcases cB h with⟨h59,h⟩ | ⟨h59,h⟩
       ·obtain⟨y60,h61,y62,h63,h⟩:=A_ h
        exact wx w3b (Zx) (Ad3 y1 y3 y5 z2) Gp 26 [true] [pc e60 (k60 y57.2 (ln (Gs z3)) _ h61) [0],pa q90 5 h63] [] 1 [0,1,2,3,4,5,8,6,11] _ hC [pq h59] (sI h).symm
       ·refine wn Gp 2 [false] [] [.frz 10] 1 Jv [0,2,3,7,11] hC [pq h59] ?_
        obtain⟨y64,h65,h⟩:=Aw h
        exact wx w3b (Zx) (Ad3 y1 y3 y5 z2) Gp 24 [] [pa q90 5 h65] [] 1 [0,1,2,3,4,5,8,6,10] _ hC [] (sI h).symm
     ·exact wx w3 (Asf) (Av2 y1 y3 y5 z2) Gp 26 [false] [] [] 1 n9_ (z3.1,z3.2.1,z3.2.2.1,(g3_ z3),(Gs z3)) hC [pq h37] (hb3 _ (sI h).symm)
    ·have h:=hnext3 _ hs3
     replace h:=sI h
     subst h
     exact wr Gp 23 [] [] [] 1 [0,6,7,8] hC []
theorem e28:EN 28:=en Tryz.func28
def C6:List Nat:=[0,1,3,4,5,6,7,8,9,11,12,13,16,17,18,30,31,32,35,36,37,38,57,67,68,69,89,90,91,92,114,119,126]
def Xv (x1:Aa) (z0:Int×(List Int)×Int×(List Bool)):St:=[(0,dO 0 0),(3,dO 4 0),(4,dO 5 0),(5,dO 6 0),(16,dI (ln x1.Ad)),(17,dI z0.1)]
def zS (x1:Aa) (z0:Int×(List Int)×Int×(List Bool)):List Res:=(.box 70 [DS pI z0.2.1,I z0.2.2.1]::zs x1 (.box 29 [I x1.Am,.os 1,.os 2,.os 3,I x1.Phase,I x1.Au] :: .box 34 [.os 7,.os 8,.os 9,.os 10] :: .box 34 [.os 11,.os 12,.os 13,.os 14]::ze [v1_ (E1 z0),v4_ ([]:List Ai),v0_ ([]:List Int),v3_ ([]:List As)]))
def Af6  (z0:Int×(List Int)×Int×(List Bool)):St:=[(0,dO 0 0),(3,dO 4 0),(4,dO 5 0),(5,dO 6 0)]
def Ais (x1:Aa) (z0:Int×(List Int)×Int×(List Bool)):List Res:=(.box 70 [DS pI z0.2.1,I z0.2.2.1]::zs x1 (.box 29 [I x1.Am,.os 1,.os 2,.os 3,I x1.Phase,I x1.Au] :: .box 34 [.os 7,.os 8,.os 9,.os 10] :: .box 34 [.os 11,.os 12,.os 13,.os 14]::ze [v1_ (E1 z0),v4_ ([]:List Ai),v0_ ([]:List Int),v3_ ([]:List As)]))
def Xu (x1:Aa) (z1:Int×(List Bool)):St:=[(0,dO 0 0),(3,dO 4 0),(4,dO 5 0),(5,dO 6 0),(30,dI (ln x1.Af)),(31,dI z1.1)]
def zR (x1:Aa) (z0:Int×(List Int)×Int×(List Bool)) (z1:Int×(List Bool)):List Res:=(.box 70 [DS pI z0.2.1,I z0.2.2.1]::zs x1 (.box 29 [I x1.Am,.os 1,.os 2,.os 3,I x1.Phase,I x1.Au] :: .box 34 [.os 7,.os 8,.os 9,.os 10] :: .box 34 [.os 11,.os 12,.os 13,.os 14]::ze [v1_ z1.2,v4_ ([]:List Ai),v0_ ([]:List Int),v3_ ([]:List As)]))
def Af5  (z1:Int×(List Bool)):St:=[(0,dO 0 0),(3,dO 4 0),(4,dO 5 0),(5,dO 6 0)]
def Air (x1:Aa) (z0:Int×(List Int)×Int×(List Bool)) (z1:Int×(List Bool)):List Res:=(.box 70 [DS pI z0.2.1,I z0.2.2.1]::zs x1 (.box 29 [I x1.Am,.os 1,.os 2,.os 3,I x1.Phase,I x1.Au] :: .box 34 [.os 7,.os 8,.os 9,.os 10] :: .box 34 [.os 11,.os 12,.os 13,.os 14]::ze [v1_ z1.2,v4_ ([]:List Ai),v0_ ([]:List Int),v3_ ([]:List As)]))
def Qm (x1:Aa) (z1:Int×(List Bool)) (n2:Nat) (z2:Bool×(List Bool)):St:=[(0,dO 0 0),(3,dO 4 0),(4,dO 5 0),(5,dO 6 0),(6,dI z1.1),(7,dB z2.1),(30,dI (ln x1.Af)),(31,dI z1.1),(35,dS 1),(36,dI (ln x1.Ad)),(37,dI (cnt 0 n2))]
def Wr (x1:Aa) (z0:Int×(List Int)×Int×(List Bool)) (n2:Nat) (z2:Bool×(List Bool)):List Res:=(.box 70 [DS pI z0.2.1,I z0.2.2.1]::zs x1 (.box 29 [I x1.Am,.os 1,.os 2,.os 3,I x1.Phase,I x1.Au] :: .box 34 [.os 7,.os 8,.os 9,.os 10] :: .box 34 [.os 11,.os 12,.os 13,.os 14]::ze [v1_ z2.2,v4_ ([]:List Ai),v0_ ([]:List Int),v3_ ([]:List As)]))
def Af4 (x1:Aa) (z1:Int×(List Bool)) (z2:Bool×(List Bool)):St:=[(0,dO 0 0),(3,dO 4 0),(4,dO 5 0),(5,dO 6 0),(30,dI (ln x1.Af)),(31,dI z1.1)]
def Aiq (x1:Aa) (z0:Int×(List Int)×Int×(List Bool)) (z2:Bool×(List Bool)):List Res:=(.box 70 [DS pI z0.2.1,I z0.2.2.1]::zs x1 (.box 29 [I x1.Am,.os 1,.os 2,.os 3,I x1.Phase,I x1.Au] :: .box 34 [.os 7,.os 8,.os 9,.os 10] :: .box 34 [.os 11,.os 12,.os 13,.os 14]::ze [v1_ z2.2,v4_ ([]:List Ai),v0_ ([]:List Int),v3_ ([]:List As)]))
def Xt (x1:Aa) (z3:Sg5):St:=[(0,dO 0 0),(3,dO 4 0),(4,dO 5 0),(5,dO 6 0),(67,dI (ln x1.Ac)),(68,dI z3.1)]
def zQ (x1:Aa) (z1:Int×(List Bool)) (z3:Sg5):List Res:=(.box 70 [DS pI z3.2.1,I z3.2.2.1]::zs x1 (.box 29 [I x1.Am,.os 1,.os 2,.os 3,I x1.Phase,I x1.Au] :: .box 34 [.os 7,.os 8,.os 9,.os 10] :: .box 34 [.os 11,.os 12,.os 13,.os 14]::ze [v1_ z1.2,v4_ (E1 z3),v0_ ([]:List Int),v3_ ([]:List As)]))
def Af3  (z3:Sg5):St:=[(0,dO 0 0),(3,dO 4 0),(4,dO 5 0),(5,dO 6 0)]
def Aip (x1:Aa) (z1:Int×(List Bool)) (z3:Sg5):List Res:=(.box 70 [DS pI z3.2.1,I z3.2.2.1]::zs x1 (.box 29 [I x1.Am,.os 1,.os 2,.os 3,I x1.Phase,I x1.Au] :: .box 34 [.os 7,.os 8,.os 9,.os 10] :: .box 34 [.os 11,.os 12,.os 13,.os 14]::ze [v1_ z1.2,v4_ (E1 z3),v0_ ([]:List Int),v3_ ([]:List As)]))
def Xs (x1:Aa) (n4:Nat) (z4:(List Int)×Int×(List Int)):St:=[(0,dO 0 0),(3,dO 4 0),(4,dO 5 0),(5,dO 6 0),(89,dS 3),(90,dI (ln x1.Af)),(91,dI (cnt 0 n4))]
def zP (x1:Aa) (z1:Int×(List Bool)) (z3:Sg5) (n4:Nat) (z4:(List Int)×Int×(List Int)):List Res:=(.box 70 [DS pI z4.1,I z4.2.1]::zs x1 (.box 29 [I x1.Am,.os 1,.os 2,.os 3,I x1.Phase,I x1.Au] :: .box 34 [.os 7,.os 8,.os 9,.os 10] :: .box 34 [.os 11,.os 12,.os 13,.os 14]::ze [v1_ z1.2,v4_ (E1 z3),v0_ z4.2.2,v3_ ([]:List As)]))
def Af2  (z4:(List Int)×Int×(List Int)):St:=[(0,dO 0 0),(3,dO 4 0),(4,dO 5 0),(5,dO 6 0)]
def Aio (x1:Aa) (z1:Int×(List Bool)) (z3:Sg5) (z4:(List Int)×Int×(List Int)):List Res:=(.box 70 [DS pI z4.1,I z4.2.1]::zs x1 (.box 29 [I x1.Am,.os 1,.os 2,.os 3,I x1.Phase,I x1.Au] :: .box 34 [.os 7,.os 8,.os 9,.os 10] :: .box 34 [.os 11,.os 12,.os 13,.os 14]::ze [v1_ z1.2,v4_ (E1 z3),v0_ z4.2.2,v3_ ([]:List As)]))
def M1  (z5:Int×(List Int)×Int×(List As)):St:=[(0,dO 0 0),(3,dO 4 0),(4,dO 5 0),(5,dO 6 0),(12,dI z5.1)]
def P7 (x1:Aa) (z1:Int×(List Bool)) (z3:Sg5) (z4:(List Int)×Int×(List Int)) (z5:Int×(List Int)×Int×(List As)):List Res:=(.box 70 [DS pI z5.2.1,I z5.2.2.1]::zs x1 (.box 29 [I x1.Am,.os 1,.os 2,.os 3,I x1.Phase,I x1.Au] :: .box 34 [.os 7,.os 8,.os 9,.os 10] :: .box 34 [.os 11,.os 12,.os 13,.os 14]::ze [v1_ z1.2,v4_ (E1 z3),v0_ z4.2.2,v3_ (E1 z5)]))
def Af1  (z5:Int×(List Int)×Int×(List As)):St:=[(4,dO 4 0),(5,dO 5 0)]
def Ain (x1:Aa) (z1:Int×(List Bool)) (z3:Sg5) (z4:(List Int)×Int×(List Int)) (z5:Int×(List Int)×Int×(List As)):List Res:=(.box 70 [DS pI z5.2.1,I z5.2.2.1]::zs x1 (.box 34 [.os 6,.os 7,.os 8,.os 9] :: .box 34 [.os 10,.os 11,.os 12,.os 13]::ze [v1_ z1.2,v4_ (E1 z3),v0_ z4.2.2,v3_ (E1 z5)]))
set_option maxHeartbeats 4000000 in
theorem A5z (x0 : Ap) (x1 : Aa) (r : Ab × Ap) (h : uQ x0 x1 = some r) : CO 30 [.d (.o 0 0), .agg [I x1.Am, .os 1, .os 2, .os 3, I x1.Phase, I x1.Au]] (.box 70 (d70 x0) :: zs x1 []) (.agg [.os 4, .os 5, .os 6, .os 7]) (.box 70 (d70 r.2) :: zs x1 (zp r.1 [])) := by
 unfold uQ at h
 refine co 134 Tryz.func30 λ C hC=>?_
 refine ws C6 28 [] [pl q49 x1.Ad] [.ownb 5 0 4 1,.ownb 5 1 87 4,.ownb 5 2 3 1,.ownb 5 3 92 2,.ownb 6 0 4 1,.ownb 6 1 87 4,.ownb 6 2 3 1,.ownb 6 3 92 2] 4 Dl (Xv x1 (0,x0.L,x0.At,([]:List Bool))) (zS x1 (0,x0.L,x0.At,([]:List Bool))) hC [] ?_
 obtain⟨w0,hm0,hret0,hnext0⟩:=Av h
 clear h
 refine wc w0 (Af6) (Ais x1) ?_ λ z0 hs0=>?_
 ·refine wb ?_
  refine ww (Xv x1) (zS x1) hm0 λ z0 w0b h hb0 hr0=>?_
  unfold Sm at h
  rcases cB h with⟨h1,h⟩ | ⟨h1,h⟩
  ·obtain⟨y2,h3,y4,h5,h⟩:=A_ h
   exact wx w0b (Xv x1) (zS x1) C6 31 [true] [pc e60 (k60 (⟨z0.2.1,z0.2.2.1⟩:Ap) 2 _ h3) [0],pa pB 1 h5] [] 4 [0,1,2,3,4,5,6,7,8,9,10,15,12,13,14] _ hC [pq h1] (sI h).symm
  ·exact wx w0 (Af6) (Ais x1) C6 26 [false] [] [] 4 Dl (z0.1,z0.2.1,z0.2.2.1,(E1 z0)) hC [pq h1] (hb0 _ (sI h).symm)
 ·have h := hnext0 _ hs0
  refine ws C6 24 [] [pl q90 x1.Af] [] 4 Dl (Xu x1 (0,(E1 z0))) (zR x1 z0 (0,(E1 z0))) hC [] ?_
  obtain⟨w1,hm1,hret1,hnext1⟩:=Av h
  clear h
  refine wc w1 (Af5) (Air x1 z0) ?_ λ z1 hs1=>?_
  ·refine wb ?_
   refine ww (Xu x1) (zR x1 z0) hm1 λ z1 w1b h hb1 hr1=>?_
   unfold Sl at h
   rcases cB h with⟨h6,h⟩ | ⟨h6,h⟩
   ·refine ws C6 34 [true] [pl q49 x1.Ad] [] 4 Dl (Qm x1 z1 0 (true,z1.2)) (Wr x1 z0 0 (true,z1.2)) hC [pq h6] ?_
    obtain⟨w2,hm2,hret2,hnext2⟩:=Av h
    clear h
    refine wc w2 (Af4 x1 z1) (Aiq x1 z0) ?_ λ z2 hs2=>?_
    ·refine wb ?_
     refine B1 35 1 rfl rfl λ hl2=>?_
     refine wl (Qm x1 z1) (Wr x1 z0) hm2 (λ z2 hn2=>?_) λ n2 a2 z2 w2b hi2 hx2 h hb2 hr2=>?_
     ·clear hm2
      exact wx w2 (Af4 x1 z1) (Aiq x1 z0) C6 26 [false] [] [] 4 Dl _ hC [pq (A5 hl2)] hn2
     ·unfold Sk at h
      obtain⟨y7,h8,h⟩:=Aw h
      refine wn C6 32 [true] [pr q49 (Bb hx2 hl2),pn q49 (Bb hx2 hl2),pR pB h8,pN pB h8] [] 4 Dl [0,3,4,5,6,7,8,30,31,35,36,37,57] hC [pq (A4 hi2 hl2)] ?_
      rcases cB h with⟨h9,h⟩ | ⟨h9,h⟩
      ·obtain⟨y10,h11,y12,h13,h⟩:=A_ h
       exact wx w2b (Qm x1 z1 (n2+1)) (Wr x1 z0 (n2+1)) C6 27 [true] [pr pB h11,pu pB h11 h13] [] 4 Dl _ hC [pq h9] (sI h).symm
      ·exact wx w2b (Qm x1 z1 (n2+1)) (Wr x1 z0 (n2+1)) C6 25 [false] [] [] 4 Dl _ hC [pq h9] (sI h).symm
    ·have h:=hnext2 _ hs2
     exact wx w1b (Xu x1) (zR x1 z0) C6 23 [] [] [] 4 Dl _ hC [] (sI h).symm
   ·exact wx w1 (Af5) (Air x1 z0) C6 26 [false] [] [] 4 Dl (z1.1,z1.2) hC [pq h6] (hb1 _ (sI h).symm)
  ·have h := hnext1 _ hs1
   refine ws C6 24 [] [pl q98 x1.Ac] [] 4 Dl (Xt x1 (0,z0.2.1,z0.2.2.1,([]:List Ai))) (zQ x1 z1 (0,z0.2.1,z0.2.2.1,([]:List Ai))) hC [] ?_
   obtain⟨w3,hm3,hret3,hnext3⟩:=Av h
   clear h
   refine wc w3 (Af3) (Aip x1 z1) ?_ λ z3 hs3=>?_
   ·refine wb ?_
    refine ww (Xt x1) (zQ x1 z1) hm3 λ z3 w3b h hb3 hr3=>?_
    unfold Sj at h
    rcases cB h with⟨h14,h⟩ | ⟨h14,h⟩
    ·obtain⟨y15,h16,y17,h18,y19,h20,h⟩:=Bw h
     obtain⟨y21,h22,y23,h24,h⟩:=A_ h
     exact wx w3b (Xt x1) (zQ x1 z1) C6 31 [true] [pc e65 (k65 (⟨z3.2.1,z3.2.2.1⟩:Ap) [0,1,2,2,2,3] _ h16) [0],pc e60 (k60 y15.2 5 _ h18) [0],pc e65 (k65 y17.2 [5000,5000,5005,4950] _ h20) [0],pc e65 (k65 y19.2 [0,0,40,1800,3590] _ h22) [0],pa q87 4 h24] [] 4 [0,1,2,3,4,5,6,7,8,9,10,11,15,13,14] _ hC [pq h14] (sI h).symm
    ·exact wx w3 (Af3) (Aip x1 z1) C6 26 [false] [] [] 4 Dl (z3.1,z3.2.1,z3.2.2.1,(E1 z3)) hC [pq h14] (hb3 _ (sI h).symm)
   ·have h := hnext3 _ hs3
    refine ws C6 24 [] [pl q90 x1.Af] [] 4 Dl (Xs x1 0 (z3.2.1,z3.2.2.1,([]:List Int))) (zP x1 z1 z3 0 (z3.2.1,z3.2.2.1,([]:List Int))) hC [] ?_
    obtain⟨w4,hm4,hret4,hnext4⟩:=Av h
    clear h
    refine wc w4 (Af2) (Aio x1 z1 z3) ?_ λ z4 hs4=>?_
    ·refine wb ?_
     refine B1 89 3 rfl rfl λ hl4=>?_
     refine wl (Xs x1) (zP x1 z1 z3) hm4 (λ z4 hn4=>?_) λ n4 a4 z4 w4b hi4 hx4 h hb4 hr4=>?_
     ·clear hm4
      exact wx w4 (Af2) (Aio x1 z1 z3) C6 26 [false] [] [] 4 Dl _ hC [pq (A5 hl4)] hn4
     ·unfold Si at h
      obtain⟨y25,h26,y27,h28,h⟩:=A_ h
      exact wx w4b (Xs x1 (n4+1)) (zP x1 z1 z3 (n4+1)) C6 33 [true] [pr q90 (Bb hx4 hl4),pn q90 (Bb hx4 hl4),⟨.nz 3,jF rfl⟩,pc e65 (k65 (⟨z4.1,z4.2.1⟩:Ap) [a4.Load,a4.Load,a4.Least,w64 (Int.tdiv a4.Load 3)] _ h26) [0],pa pI 1 h28] [] 4 [0,1,2,3,4,5,6,7,8,9,10,11,12,16,14] _ hC [pq (A4 hi4 hl4)] (sI h).symm
    ·have h:=hnext4 _ hs4
     refine ws C6 24 [] [] [] 4 Dl (M1 (1,z4.1,z4.2.1,([]:List As))) (P7 x1 z1 z3 z4 (1,z4.1,z4.2.1,([]:List As))) hC [] ?_
     obtain⟨w5,hm5,hret5,hnext5⟩:=Av h
     clear h
     refine wc w5 (Af1) (Ain x1 z1 z3 z4) ?_ λ z5 hs5=>?_
     ·refine wb ?_
      refine ww (M1) (P7 x1 z1 z3 z4) hm5 λ z5 w5b h hb5 hr5=>?_
      unfold Sh at h
      rcases cB h with⟨h29,h⟩ | ⟨h29,h⟩
      ·obtain⟨y30,h31,h⟩:=Aw h
       rcases cB h with⟨h32,h⟩ | ⟨h32,h⟩
       ·obtain⟨y33,h34,h⟩:=Aw h
        refine wn C6 35 [true,true] [pc e60 (k60 (⟨z5.2.1,z5.2.2.1⟩:Ap) 5 _ h31) [0],pc e60 (k60 y30.2 4 _ h34) [0],pb e47 (k47 x1 (⟨z5.1,y33.1⟩:As) _ rfl)] [] 4 I9 [0,3,4,5,12,13,126] hC [pq h29,pq h32] ?_
        rcases cB h with⟨h35,h⟩ | ⟨h35,h⟩
        ·obtain⟨y36,h37,h⟩:=Aw h
         exact wx w5b (M1) (P7 x1 z1 z3 z4) C6 25 [true] [pa q92 2 h37] [] 4 [0,1,2,3,4,5,6,7,8,9,10,11,12,13,16] _ hC [pq h35] (sI h).symm
        ·exact wx w5b (M1) (P7 x1 z1 z3 z4) C6 25 [false] [] [] 4 Dl _ hC [pq h35] (sI h).symm
       ·exact wx w5b (M1) (P7 x1 z1 z3 z4) C6 34 [true,false] [pc e60 (k60 (⟨z5.2.1,z5.2.2.1⟩:Ap) 5 _ h31) [0]] [] 4 Dl _ hC [pq h29,pq h32] (sI h).symm
      ·exact wx w5 (Af1) (Ain x1 z1 z3 z4) C6 26 [false] [] [] 4 [0,1,2,3,5,6,7,8,9,10,11,12,13,14] (z5.1,z5.2.1,z5.2.2.1,(E1 z5)) hC [pq h29] (hb5 _ (sI h).symm)
     ·have h:=hnext5 _ hs5
      replace h:=sI h
      subst h
      exact wr C6 23 [] [] [] 4 [0,1,2,3,10,11,12,13] hC []
theorem A6e:EN 30:=en Tryz.func30
end Go.Proofs.YtcigbocngfaopaaGreat
