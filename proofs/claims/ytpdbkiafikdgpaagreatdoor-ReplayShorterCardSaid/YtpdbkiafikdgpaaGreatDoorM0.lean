import Derived.Test.YtpdbkiafikdgpaaGreatDoorRows
import Derived.Test.YtpdbkiafikdgpaaGreatDoorMo
import Derived.Test.YtpdbkiafikdgpaaGreatDoorBw
import Derived.Test.YtpdbkiafikdgpaaGreatDoorIn
import Derived.Test.YtpdbkiafikdgpaaGreatDoorTs
set_option linter.unusedVariables false
set_option maxHeartbeats 4000000
namespace Go.Proofs.YtpdbkiafikdgpaaGreatDoor
open Go.SL
abbrev v0_ (l:List Int):Res:=.sl 3 1 (l.map pI)
abbrev v1_ (l:List A6):Res:=.sl 65 5 (l.map q65)
abbrev v2_ (l:List Bool):Res:=.sl 4 1 (l.map pB)
abbrev v3_ (l:List Al):Res:=.sl 96 2 (l.map q96)
abbrev v4_ (l:List Af):Res:=.sl 93 4 (l.map q93)
abbrev v5_ (l:List Aw):Res:=.sl 84 2 (l.map q84)
abbrev v6_ (l:List Am):Res:=.sl 63 3 (l.map q63)
abbrev v7_ (l:List Ab):Res:=.sl 39 4 (l.map q39)
abbrev v8_ (l:List Ai):Res:=.sl 137 3 (l.map Bd)
abbrev v9_ (l:List Aj):Res:=.sl 70 3 (l.map q70)
abbrev Hz (l:List Bg):Res:=.sl 72 3 (l.map q72)
abbrev Hy (l:List A5):Res:=.sl 81 5 (l.map q81)
abbrev CO:=CallOk Tryz.prog
abbrev EN:=Fg Tryz.prog
abbrev Ef {α0 α1 α2 α3:Type} (z:α0×α1×α2×α3):α3:=z.2.2.2
abbrev g3_ {α0 α1 α2 α3 α4:Type} (z:α0×α1×α2×α3×α4):α3:=z.2.2.2.1
abbrev Ih {α0 α1 α2 α3 α4:Type} (z:α0×α1×α2×α3×α4):α4:=z.2.2.2.2
abbrev g4_ {α0 α1 α2 α3 α4 α5:Type} (z:α0×α1×α2×α3×α4×α5):α4:=z.2.2.2.2.1
abbrev g5_ {α0 α1 α2 α3 α4 α5 α6:Type} (z:α0×α1×α2×α3×α4×α5×α6):α5:=z.2.2.2.2.2.1
abbrev Awq {α0 α1 α2 α3 α4 α5 α6:Type} (z:α0×α1×α2×α3×α4×α5×α6):α6:=z.2.2.2.2.2.2
abbrev g6_ {α0 α1 α2 α3 α4 α5 α6 α7:Type} (z:α0×α1×α2×α3×α4×α5×α6×α7):α6:=z.2.2.2.2.2.2.1
abbrev g7_ {α0 α1 α2 α3 α4 α5 α6 α7 α8:Type} (z:α0×α1×α2×α3×α4×α5×α6×α7×α8):α7:=z.2.2.2.2.2.2.2.1
abbrev vW {α0 α1 α2 α3 α4 α5 α6 α7 α8:Type} (z:α0×α1×α2×α3×α4×α5×α6×α7×α8):α8:=z.2.2.2.2.2.2.2.2
abbrev g8_ {α0 α1 α2 α3 α4 α5 α6 α7 α8 α9:Type} (z:α0×α1×α2×α3×α4×α5×α6×α7×α8×α9):α8:=z.2.2.2.2.2.2.2.2.1
abbrev g9_ {α0 α1 α2 α3 α4 α5 α6 α7 α8 α9 α10:Type} (z:α0×α1×α2×α3×α4×α5×α6×α7×α8×α9×α10):α9:=z.2.2.2.2.2.2.2.2.2.1
abbrev Fm {α0 α1 α2 α3 α4 α5 α6 α7 α8 α9 α10:Type} (z:α0×α1×α2×α3×α4×α5×α6×α7×α8×α9×α10):α10:=z.2.2.2.2.2.2.2.2.2.2
abbrev Dk {α0 α1 α2 α3 α4 α5 α6 α7 α8 α9 α10 α11:Type} (z:α0×α1×α2×α3×α4×α5×α6×α7×α8×α9×α10×α11):α10:=z.2.2.2.2.2.2.2.2.2.2.1
abbrev H9 {α0 α1 α2 α3 α4 α5 α6 α7 α8 α9 α10 α11:Type} (z:α0×α1×α2×α3×α4×α5×α6×α7×α8×α9×α10×α11):α11:=z.2.2.2.2.2.2.2.2.2.2.2
abbrev G_ {α0 α1 α2 α3 α4 α5 α6 α7 α8 α9 α10 α11 α12:Type} (z:α0×α1×α2×α3×α4×α5×α6×α7×α8×α9×α10×α11×α12):α11:=z.2.2.2.2.2.2.2.2.2.2.2.1
abbrev Ij {α0 α1 α2 α3 α4 α5 α6 α7 α8 α9 α10 α11 α12 α13:Type} (z:α0×α1×α2×α3×α4×α5×α6×α7×α8×α9×α10×α11×α12×α13):α12:=z.2.2.2.2.2.2.2.2.2.2.2.2.1
abbrev Ii {α0 α1 α2 α3 α4 α5 α6 α7 α8 α9 α10 α11 α12 α13 α14:Type} (z:α0×α1×α2×α3×α4×α5×α6×α7×α8×α9×α10×α11×α12×α13×α14):α13:=z.2.2.2.2.2.2.2.2.2.2.2.2.2.1
abbrev P9 {α0 α1 α2 α3 α4 α5 α6 α7 α8 α9 α10 α11 α12 α13 α14:Type} (z:α0×α1×α2×α3×α4×α5×α6×α7×α8×α9×α10×α11×α12×α13×α14):α14:=z.2.2.2.2.2.2.2.2.2.2.2.2.2.2
abbrev Sw {α0 α1 α2 α3 α4 α5 α6 α7 α8 α9 α10 α11 α12 α13 α14 α15:Type} (z:α0×α1×α2×α3×α4×α5×α6×α7×α8×α9×α10×α11×α12×α13×α14×α15):α14:=z.2.2.2.2.2.2.2.2.2.2.2.2.2.2.1
abbrev Acr {α0 α1 α2 α3 α4 α5 α6 α7 α8 α9 α10 α11 α12 α13 α14 α15:Type} (z:α0×α1×α2×α3×α4×α5×α6×α7×α8×α9×α10×α11×α12×α13×α14×α15):α15:=z.2.2.2.2.2.2.2.2.2.2.2.2.2.2.2
abbrev Ans {α0 α1 α2 α3 α4 α5 α6 α7 α8 α9 α10 α11 α12 α13 α14 α15 α16:Type} (z:α0×α1×α2×α3×α4×α5×α6×α7×α8×α9×α10×α11×α12×α13×α14×α15×α16):α15:=z.2.2.2.2.2.2.2.2.2.2.2.2.2.2.2.1
abbrev Acq {α0 α1 α2 α3 α4 α5 α6 α7 α8 α9 α10 α11 α12 α13 α14 α15 α16:Type} (z:α0×α1×α2×α3×α4×α5×α6×α7×α8×α9×α10×α11×α12×α13×α14×α15×α16):α16:=z.2.2.2.2.2.2.2.2.2.2.2.2.2.2.2.2
theorem sI {α:Type} {a b:α} (h:some a=some b):a=b:=bH h
abbrev zb (b:Aa) (l:List D):List D:=I b.An::DS q70 b.Ad::DS q72 b.Ac::DS q81 b.Ae::I b.Phase::I b.Ap::l
abbrev zp (p:Ab) (l:List Res):List Res:=.sl 4 1 (p.Ag.map pB) :: .sl 93 4 (p.Ac.map q93) :: .sl 3 1 (p.Aq.map pI) :: .sl 96 2 (p.Ao.map q96)::l
abbrev ze (l:List Res):List Res:=.sl 4 1 (([]:List Bool).map pB) :: .sl 93 4 (([]:List Af).map q93) :: .sl 3 1 (([]:List Int).map pI) :: .sl 96 2 (([]:List Al).map q96)::l
abbrev zs (b:Aa) (l:List Res):List Res:=.sl 70 3 (b.Ad.map q70) :: .sl 72 3 (b.Ac.map q72) :: .sl 81 5 (b.Ae.map q81)::l
abbrev zt {α:Type} (b:Aa) (r:α):Int×List Aj×List Bg×List A5×Int×Int×α:=(b.An,b.Ad,b.Ac,b.Ae,b.Phase,b.Ap,r)
abbrev zu {α:Type} (p:Ab) (r:α):List Bool×List Af×List Int×List Al×α:=(p.Ag,p.Ac,p.Aq,p.Ao,r)
abbrev n3_:List Nat:=[0,1,2]
abbrev n4_:List Nat:=[0,1,2,3]
abbrev n5_:List Nat:=[0,1,2,3,4]
abbrev n6_:List Nat:=[0,1,2,3,4,5]
abbrev n7_:List Nat:=[0,1,2,3,4,5,6]
abbrev n8_:List Nat:=[0,1,2,3,4,5,6,7]
abbrev n9_:List Nat:=[0,1,2,3,4,5,6,7,8]
abbrev Gs:List Nat:=[0,1,2,3,4,5,6,7,8,9]
abbrev Anc:List Nat:=[0,1,2,3,4,5,6,7,8,9,10]
abbrev Fi:List Nat:=[0,1,2,3,4,5,6,7,8,9,10,11]
abbrev H2:List Nat:=[0,1,2,3,4,5,6,7,8,9,10,11,12]
abbrev Ed:List Nat:=[0,1,2,3,4,5,6,7,8,9,10,11,12,13,14]
abbrev A6h:List Nat:=[0,1,2,3,4,5,6,7,8,9,10,11,12,13,14,15]
abbrev A6g:List Nat:=[0,1,2,3,4,5,6,7,8,9,10,11,12,13,14,15,16,17,18]
abbrev vF:List Nat:=[0,1,2,3,4,5,6,7,8,9,10,11,12,13,14,15,16,17,18,19]
abbrev A6f:List Nat:=[0,1,2,3,4,5,6,7,8,9,10,11,12,13,14,15,16,17,18,19,20]
abbrev A6e:List Nat:=[0,1,2,3,4,5,6,7,8,9,10,11,12,13,14,15,16,17,18,19,20,21]
abbrev A6d:List Nat:=[0,1,2,3,4,5,6,7,8,9,10,11,12,13,14,15,16,17,18,19,20,21,22,23]
theorem mixed:Tryz.prog.follows .mixedOrders=true:=by kernel_rfl
abbrev PC:={c:Cl // Cl.ok Tryz.prog c}
abbrev PB:={p:Bool×Bool // p.1=p.2}
theorem okP:∀ l:List PC,Df Tryz.prog (l.map (·.1))
 | []=>trivial
 | c::l=>⟨c.2,okP l⟩
theorem okB:∀ l:List PB,C7 (l.map (·.1))
 | []=>trivial
 | ⟨(_,_),h⟩::l=>⟨h,okB l⟩
def pq {a b:Bool} (h:a=b):PB:=⟨(a,b),h⟩
def pc {f:FuncId} {args:List AV} {R R2:List Res} {res:AV} (e:Fg Tryz.prog f) (k:CallOk Tryz.prog f args R res R2) (pi:List Nat):PC:=⟨.call f args R res R2 pi,e,k⟩
def pb {f:FuncId} {args:List AV} {res:AV} (e:Fg Tryz.prog f) (k:CallOk Tryz.prog f args [] res []):PC:=⟨.callB f args res [[]] 0 [],Iv ⟨e,k⟩⟩
def pw {g:List (Bool×Bool)} {f:FuncId} {args:List AV} {R R2:List Res} {res:AV} (e:Fg Tryz.prog f) (k:C7 g->CallOk Tryz.prog f args R res R2) (pi:List Nat):PC:=⟨.when g (.call f args R res R2 pi),λ h=>⟨e,k h⟩⟩
def pv {g:List (Bool×Bool)} {f:FuncId} {args:List AV} {res:AV} (e:Fg Tryz.prog f) (k:C7 g->CallOk Tryz.prog f args [] res []):PC:=⟨.when g (.callB f args res [[]] 0 []),λ h=>Iv ⟨e,k h⟩⟩
section
variable {α:Type}
def pl (q:α->List Pd) (l:List α):PC:=⟨.len ((l.map q).length:Int) (l.length:Int),Ve l q⟩
def pL_ (g:List (Bool×Bool)) (q:α->List Pd) (l:List α):PC:=⟨.when g (.len ((l.map q).length:Int) (l.length:Int)),λ _=>Ve l q⟩
def pr (q:α->List Pd) {l:List α} {n:Int} {x:α} (h:getI l n=some x):PC:=⟨.row (l.map q) n (q x),U3 h⟩
def pn (q:α->List Pd) {l:List α} {n:Int} {x:α} (h:getI l n=some x):PC:=⟨.row (l.map q) ((n.toNat:Nat):Int) (q x),Jo h⟩
def pt {q:α->List Pd} {l:List α} {i:Nat} {x:α} (hx:l[i]? = some x) (hl:(l.map q).length<=maxLen):PC:=⟨.row (l.map q) (cnt 0 i) (q x),Azk hx hl⟩
def pR (q:α->List Pd) {g:List (Bool×Bool)} {l:List α} {n:Int} {x d:α} (h:A4 g (getI l n) d=some x):PC:=⟨.when g (.row (l.map q) n (q x)),λ hg=>U3 (Bf h hg)⟩
def pN (q:α->List Pd) {g:List (Bool×Bool)} {l:List α} {n:Int} {x d:α} (h:A4 g (getI l n) d=some x):PC:=⟨.when g (.row (l.map q) ((n.toNat:Nat):Int) (q x)),λ hg=>Jo (Bf h hg)⟩
def pa (q:α->List Pd) (size:Nat) {B:Nat} {l m y:List α} (h:appI (B+1) l m=some y) (hs:∀ x,(q x).length=size:=by exact λ _=>rfl):PC:=⟨.app (l.map q) (m.map q) size (((l.map q).length+(m.map q).length)*(B+1)) (y.map q),Hx q size hs h⟩
def pu (q:α->List Pd) {l y:List α} {n:Int} {x x':α} (hx:getI l n=some x) (h:setI l n x'=some y):PC:=⟨.upd (l.map q) n.toNat (q x) (q x') (y.map q),Aka hx h⟩
end
theorem ws {ro:Option Nat} {n:Nat} {C:Ctx} {Q:Exit->Act->World->Prop} {st:St} {R:List Res} {items:List It} (lv:List Nat) (fuel:Nat) (ds:List Bool) (cls:List PC) (adj:List Adj) (k:Nat) (pi:List Nat) (st':St) (R':List Res) (hk:C.h.length<=k) (bs:List PB) (hW:WI ro Tryz.prog n C Q (B7 fuel items ds) st' R') (h:Gi Tryz.prog n lv fuel items st R ds (cls.map (·.1)) adj k pi (N3 st')=some (st',R',cls.map (·.1),bs.map (·.1)):=by kernel_rfl):WI ro Tryz.prog n C Q items st R:=yG mixed lv fuel ds (cls.map (·.1)) adj k pi st' R' hk (okP cls) (okB bs) h hW
def wo (o:Option (St×List Res×List Cl×List (Bool×Bool))):St×List Res:=match o with
 | some (s,r,_,_)=>(s,r)
 | none=>([],[])
theorem wn {ro:Option Nat} {n:Nat} {C:Ctx} {Q:Exit->Act->World->Prop} {st:St} {R:List Res} {items:List It} (lv:List Nat) (fuel:Nat) (ds:List Bool) (cls:List PC) (adj:List Adj) (k:Nat) (pi:List Nat) (ks:List Nat) (hk:C.h.length<=k) (bs:List PB) (hW:WI ro Tryz.prog n C Q (B7 fuel items ds) (wo (Gi Tryz.prog n lv fuel items st R ds (cls.map (·.1)) adj k pi ks)).1 (wo (Gi Tryz.prog n lv fuel items st R ds (cls.map (·.1)) adj k pi ks)).2) (h:(Gi Tryz.prog n lv fuel items st R ds (cls.map (·.1)) adj k pi ks).map (λ x=>(N3 x.1,x.2.2.1,x.2.2.2))=some (ks,cls.map (·.1),bs.map (·.1)):=by kernel_rfl):WI ro Tryz.prog n C Q items st R:=by
 cases e:Gi Tryz.prog n lv fuel items st R ds (cls.map (·.1)) adj k pi ks with
 | none=>rw [e] at h;cases h
 | some x=>
  obtain⟨s,r,c,b⟩:=x
  rw [e] at h hW
  simp only [bS,al,aQ] at h
  obtain⟨h1,h2,h3⟩:=h
  subst h1;subst h2;subst h3
  exact yG mixed lv fuel ds _ adj k pi s r hk (okP cls) (okB bs) e hW
theorem we {ro:Option Nat} {n:Nat} {C:Ctx} {Q:Exit->Act->World->Prop} {st:St} {R:List Res} {items:List It} {σ:Type} {φ:σ->Prop} {st':σ->St} {R':σ->List Res} (lv:List Nat) (fuel:Nat) (ds:List Bool) (cls:List PC) (adj:List Adj) (k:Nat) (pi:List Nat) (s:σ) (hk:C.h.length<=k) (bs:List PB) (h1:φ s) (hi:hdK (B7 fuel items ds)=Ex n C φ st' R':=by kernel_rfl) (h:Gi Tryz.prog n lv fuel items st R ds (cls.map (·.1)) adj k pi (N3 (st' s))=some (st' s,R' s,cls.map (·.1),bs.map (·.1)):=by kernel_rfl):WI ro Tryz.prog n C Q items st R:=Atw mixed lv fuel ds (cls.map (·.1)) adj k pi s hk (okP cls) (okB bs) hi h h1
theorem wx {σ:Type} {τ:Type} (w:Ctl σ τ) (st':σ->St) (R':σ->List Res) {ro:Option Nat} {n:Nat} {C:Ctx} {Q:Exit->Act->World->Prop} {st:St} {R:List Res} {items:List It} (lv:List Nat) (fuel:Nat) (ds:List Bool) (cls:List PC) (adj:List Adj) (k:Nat) (pi:List Nat) (s:σ) (hk:C.h.length<=k) (bs:List PB) (h1:w = .next s) (hi:hdK (B7 fuel items ds)=Ex n C (λ s'=>w = .next s') st' R':=by kernel_rfl) (h:Gi Tryz.prog n lv fuel items st R ds (cls.map (·.1)) adj k pi (N3 (st' s))=some (st' s,R' s,cls.map (·.1),bs.map (·.1)):=by kernel_rfl):WI ro Tryz.prog n C Q items st R:=Atw mixed lv fuel ds (cls.map (·.1)) adj k pi s hk (okP cls) (okB bs) hi h h1
theorem wc {ro:Option Nat} {n:Nat} {C:Ctx} {Q:Exit->Act->World->Prop} {st:St} {R:List Res} {items:List It} {σ τ:Type} (w:Ctl σ τ) (st':σ->St) (R':σ->List Res) (h:WI ro Tryz.prog n C Q (.c (hdC items) :: .k (Ex n C (λ s=>w = .next s) st' R')::tlI items) st R) (hK:∀ s,w = .next s->WI ro Tryz.prog n C Q (tlI items) (st' s) (R' s)) (hi:isC items=true:=by kernel_rfl):WI ro Tryz.prog n C Q items st R:=A4j hi _ st' R' h hK
theorem Bb {α β γ:Type} {o:Option α} {f:α->Option β} {g:α->β->Option γ} {r:γ} (h:(o.bind λ a=>(f a).bind λ b=>g a b)=some r):∃ a,o=some a/\∃ b,f a=some b/\g a b=some r:=by
 obtain⟨a,h1,h⟩:=Az h
 obtain⟨b,h2,h⟩:=Az h
 exact⟨a,h1,b,h2,h⟩
theorem B0 {α β γ δ:Type} {o:Option α} {f:α->Option β} {g:α->β->Option γ} {k:α->β->γ->Option δ} {r:δ} (h:(o.bind λ a=>(f a).bind λ b=>(g a b).bind λ c=>k a b c)=some r):∃ a,o=some a/\∃ b,f a=some b/\∃ c,g a b=some c/\k a b c=some r:=by
 obtain⟨a,h1,h⟩:=Az h
 obtain⟨b,h2,c,h3,h⟩:=Bb h
 exact⟨a,h1,b,h2,c,h3,h⟩
theorem Cr {α β γ δ ε:Type} {o:Option α} {f:α->Option β} {g:α->β->Option γ} {k:α->β->γ->Option δ} {l:α->β->γ->δ->Option ε} {r:ε} (h:(o.bind λ a=>(f a).bind λ b=>(g a b).bind λ c=>(k a b c).bind λ d=>l a b c d)=some r):∃ a,o=some a/\∃ b,f a=some b/\∃ c,g a b=some c/\∃ d,k a b c=some d/\l a b c d=some r:=by
 obtain⟨a,h1,h⟩:=Az h
 obtain⟨b,h2,c,h3,d,h4,h⟩:=B0 h
 exact⟨a,h1,b,h2,c,h3,d,h4,h⟩
theorem wl {ro:Option Nat} {n:Nat} {C:Ctx} {Q:Exit->Act->World->Prop} {st:St} {R:List Res} {α σ τ:Type} {items:List It} {f:Nat->α->σ->Option (Ctl σ τ)} (stF:Nat->σ->St) (RF:Nat->σ->List Res) {r:Ctl σ τ} {xs:List α} {s:σ} (hm:foldI f xs 0 s=some r) (hnil:∀ s,r = .next s->WI ro Tryz.prog n C Q (.c (lpC items) :: .k (λ _ _=>False)::tlI items) (stF xs.length s) (RF xs.length s)) (hcons:∀ i x s k,i<xs.length->xs[i]? = some x->f i x s=some k->(∀ s',k = .brk s'->r = .next s')->(∀ v,k = .ret v->r = .ret v)->WI ro Tryz.prog n C Q (.c (lpC items) :: .k (Ex n C (λ s'=>k = .next s') (stF (i+1)) (RF (i+1)))::tlI items) (stF i s) (RF i s)) (hi:isL items=true:=by kernel_rfl) (h0:st=stF 0 s:=by rfl) (h1:R=RF 0 s:=by rfl):WI ro Tryz.prog n C Q items st R:=Axn hi f stF RF r xs s hm h0 h1 hnil hcons
theorem ww {ro:Option Nat} {n:Nat} {C:Ctx} {Q:Exit->Act->World->Prop} {st:St} {R:List Res} {σ τ:Type} {items:List It} {f:σ->Option (Ctl σ τ)} (stF:σ->St) (RF:σ->List Res) {r:Ctl σ τ} {fuel:Nat} {s:σ} (hm:whileN f fuel s=some r) (h:∀ s k,f s=some k->(∀ s',k = .brk s'->r = .next s')->(∀ v,k = .ret v->r = .ret v)->WI ro Tryz.prog n C Q (.c (lpC items) :: .k (Ex n C (λ s'=>k = .next s') stF RF)::tlI items) (stF s) (RF s)) (hi:isL items=true:=by kernel_rfl) (h0:st=stF s:=by rfl) (h1:R=RF s:=by rfl):WI ro Tryz.prog n C Q items st R:=Axl hi f stF RF r fuel s hm h0 h1 h
theorem cB {α:Type} {c:Bool} {x y z:α} (h:(bif c then x else y)=z):(c=true/\x=z)\/(c=false/\y=z):=by cases c;exact .inr ⟨rfl,h⟩;exact .inl ⟨rfl,h⟩
theorem wb {ro:Option Nat} {n:Nat} {C:Ctx} {Q:Exit->Act->World->Prop} {st:St} {R:List Res} {items:List It} (h:WI ro Tryz.prog n C Q (.c (A4e items) :: .b (A4d items)::tlI items) st R) (hi:isB items=true:=by kernel_rfl):WI ro Tryz.prog n C Q items st R:=A4k hi h
theorem co {f:FuncId} {fn:Func} {c:Code} {args:List AV} {res:AV} {R R2:List Res} (n:Nat) (hf:Tryz.prog.funcs[f]? = some fn) (h:∀ C:Ctx,C.h.length<=R.length->WI none Tryz.prog n C.z (Mv Tryz.prog fn C.z res R2) [.c c] (jS 0 args) R) (hb:fn.body=some c:=by rfl) (hn:fn.ntmps=n:=by rfl) (hl:Nat.ble args.length n=true:=by rfl):CallOk Tryz.prog f args R res R2:=Ata n hf hb hn hl h
theorem wr {ro:Option Nat} {n:Nat} {C:Ctx} {st:St} {R:List Res} {fn:Func} {res:AV} {R2:List Res} {items:List It} (lv:List Nat) (fuel:Nat) (ds:List Bool) (cls:List PC) (adj:List Adj) (k:Nat) (pi:List Nat) (hk:C.h.length<=k) (bs:List PB) (h:Yx Tryz.prog n lv fuel items st R ds (cls.map (·.1)) adj fn.results.toList k pi=some (res,R2,cls.map (·.1),bs.map (·.1)):=by kernel_rfl):WI ro Tryz.prog n C.z (Mv Tryz.prog fn C.z res R2) items st R:=jT mixed lv fuel ds (cls.map (·.1)) adj _ k pi rfl hk (okP cls) (okB bs) h
theorem wf {ro:Option Nat} {n:Nat} {C:Ctx} {st:St} {R:List Res} {fn:Func} {res:AV} {R2:List Res} {items:List It} (lv:List Nat) (fuel:Nat) (ds:List Bool) (cls:List PC) (adj:List Adj) (k:Nat) (pi:List Nat) (hk:C.h.length<=k) (bs:List PB) (hn:Av2 (B7 fuel items ds)=true:=by kernel_rfl) (h:Yy Tryz.prog n lv fuel items st R ds (cls.map (·.1)) adj fn.results.toList k pi=some (res,R2,cls.map (·.1),bs.map (·.1)):=by kernel_rfl):WI ro Tryz.prog n C.z (Mv Tryz.prog fn C.z res R2) items st R:=A00 mixed lv fuel ds (cls.map (·.1)) adj _ k pi rfl hk (okP cls) (okB bs) hn h
theorem en {f : FuncId} {fn : Func} (hf : Tryz.prog.funcs[f]? = some fn) (hb : fn.body.isNone = false := by kernel_rfl) (hn : (fn.name == "runtime.NumGoroutine") = false := by kernel_rfl) : Fg Tryz.prog f := Go.SL.Aa9 hf hb hn
abbrev ln {α:Type} (l:List α):Int:=(l.length:Int)
abbrev dI (x:Int):AV:=.d (I x)
abbrev dB (x:Bool):AV:=.d (Bo x)
abbrev dO (a b:Nat):AV:=.d (.o a b)
abbrev dS (a:Nat):AV:=.d (.os a)
theorem k82 (x0:Int) (x1:Int) (x2:Int) (r:Bool) (h:F82 x0 x1 x2=r):CO 82 [.d (I x0),.d (I x1),.d (I x2)] [] (.d (Bo r)) []:=by
 unfold F82 at h
 refine co 15 Tryz.func82 λ C hC=>?_
 subst h
 exact wr [0,1,2,6] 25 [] [] [] 0 [] hC []
theorem e82:EN 82:=en Tryz.func82
def Afm:List Nat:=[0,1,2,3,6,7,8,9,11,12,13,14,37]
def Y5 (x0:Aa) (x1:Int) (x2:Int) (n0:Nat) (z0:(List Int)):St:=[(1,dI x1),(2,dI x2),(6,.d (DS pI [])),(7,dS 0),(11,.d (DS q70 x0.Ad)),(12,dI (ln x0.Ad)),(13,dI (cnt 0 n0))]
def Ac0  (n0:Nat) (z0:(List Int)):List Res:=[v0_ z0]
def Aqm  (z0:(List Int)):St:=[(6,.d (DS pI [])),(7,dS 0)]
def At5  (z0:(List Int)):List Res:=[v0_ z0]
theorem k83 (x0:Aa) (x1:Int) (x2:Int) (r:(List Int)) (h:F83 x0 x1 x2=some r):CO 83 [.agg (d30 x0),.d (I x1),.d (I x2)] [] (.d (.os 0)) [v0_ r]:=by
 unfold F83 at h
 refine co 44 Tryz.func83 λ C hC=>?_
 refine ws Afm 28 [] [pl q70 x0.Ad] [.own 7 3 1] 0 [1] (Y5 x0 x1 x2 0 ([]:List Int)) (Ac0 0 ([]:List Int)) hC [] ?_
 obtain⟨w0,hm0,hret0,hnext0⟩:=Ar h
 clear h
 refine wc w0 (Aqm) (At5) ?_ λ z0 hs0=>?_
 ·refine wb ?_
  refine Bv 11 rfl λ hl0=>?_
  refine wl (Y5 x0 x1 x2) (Ac0) hm0 (λ z0 hn0=>?_) λ n0 a0 z0 w0b hi0 hx0 h hb0 hr0=>?_
  ·clear hm0
   exact wx w0 (Aqm) (At5) Afm 26 [false] [] [] 0 [0] _ hC [pq (Be hl0)] hn0
  ·unfold Aie at h
   rcases cB h with⟨h1,h⟩ | ⟨h1,h⟩
   ·obtain⟨y2,h3,h⟩:=Az h
    exact wx w0b (Y5 x0 x1 x2 (n0+1)) (Ac0 (n0+1)) Afm 36 [true,true] [pt hx0 hl0,pa pI 1 h3] [] 0 [2] _ hC [pq (A_ hi0 hl0),pq h1] (sI h).symm
   ·exact wx w0b (Y5 x0 x1 x2 (n0+1)) (Ac0 (n0+1)) Afm 36 [true,false] [pt hx0 hl0] [] 0 [0] _ hC [pq (A_ hi0 hl0),pq h1] (sI h).symm
 ·have h:=hnext0 _ hs0
  replace h:=sI h
  subst h
  exact wr Afm 23 [] [] [] 0 [0] hC []
theorem e83:EN 83:=en Tryz.func83
theorem k44 (x0:A2) (r:Bool) (h:F44 x0=r):CO 44 [.agg (d33 x0)] [] (.d (Bo r)) []:=by
 unfold F44 at h
 refine co 33 Tryz.func44 λ C hC=>?_
 subst h
 exact wr n3_ 25 [] [] [] 0 [] hC []
theorem e44:EN 44:=en Tryz.func44
theorem k91 (x0:Int) (x1:Int) (x2:Int) (r:Bool) (h:F91 x0 x1 x2=r):CO 91 [.d (I x0),.d (I x1),.d (I x2)] [] (.d (Bo r)) []:=by
 unfold F91 at h
 refine co 15 Tryz.func91 λ C hC=>?_
 subst h
 exact wr [0,1,2,6] 25 [] [] [] 0 [] hC []
theorem e91:EN 91:=en Tryz.func91
def Zq:List Nat:=[0,1,4,5,7,8,9,16]
def uK (x0:List Int) (x1:Int) (n0:Nat) (z0:Unit):St:=[(0,.d (DS pI x0)),(1,dI x1),(4,dI 0),(7,dI (ln x0)),(8,dI (cnt 0 n0))]
def Ahu  (n0:Nat) (z0:Unit):List Res:=[]
def Akk  (z0:Unit):St:=[(4,dI 0)]
def Al1  (z0:Unit):List Res:=[]
theorem A6q (x0:List Int) (x1:Int) (r:Int) (h:Apr x0 x1=some r):CO 186 [.d (DS pI x0),.d (I x1)] [] (.d (I r)) []:=by
 unfold Apr at h
 refine co 19 Tryz.func186 λ C hC=>?_
 refine ws Zq 26 [] [pl pI x0] [] 0 [] (uK x0 x1 0 ()) (Ahu 0 ()) hC [] ?_
 obtain⟨w0,hm0,hret0,hnext0⟩:=Ar h
 clear h
 refine wc w0 (Akk) (Al1) ?_ λ z0 hs0=>?_
 ·refine wb ?_
  refine Bv 0 rfl λ hl0=>?_
  refine wl (uK x0 x1) (Ahu) hm0 (λ z0 hn0=>?_) λ n0 a0 z0 w0b hi0 hx0 h hb0 hr0=>?_
  ·clear hm0
   exact wx w0 (Akk) (Al1) Zq 26 [false] [] [] 0 [] _ hC [pq (Be hl0)] hn0
  ·unfold Amo at h
   rcases cB h with⟨h1,h⟩ | ⟨h1,h⟩
   ·have hq:=hret0 _ (hr0 _ (sI h).symm)
    replace hq:=sI hq
    subst hq
    exact wr Zq 35 [true,true] [pt hx0 hl0] [] 0 [] hC [pq (A_ hi0 hl0),pq h1]
   ·exact wx w0b (uK x0 x1 (n0+1)) (Ahu (n0+1)) Zq 36 [true,false] [pt hx0 hl0] [] 0 [] _ hC [pq (A_ hi0 hl0),pq h1] (sI h).symm
 ·have h:=hnext0 _ hs0
  replace h:=sI h
  subst h
  exact wr Zq 23 [] [] [] 0 [] hC []
theorem A7r:EN 186:=en Tryz.func186
theorem A13 (x0:List Int) (r:Bool) (h:Axt x0=r):CO 154 [.d (DS pI x0)] [] (.d (Bo r)) []:=by
 unfold Axt at h
 refine co 6 Tryz.func154 λ C hC=>?_
 subst h
 exact wr [0,2] 25 [] [pl pI x0] [] 0 [] hC []
theorem A3i:EN 154:=en Tryz.func154
def Z0:List Nat:=[0,1,2,4,5,6,11,16,20]
theorem A68 (x0:Aa) (x1:Int) (r:Int) (h:K3 x0 x1=r):CO 116 [.agg (d30 x0),.d (I x1)] [] (.d (I r)) []:=by
 unfold K3 at h
 refine co 25 Tryz.func116 λ C hC=>?_
 rcases cB h with⟨h1,h⟩ | ⟨h1,h⟩
 ·subst h
  exact wr Z0 32 [true] [pl q72 x0.Ac] [] 0 [] hC [pq h1]
 ·rcases cB h with⟨h2,h⟩ | ⟨h2,h⟩
  ·subst h
   exact wr Z0 35 [false,true] [pl q70 x0.Ad] [] 0 [] hC [pq h1,pq h2]
  ·rcases cB h with⟨h3,h⟩ | ⟨h3,h⟩
   ·subst h
    exact wr Z0 38 [false,false,true] [] [] 0 [] hC [pq h1,pq h2,pq h3]
   ·rcases cB h with⟨h4,h⟩ | ⟨h4,h⟩
    ·subst h
     exact wr Z0 41 [false,false,false,true] [pl q81 x0.Ae] [] 0 [] hC [pq h1,pq h2,pq h3,pq h4]
    ·subst h
     exact wr Z0 43 [false,false,false,false] [] [] 0 [] hC [pq h1,pq h2,pq h3,pq h4]
theorem A79:EN 116:=en Tryz.func116
theorem Kv (x0:Int) (r:Bool) (h:Ys x0=r):CO 155 [.d (I x0)] [] (.d (Bo r)) []:=by
 unfold Ys at h
 refine co 6 Tryz.func155 λ C hC=>?_
 subst h
 exact wr [0,2] 25 [] [] [] 0 [] hC []
theorem Ky:EN 155:=en Tryz.func155
def Zz:List Nat:=[0,2,3,5,6,7,8,9,14]
def uV (x0:List Int) (n0:Nat) (z0:Unit):St:=[(2,dI 0),(3,dI 0),(6,.d (DS pI x0)),(7,dI (ln x0)),(8,dI (cnt 0 n0))]
def Ah6  (n0:Nat) (z0:Unit):List Res:=[]
def Ak1  (z0:Unit):St:=[(2,dI 0),(3,dI 0)]
def Ami  (z0:Unit):List Res:=[]
theorem A67 (x0:List Int) (r:Int) (h:zI x0=some r):CO 117 [.d (DS pI x0)] [] (.d (I r)) []:=by
 unfold zI at h
 refine co 18 Tryz.func117 λ C hC=>?_
 refine ws Zz 28 [] [pl pI x0] [] 0 [] (uV x0 0 ()) (Ah6 0 ()) hC [] ?_
 obtain⟨w0,hm0,hret0,hnext0⟩:=Ar h
 clear h
 refine wc w0 (Ak1) (Ami) ?_ λ z0 hs0=>?_
 ·refine wb ?_
  refine Bv 6 rfl λ hl0=>?_
  refine wl (uV x0) (Ah6) hm0 (λ z0 hn0=>?_) λ n0 a0 z0 w0b hi0 hx0 h hb0 hr0=>?_
  ·clear hm0
   exact wx w0 (Ak1) (Ami) Zz 26 [false] [] [] 0 [] _ hC [pq (Be hl0)] hn0
  ·unfold V8 at h
   rcases cB h with⟨h1,h⟩ | ⟨h1,h⟩
   ·have hq:=hret0 _ (hr0 _ (sI h).symm)
    replace hq:=sI hq
    subst hq
    exact wr Zz 35 [true,true] [pt hx0 hl0] [] 0 [] hC [pq (A_ hi0 hl0),pq h1]
   ·exact wx w0b (uV x0 (n0+1)) (Ah6 (n0+1)) Zz 36 [true,false] [pt hx0 hl0] [] 0 [] _ hC [pq (A_ hi0 hl0),pq h1] (sI h).symm
 ·have h:=hnext0 _ hs0
  replace h:=sI h
  subst h
  exact wr Zz 23 [] [] [] 0 [] hC []
theorem A78:EN 117:=en Tryz.func117
def Afl:List Nat:=[0,1,2,3,4,6,7,8,9,11,12,13,14,33]
def Y3 (x0:Aa) (x2:Int) (n0:Nat) (z0:Int):St:=[(2,dI x2),(4,dO 0 0),(6,dI 0),(7,dI z0),(11,.d (DS q70 x0.Ad)),(12,dI (ln x0.Ad)),(13,dI (cnt 0 n0))]
def Acy (x1:Ab) (n0:Nat) (z0:Int):List Res:=[.box 39 (d39 x1)]
def Aqh  (z0:Int):St:=[(6,dI 0),(7,dI z0)]
def At0  (z0:Int):List Res:=[]
theorem k92 (x0:Aa) (x1:Ab) (x2:Int) (r:Int) (h:F92 x0 x1 x2=some r):CO 92 [.agg (d30 x0),.agg (d39 x1),.d (I x2)] [] (.d (I r)) []:=by
 unfold F92 at h
 refine co 38 Tryz.func92 λ C hC=>?_
 refine ws Afl 28 [] [pl q70 x0.Ad] [] 0 [1] (Y3 x0 x2 0 0) (Acy x1 0 0) hC [] ?_
 obtain⟨w0,hm0,hret0,hnext0⟩:=Ar h
 clear h
 refine wc w0 (Aqh) (At0) ?_ λ z0 hs0=>?_
 ·refine wb ?_
  refine Bv 11 rfl λ hl0=>?_
  refine wl (Y3 x0 x2) (Acy x1) hm0 (λ z0 hn0=>?_) λ n0 a0 z0 w0b hi0 hx0 h hb0 hr0=>?_
  ·clear hm0
   exact wx w0 (Aqh) (At0) Afl 26 [false] [] [] 0 [] _ hC [pq (Be hl0)] hn0
  ·unfold Aib at h
   obtain⟨y1,h2,h⟩:=Az h
   rcases cB h with⟨h3,h⟩ | ⟨h3,h⟩
   ·exact wx w0b (Y3 x0 x2 (n0+1)) (Acy x1 (n0+1)) Afl 36 [true,true] [pt hx0 hl0,pR pB h2] [] 0 [0] _ hC [pq (A_ hi0 hl0),pq h3] (sI h).symm
   ·exact wx w0b (Y3 x0 x2 (n0+1)) (Acy x1 (n0+1)) Afl 36 [true,false] [pt hx0 hl0,pR pB h2] [] 0 [0] _ hC [pq (A_ hi0 hl0),pq h3] (sI h).symm
 ·have h:=hnext0 _ hs0
  replace h:=sI h
  subst h
  exact wr Afl 23 [] [] [] 0 [] hC []
theorem e92:EN 92:=en Tryz.func92
theorem k93 (x0:List Bool) (r:List Bool) (h:F93 x0=some r):CO 93 [.d (.p (.s (x0.map pB)))] [] (.d (.os 0)) [v2_ r]:=by
 unfold F93 at h
 refine co 8 Tryz.func93 λ C hC=>?_
 refine ws [0,4] 40 [] [] [] 0 [] [(0,.d (.p (.s (x0.map pB)))),(4,.d (.nq (x0.map pB)))] [] hC [] ?_
 refine Vs 4 (by kernel_rfl) (by kernel_rfl) rfl (λ hn=>?_) ?_
 ·have hx:x0=[]:=by cases x0 with | nil=>rfl | cons=>cases hn
  subst hx
  have hr:r=[]:=by simpa [appI] using h.symm
  subst hr
  exact wr [2] 40 [] [] [.own 2 4 1] 0 [0] hC []
 ·exact wr [2] 40 [] [⟨.own,trivial⟩,⟨.app [] (x0.map pB) 1 ((([]:List (List Pd)).length+(x0.map pB).length)*(1+1)) (r.map pB),Hx (l:=[]) pB 1 (λ _=>rfl) h⟩] [] 0 [1] hC []
theorem e93:EN 93:=en Tryz.func93
theorem k94 (x0:List Af) (r:List Af) (h:F94 x0=some r):CO 94 [.d (.p (.s (x0.map q93)))] [] (.d (.os 0)) [v4_ r]:=by
 unfold F94 at h
 refine co 8 Tryz.func94 λ C hC=>?_
 refine ws [0,4] 40 [] [] [] 0 [] [(0,.d (.p (.s (x0.map q93)))),(4,.d (.nq (x0.map q93)))] [] hC [] ?_
 refine Vs 4 (by kernel_rfl) (by kernel_rfl) rfl (λ hn=>?_) ?_
 ·have hx:x0=[]:=by cases x0 with | nil=>rfl | cons=>cases hn
  subst hx
  have hr:r=[]:=by simpa [appI] using h.symm
  subst hr
  exact wr [2] 40 [] [] [.own 2 93 4] 0 [0] hC []
 ·exact wr [2] 40 [] [⟨.own,trivial⟩,⟨.app [] (x0.map q93) 4 ((([]:List (List Pd)).length+(x0.map q93).length)*(32+1)) (r.map q93),Hx (l:=[]) q93 4 (λ _=>rfl) h⟩] [] 0 [1] hC []
theorem e94:EN 94:=en Tryz.func94
theorem k95 (x0:List Int) (r:List Int) (h:F95 x0=some r):CO 95 [.d (.p (.s (x0.map pI)))] [] (.d (.os 0)) [v0_ r]:=by
 unfold F95 at h
 refine co 8 Tryz.func95 λ C hC=>?_
 refine ws [0,4] 40 [] [] [] 0 [] [(0,.d (.p (.s (x0.map pI)))),(4,.d (.nq (x0.map pI)))] [] hC [] ?_
 refine Vs 4 (by kernel_rfl) (by kernel_rfl) rfl (λ hn=>?_) ?_
 ·have hx:x0=[]:=by cases x0 with | nil=>rfl | cons=>cases hn
  subst hx
  have hr:r=[]:=by simpa [appI] using h.symm
  subst hr
  exact wr [2] 40 [] [] [.own 2 3 1] 0 [0] hC []
 ·exact wr [2] 40 [] [⟨.own,trivial⟩,⟨.app [] (x0.map pI) 1 ((([]:List (List Pd)).length+(x0.map pI).length)*(8+1)) (r.map pI),Hx (l:=[]) pI 1 (λ _=>rfl) h⟩] [] 0 [1] hC []
theorem e95:EN 95:=en Tryz.func95
theorem k96 (x0:List Al) (r:List Al) (h:F96 x0=some r):CO 96 [.d (.p (.s (x0.map q96)))] [] (.d (.os 0)) [v3_ r]:=by
 unfold F96 at h
 refine co 8 Tryz.func96 λ C hC=>?_
 refine ws [0,4] 40 [] [] [] 0 [] [(0,.d (.p (.s (x0.map q96)))),(4,.d (.nq (x0.map q96)))] [] hC [] ?_
 refine Vs 4 (by kernel_rfl) (by kernel_rfl) rfl (λ hn=>?_) ?_
 ·have hx:x0=[]:=by cases x0 with | nil=>rfl | cons=>cases hn
  subst hx
  have hr:r=[]:=by simpa [appI] using h.symm
  subst hr
  exact wr [2] 40 [] [] [.own 2 96 2] 0 [0] hC []
 ·exact wr [2] 40 [] [⟨.own,trivial⟩,⟨.app [] (x0.map q96) 2 ((([]:List (List Pd)).length+(x0.map q96).length)*(16+1)) (r.map q96),Hx (l:=[]) q96 2 (λ _=>rfl) h⟩] [] 0 [1] hC []
theorem e96:EN 96:=en Tryz.func96
def Me:List Nat:=[0,1,2,3,4,5,6,7,8,9,14,15,16,24,25,26,28,29,30,31,44]
def Adk (y1:List Int) (n0:Nat) (z0:(List Int)):St:=[(2,dO 0 0),(3,dO 1 0),(4,.d (DS pI [])),(5,dS 2),(14,dI (ln y1)),(15,dI (cnt 0 n0))]
def Aor (x0:Aa) (x1:Ab) (n0:Nat) (z0:(List Int)):List Res:=[.box 30 (d30 x0),.box 39 (d39 x1),v0_ z0]
def Aqg  (z0:(List Int)):St:=[(2,dO 0 0),(3,dO 1 0),(4,.d (DS pI [])),(5,dS 2)]
def Atz (x0:Aa) (x1:Ab) (z0:(List Int)):List Res:=[.box 30 (d30 x0),.box 39 (d39 x1),v0_ z0]
def Adi (z0:(List Int)) (n1:Nat) (z1:(List Int)):St:=[(2,dO 0 0),(3,dO 1 0),(4,.d (DS pI [])),(5,dS 2),(24,dI (ln z0)),(25,dI (cnt 0 n1))]
def Aoq (x0:Aa) (x1:Ab) (n1:Nat) (z1:(List Int)):List Res:=[.box 30 (d30 x0),.box 39 (d39 x1),v0_ z1]
def Aqf  (z1:(List Int)):St:=[(4,.d (DS pI [])),(5,dS 0)]
def Aty  (z1:(List Int)):List Res:=[v0_ z1]
def Y2 (x0:Aa) (z0:(List Int)) (n1:Nat) (n2:Nat) (z2:(List Int)):St:=[(2,dO 0 0),(3,dO 1 0),(4,.d (DS pI [])),(5,dS 2),(24,dI (ln z0)),(25,dI (cnt 0 n1)),(28,.d (DS q70 x0.Ad)),(29,dI (ln x0.Ad)),(30,dI (cnt 0 n2))]
def Acx (x0:Aa) (x1:Ab) (n2:Nat) (z2:(List Int)):List Res:=[.box 30 (d30 x0),.box 39 (d39 x1),v0_ z2]
def Aqe (z0:(List Int)) (n1:Nat) (z2:(List Int)):St:=[(2,dO 0 0),(3,dO 1 0),(4,.d (DS pI [])),(5,dS 2),(24,dI (ln z0)),(25,dI (cnt 0 n1))]
def Atx (x0:Aa) (x1:Ab) (z2:(List Int)):List Res:=[.box 30 (d30 x0),.box 39 (d39 x1),v0_ z2]
theorem k97 (x0:Aa) (x1:Ab) (r:(List Int)) (h:F97 x0 x1=some r):CO 97 [.agg (d30 x0),.agg (d39 x1)] [] (.d (.os 0)) [v0_ r]:=by
 unfold F97 at h
 refine co 69 Tryz.func97 λ C hC=>?_
 obtain⟨y1,h2,h⟩:=Az h
 refine ws Me 28 [] [⟨.room (x0.An*(8+1)) (List.replicate (Int.toNat x0.An) (pI 0)) (y1.map pI),Js h2⟩,pl pI y1] [] 0 n3_ (Adk y1 0 y1) (Aor x0 x1 0 y1) hC [] ?_
 obtain⟨w0,hm0,hret0,hnext0⟩:=Ar h
 clear h
 refine wc w0 (Aqg) (Atz x0 x1) ?_ λ z0 hs0=>?_
 ·refine wb ?_
  refine Cj 5 2 rfl rfl λ hl0=>?_
  refine wl (Adk y1) (Aor x0 x1) hm0 (λ z0 hn0=>?_) λ n0 a0 z0 w0b hi0 hx0 h hb0 hr0=>?_
  ·clear hm0
   exact wx w0 (Aqg) (Atz x0 x1) Me 26 [false] [] [] 0 n3_ _ hC [pq (Be hl0)] hn0
  ·unfold Aia at h
   obtain⟨y3,h4,y5,h6,h⟩:=Bb h
   exact wx w0b (Adk y1 (n0+1)) (Aor x0 x1 (n0+1)) Me 33 [true] [pr pI h4,pu pI h4 h6] [] 0 n3_ _ hC [pq (A_ hi0 hl0)] (sI h).symm
 ·have h := hnext0 _ hs0
  refine ws Me 24 [] [pl pI z0] [] 0 n3_ (Adi z0 0 z0) (Aoq x0 x1 0 z0) hC [] ?_
  obtain⟨w1,hm1,hret1,hnext1⟩:=Ar h
  clear h
  refine wc w1 (Aqf) (Aty) ?_ λ z1 hs1=>?_
  ·refine wb ?_
   refine Cj 5 2 rfl rfl λ hl1=>?_
   refine wl (Adi z0) (Aoq x0 x1) hm1 (λ z1 hn1=>?_) λ n1 a1 z1 w1b hi1 hx1 h hb1 hr1=>?_
   ·clear hm1
    exact wx w1 (Aqf) (Aty) Me 26 [false] [] [] 0 [2] _ hC [pq (Be hl1)] hn1
   ·unfold Ah9 at h
    refine ws Me 30 [true] [pl q70 x0.Ad] [] 0 n3_ (Y2 x0 z0 n1 0 z1) (Acx x0 x1 0 z1) hC [pq (A_ hi1 hl1)] ?_
    obtain⟨w2,hm2,hret2,hnext2⟩:=Ar h
    clear h
    refine wc w2 (Aqe z0 n1) (Atx x0 x1) ?_ λ z2 hs2=>?_
    ·refine wb ?_
     refine Bv 28 rfl λ hl2=>?_
     refine wl (Y2 x0 z0 n1) (Acx x0 x1) hm2 (λ z2 hn2=>?_) λ n2 a2 z2 w2b hi2 hx2 h hb2 hr2=>?_
     ·clear hm2
      exact wx w2 (Aqe z0 n1) (Atx x0 x1) Me 26 [false] [] [] 0 n3_ _ hC [pq (Be hl2)] hn2
     ·unfold qB at h
      obtain⟨y7,h8,h⟩:=Az h
      rcases cB h with⟨h9,h⟩ | ⟨h9,h⟩
      ·obtain⟨y10,h11,y12,h13,y14,h15,h⟩:=B0 h
       obtain⟨y16,h17,y18,h19,h⟩:=Bb h
       exact wx w2b (Y2 x0 z0 n1 (n2+1)) (Acx x0 x1 (n2+1)) Me 38 [true,true] [pt hx2 hl2,pR pB h8,pr pI h11,pn pI h11,pr pI h13,pn pI h13,pr pI h11,pu pI h11 h15,pr pI h17,pu pI h17 h19] [] 0 n3_ _ hC [pq (A_ hi2 hl2),pq h9] (sI h).symm
      ·exact wx w2b (Y2 x0 z0 n1 (n2+1)) (Acx x0 x1 (n2+1)) Me 36 [true,false] [pt hx2 hl2,pR pB h8] [] 0 n3_ _ hC [pq (A_ hi2 hl2),pq h9] (sI h).symm
    ·have h:=hnext2 _ hs2
     exact wx w1b (Adi z0 (n1+1)) (Aoq x0 x1 (n1+1)) Me 23 [] [] [] 0 n3_ _ hC [] (sI h).symm
  ·have h:=hnext1 _ hs1
   replace h:=sI h
   subst h
   exact wr Me 23 [] [] [] 0 [0] hC []
theorem e97:EN 97:=en Tryz.func97
def Zy:List Nat:=[0,1,2,3,4,5,8,9,10,11,13,14,15,16,36]
def uU (x0:Aa) (x2:Int) (x3:Int) (n0:Nat) (z0:Unit):St:=[(2,dI x2),(3,dI x3),(5,dO 0 0),(8,dI 0),(9,dB false),(13,.d (DS q70 x0.Ad)),(14,dI (ln x0.Ad)),(15,dI (cnt 0 n0))]
def Ah5 (x1:Ab) (n0:Nat) (z0:Unit):List Res:=[.box 39 (d39 x1)]
def Ak0  (z0:Unit):St:=[(8,dI 0),(9,dB false)]
def Amh  (z0:Unit):List Res:=[]
theorem A2h (x0:Aa) (x1:Ab) (x2:Int) (x3:Int) (r:Int×Bool) (h:zH x0 x1 x2 x3=some r):CO 120 [.agg (d30 x0),.agg (d39 x1),.d (I x2),.d (I x3)] [] (.tup [.d (I r.1),.d (Bo r.2)]) []:=by
 unfold zH at h
 refine co 40 Tryz.func120 λ C hC=>?_
 refine ws Zy 26 [] [pl q70 x0.Ad] [] 0 [1] (uU x0 x2 x3 0 ()) (Ah5 x1 0 ()) hC [] ?_
 obtain⟨w0,hm0,hret0,hnext0⟩:=Ar h
 clear h
 refine wc w0 (Ak0) (Amh) ?_ λ z0 hs0=>?_
 ·refine wb ?_
  refine Bv 13 rfl λ hl0=>?_
  refine wl (uU x0 x2 x3) (Ah5 x1) hm0 (λ z0 hn0=>?_) λ n0 a0 z0 w0b hi0 hx0 h hb0 hr0=>?_
  ·clear hm0
   exact wx w0 (Ak0) (Amh) Zy 26 [false] [] [] 0 [] _ hC [pq (Be hl0)] hn0
  ·unfold V7 at h
   obtain⟨y1,h2,h⟩:=Az h
   rcases cB h with⟨h3,h⟩ | ⟨h3,h⟩
   ·have hq:=hret0 _ (hr0 _ (sI h).symm)
    replace hq:=sI hq
    subst hq
    exact wr Zy 35 [true,true] [pt hx0 hl0,pR pB h2] [] 0 [] hC [pq (A_ hi0 hl0),pq h3]
   ·exact wx w0b (uU x0 x2 x3 (n0+1)) (Ah5 x1 (n0+1)) Zy 36 [true,false] [pt hx0 hl0,pR pB h2] [] 0 [0] _ hC [pq (A_ hi0 hl0),pq h3] (sI h).symm
 ·have h:=hnext0 _ hs0
  replace h:=sI h
  subst h
  exact wr Zy 23 [] [] [] 0 [] hC []
theorem A3w:EN 120:=en Tryz.func120
theorem A2m (x0:Ai) (r:Bool) (h:Apt x0=r):CO 101 [.agg (H4 x0)] [] (.d (Bo r)) []:=by
 unfold Apt at h
 refine co 7 Tryz.func101 λ C hC=>?_
 subst h
 exact wr n3_ 25 [] [pl pI x0.An] [] 0 [] hC []
theorem A31:EN 101:=en Tryz.func101
def Zl:List Nat:=[0,1,2,3,5,7,8,9,10,11]
def Wt (x1:List Int) (n0:Nat) (z0:(List Af)):St:=[(3,dO 4 0),(5,dO 5 0),(8,.d (DS pI x1)),(9,dI (ln x1)),(10,dI (cnt 0 n0))]
def yO (x0:Ab) (x2:Af) (n0:Nat) (z0:(List Af)):List Res:=[v2_ x0.Ag,v4_ z0,v0_ x0.Aq,v3_ x0.Ao,.box 39 [.os 0,.os 1,.os 2,.os 3],.box 93 (d93 x2)]
def Aen  (z0:(List Af)):St:=[]
def Ahd (x0:Ab) (z0:(List Af)):List Res:=[v2_ x0.Ag,v4_ z0,v0_ x0.Aq,v3_ x0.Ao]
theorem Ank (x0:Ab) (x1:List Int) (x2:Af) (r:(List Af)) (h:Qx x0 x1 x2=some r):CO 68 [.agg [.os 0,.os 1,.os 2,.os 3],.d (DS pI x1),.agg (d93 x2)] (zp x0 []) (.tup []) [v2_ x0.Ag,v4_ r,v0_ x0.Aq,v3_ x0.Ao]:=by
 unfold Qx at h
 refine co 29 Tryz.func68 λ C hC=>?_
 refine ws Zl 25 [] [pl pI x1] [] 4 n6_ (Wt x1 0 x0.Ac) (yO x0 x2 0 x0.Ac) hC [] ?_
 obtain⟨w0,hm0,hret0,hnext0⟩:=Ar h
 clear h
 refine wc w0 (Aen) (Ahd x0) ?_ λ z0 hs0=>?_
 ·refine wb ?_
  refine Bv 8 rfl λ hl0=>?_
  refine wl (Wt x1) (yO x0 x2) hm0 (λ z0 hn0=>?_) λ n0 a0 z0 w0b hi0 hx0 h hb0 hr0=>?_
  ·clear hm0
   exact wx w0 (Aen) (Ahd x0) Zl 26 [false] [] [] 4 n4_ _ hC [pq (Be hl0)] hn0
  ·unfold Ym at h
   obtain⟨y1,h2,y3,h4,y5,h6,y7,h8,h⟩:=Cr h
   exact wx w0b (Wt x1 (n0+1)) (yO x0 x2 (n0+1)) Zl 33 [true] [pt hx0 hl0,pr q93 h2,pu q93 h2 h4,pr q93 h6,pu q93 h6 h8] [] 4 n6_ _ hC [pq (A_ hi0 hl0)] (sI h).symm
 ·have h:=hnext0 _ hs0
  replace h:=sI h
  subst h
  exact wf Zl 20 [] [] [] 4 n4_ hC []
theorem An1:EN 68:=en Tryz.func68
theorem k49 (x0:A2) (r:Bool) (h:F49 x0=r):CO 49 [.agg (d33 x0)] [] (.d (Bo r)) []:=by
 unfold F49 at h
 refine co 33 Tryz.func49 λ C hC=>?_
 subst h
 exact wr n3_ 25 [] [] [] 0 [] hC []
theorem e49:EN 49:=en Tryz.func49
def vM:List Nat:=[0,1,4,5,10,12,13,14,24]
def Adr (x0:List Bool) (x1:List Bool) (n0:Nat) (z0:Unit):St:=[(0,.d (DS pB x0)),(1,.d (DS pB x1)),(4,dB false),(12,dI (ln x0)),(13,dI (cnt 0 n0))]
def Aoy  (n0:Nat) (z0:Unit):List Res:=[]
def Aqq  (z0:Unit):St:=[(4,dB false)]
def At9  (z0:Unit):List Res:=[]
theorem k69 (x0:List Bool) (x1:List Bool) (r:Bool) (h:F69 x0 x1=some r):CO 69 [.d (DS pB x0),.d (DS pB x1)] [] (.d (Bo r)) []:=by
 unfold F69 at h
 refine co 26 Tryz.func69 λ C hC=>?_
 rcases cB h with⟨h1,h⟩ | ⟨h1,h⟩
 ·replace h:=sI h
  subst h
  exact wr vM 29 [true] [pl pB x0,pl pB x1] [] 0 [] hC [pq h1]
 ·refine ws vM 31 [false] [pl pB x0,pl pB x1,pl pB x0] [] 0 [] (Adr x0 x1 0 ()) (Aoy 0 ()) hC [pq h1] ?_
  obtain⟨w0,hm0,hret0,hnext0⟩:=Ar h
  clear h
  refine wc w0 (Aqq) (At9) ?_ λ z0 hs0=>?_
  ·refine wb ?_
   refine Bv 0 rfl λ hl0=>?_
   refine wl (Adr x0 x1) (Aoy) hm0 (λ z0 hn0=>?_) λ n0 a0 z0 w0b hi0 hx0 h hb0 hr0=>?_
   ·clear hm0
    exact wx w0 (Aqq) (At9) vM 26 [false] [] [] 0 [] _ hC [pq (Be hl0)] hn0
   ·unfold qJ at h
    obtain⟨y2,h3,h⟩:=Az h
    rcases cB h with⟨h4,h⟩ | ⟨h4,h⟩
    ·have hq:=hret0 _ (hr0 _ (sI h).symm)
     replace hq:=sI hq
     subst hq
     exact wr vM 35 [true,true] [pt hx0 hl0,pr pB h3] [] 0 [] hC [pq (A_ hi0 hl0),pq h4]
    ·exact wx w0b (Adr x0 x1 (n0+1)) (Aoy (n0+1)) vM 36 [true,false] [pt hx0 hl0,pr pB h3] [] 0 [] _ hC [pq (A_ hi0 hl0),pq h4] (sI h).symm
  ·have h:=hnext0 _ hs0
   replace h:=sI h
   subst h
   exact wr vM 23 [] [] [] 0 [] hC []
theorem e69:EN 69:=en Tryz.func69
def vL:List Nat:=[0,1,4,5,10,12,13,14,24]
def Adq (x0:List Af) (x1:List Af) (n0:Nat) (z0:Unit):St:=[(0,.d (DS q93 x0)),(1,.d (DS q93 x1)),(4,dB false),(12,dI (ln x0)),(13,dI (cnt 0 n0))]
def Aox  (n0:Nat) (z0:Unit):List Res:=[]
def Aqp  (z0:Unit):St:=[(4,dB false)]
def At8  (z0:Unit):List Res:=[]
theorem k70 (x0:List Af) (x1:List Af) (r:Bool) (h:F70 x0 x1=some r):CO 70 [.d (DS q93 x0),.d (DS q93 x1)] [] (.d (Bo r)) []:=by
 unfold F70 at h
 refine co 26 Tryz.func70 λ C hC=>?_
 rcases cB h with⟨h1,h⟩ | ⟨h1,h⟩
 ·replace h:=sI h
  subst h
  exact wr vL 29 [true] [pl q93 x0,pl q93 x1] [] 0 [] hC [pq h1]
 ·refine ws vL 31 [false] [pl q93 x0,pl q93 x1,pl q93 x0] [] 0 [] (Adq x0 x1 0 ()) (Aox 0 ()) hC [pq h1] ?_
  obtain⟨w0,hm0,hret0,hnext0⟩:=Ar h
  clear h
  refine wc w0 (Aqp) (At8) ?_ λ z0 hs0=>?_
  ·refine wb ?_
   refine Bv 0 rfl λ hl0=>?_
   refine wl (Adq x0 x1) (Aox) hm0 (λ z0 hn0=>?_) λ n0 a0 z0 w0b hi0 hx0 h hb0 hr0=>?_
   ·clear hm0
    exact wx w0 (Aqp) (At8) vL 26 [false] [] [] 0 [] _ hC [pq (Be hl0)] hn0
   ·unfold qI at h
    obtain⟨y2,h3,h⟩:=Az h
    rcases cB h with⟨h4,h⟩ | ⟨h4,h⟩
    ·have hq:=hret0 _ (hr0 _ (sI h).symm)
     replace hq:=sI hq
     subst hq
     exact wr vL 35 [true,true] [pt hx0 hl0,pr q93 h3] [] 0 [] hC [pq (A_ hi0 hl0),pq h4]
    ·exact wx w0b (Adq x0 x1 (n0+1)) (Aox (n0+1)) vL 36 [true,false] [pt hx0 hl0,pr q93 h3] [] 0 [] _ hC [pq (A_ hi0 hl0),pq h4] (sI h).symm
  ·have h:=hnext0 _ hs0
   replace h:=sI h
   subst h
   exact wr vL 23 [] [] [] 0 [] hC []
theorem e70:EN 70:=en Tryz.func70
def vK:List Nat:=[0,1,4,5,10,12,13,14,24]
def Adp (x0:List Int) (x1:List Int) (n0:Nat) (z0:Unit):St:=[(0,.d (DS pI x0)),(1,.d (DS pI x1)),(4,dB false),(12,dI (ln x0)),(13,dI (cnt 0 n0))]
def Aow  (n0:Nat) (z0:Unit):List Res:=[]
def Aqo  (z0:Unit):St:=[(4,dB false)]
def At7  (z0:Unit):List Res:=[]
theorem k71 (x0:List Int) (x1:List Int) (r:Bool) (h:F71 x0 x1=some r):CO 71 [.d (DS pI x0),.d (DS pI x1)] [] (.d (Bo r)) []:=by
 unfold F71 at h
 refine co 26 Tryz.func71 λ C hC=>?_
 rcases cB h with⟨h1,h⟩ | ⟨h1,h⟩
 ·replace h:=sI h
  subst h
  exact wr vK 29 [true] [pl pI x0,pl pI x1] [] 0 [] hC [pq h1]
 ·refine ws vK 31 [false] [pl pI x0,pl pI x1,pl pI x0] [] 0 [] (Adp x0 x1 0 ()) (Aow 0 ()) hC [pq h1] ?_
  obtain⟨w0,hm0,hret0,hnext0⟩:=Ar h
  clear h
  refine wc w0 (Aqo) (At7) ?_ λ z0 hs0=>?_
  ·refine wb ?_
   refine Bv 0 rfl λ hl0=>?_
   refine wl (Adp x0 x1) (Aow) hm0 (λ z0 hn0=>?_) λ n0 a0 z0 w0b hi0 hx0 h hb0 hr0=>?_
   ·clear hm0
    exact wx w0 (Aqo) (At7) vK 26 [false] [] [] 0 [] _ hC [pq (Be hl0)] hn0
   ·unfold qH at h
    obtain⟨y2,h3,h⟩:=Az h
    rcases cB h with⟨h4,h⟩ | ⟨h4,h⟩
    ·have hq:=hret0 _ (hr0 _ (sI h).symm)
     replace hq:=sI hq
     subst hq
     exact wr vK 35 [true,true] [pt hx0 hl0,pr pI h3] [] 0 [] hC [pq (A_ hi0 hl0),pq h4]
    ·exact wx w0b (Adp x0 x1 (n0+1)) (Aow (n0+1)) vK 36 [true,false] [pt hx0 hl0,pr pI h3] [] 0 [] _ hC [pq (A_ hi0 hl0),pq h4] (sI h).symm
  ·have h:=hnext0 _ hs0
   replace h:=sI h
   subst h
   exact wr vK 23 [] [] [] 0 [] hC []
theorem e71:EN 71:=en Tryz.func71
def vJ:List Nat:=[0,1,4,5,10,12,13,14,24]
def Ado (x0:List Al) (x1:List Al) (n0:Nat) (z0:Unit):St:=[(0,.d (DS q96 x0)),(1,.d (DS q96 x1)),(4,dB false),(12,dI (ln x0)),(13,dI (cnt 0 n0))]
def Aov  (n0:Nat) (z0:Unit):List Res:=[]
def Aqn  (z0:Unit):St:=[(4,dB false)]
def At6  (z0:Unit):List Res:=[]
theorem k72 (x0:List Al) (x1:List Al) (r:Bool) (h:F72 x0 x1=some r):CO 72 [.d (DS q96 x0),.d (DS q96 x1)] [] (.d (Bo r)) []:=by
 unfold F72 at h
 refine co 26 Tryz.func72 λ C hC=>?_
 rcases cB h with⟨h1,h⟩ | ⟨h1,h⟩
 ·replace h:=sI h
  subst h
  exact wr vJ 29 [true] [pl q96 x0,pl q96 x1] [] 0 [] hC [pq h1]
 ·refine ws vJ 31 [false] [pl q96 x0,pl q96 x1,pl q96 x0] [] 0 [] (Ado x0 x1 0 ()) (Aov 0 ()) hC [pq h1] ?_
  obtain⟨w0,hm0,hret0,hnext0⟩:=Ar h
  clear h
  refine wc w0 (Aqn) (At6) ?_ λ z0 hs0=>?_
  ·refine wb ?_
   refine Bv 0 rfl λ hl0=>?_
   refine wl (Ado x0 x1) (Aov) hm0 (λ z0 hn0=>?_) λ n0 a0 z0 w0b hi0 hx0 h hb0 hr0=>?_
   ·clear hm0
    exact wx w0 (Aqn) (At6) vJ 26 [false] [] [] 0 [] _ hC [pq (Be hl0)] hn0
   ·unfold qG at h
    obtain⟨y2,h3,h⟩:=Az h
    rcases cB h with⟨h4,h⟩ | ⟨h4,h⟩
    ·have hq:=hret0 _ (hr0 _ (sI h).symm)
     replace hq:=sI hq
     subst hq
     exact wr vJ 35 [true,true] [pt hx0 hl0,pr q96 h3] [] 0 [] hC [pq (A_ hi0 hl0),pq h4]
    ·exact wx w0b (Ado x0 x1 (n0+1)) (Aov (n0+1)) vJ 36 [true,false] [pt hx0 hl0,pr q96 h3] [] 0 [] _ hC [pq (A_ hi0 hl0),pq h4] (sI h).symm
  ·have h:=hnext0 _ hs0
   replace h:=sI h
   subst h
   exact wr vJ 23 [] [] [] 0 [] hC []
theorem e72:EN 72:=en Tryz.func72
theorem Aya (x0:Int) (x1:As) (r:Bool) (h:Qy x0 x1=r):CO 48 [.d (I x0),.d (.ip [.v (.int .i64 x1.Time),.s (x1.Power.Ag.map pB),.s (x1.Power.Ac.map q93),.s (x1.Power.Aq.map pI),.s (x1.Power.Ao.map q96),.s (x1.A7.map q84),.s (x1.Bc.map q65)])] [] (.d (Bo r)) []:=by
 unfold Qy at h
 refine co 12 Tryz.func48 λ C hC=>?_
 subst h
 exact wr [0,1,3] 25 [] [] [] 0 [] hC []
theorem Ayf:EN 48:=en Tryz.func48
theorem k30 (x0:As) (r:As) (h:F30 x0=some r):CO 30 [.agg (d43 x0)] [] (.agg [I r.Time,.os 0,.os 1,.os 2,.os 3,.os 4,.os 5]) (zp r.Power [v5_ r.A7,v1_ r.Bc]):=by
 unfold F30 at h
 refine co 36 Tryz.func30 λ C hC=>?_
 obtain⟨y1,h2,y3,h4,y5,h6,y7,h8,h⟩:=Cr h
 obtain⟨y9,h10,y11,h12,h⟩:=Bb h
 replace h:=sI h
 subst h
 exact wr n3_ 31 [] [⟨.app [] (x0.A7.map q84) 2 ((x0.A7.map q84).length*(16+1)) (y1.map q84),Fk q84 2 (λ _=>rfl) h2⟩,⟨.app [] (x0.Bc.map q65) 5 ((x0.Bc.map q65).length*(40+1)) (y3.map q65),Fk q65 5 (λ _=>rfl) h4⟩,⟨.app [] (x0.Power.Ag.map pB) 1 ((x0.Power.Ag.map pB).length*(1+1)) (y5.map pB),Fk pB 1 (λ _=>rfl) h6⟩,⟨.app [] (x0.Power.Ac.map q93) 4 ((x0.Power.Ac.map q93).length*(32+1)) (y7.map q93),Fk q93 4 (λ _=>rfl) h8⟩,⟨.app [] (x0.Power.Aq.map pI) 1 ((x0.Power.Aq.map pI).length*(8+1)) (y9.map pI),Fk pI 1 (λ _=>rfl) h10⟩,⟨.app [] (x0.Power.Ao.map q96) 2 ((x0.Power.Ao.map q96).length*(16+1)) (y11.map q96),Fk q96 2 (λ _=>rfl) h12⟩] [] 0 [7,9,11,13,3,5] hC []
theorem e30:EN 30:=en Tryz.func30
theorem A7f (x0:List Aw) (r:List Aw) (h:Aps x0=some r):CO 102 [.d (.p (.s (x0.map q84)))] [] (.d (.os 0)) [v5_ r]:=by
 unfold Aps at h
 refine co 8 Tryz.func102 λ C hC=>?_
 refine ws [0,4] 40 [] [] [] 0 [] [(0,.d (.p (.s (x0.map q84)))),(4,.d (.nq (x0.map q84)))] [] hC [] ?_
 refine Vs 4 (by kernel_rfl) (by kernel_rfl) rfl (λ hn=>?_) ?_
 ·have hx:x0=[]:=by cases x0 with | nil=>rfl | cons=>cases hn
  subst hx
  have hr:r=[]:=by simpa [appI] using h.symm
  subst hr
  exact wr [2] 40 [] [] [.own 2 84 2] 0 [0] hC []
 ·exact wr [2] 40 [] [⟨.own,trivial⟩,⟨.app [] (x0.map q84) 2 ((([]:List (List Pd)).length+(x0.map q84).length)*(16+1)) (r.map q84),Hx (l:=[]) q84 2 (λ _=>rfl) h⟩] [] 0 [1] hC []
theorem A8g:EN 102:=en Tryz.func102
theorem k79 (x0:List A6) (r:List A6) (h:F79 x0=some r):CO 79 [.d (.p (.s (x0.map q65)))] [] (.d (.os 0)) [v1_ r]:=by
 unfold F79 at h
 refine co 8 Tryz.func79 λ C hC=>?_
 refine ws [0,4] 40 [] [] [] 0 [] [(0,.d (.p (.s (x0.map q65)))),(4,.d (.nq (x0.map q65)))] [] hC [] ?_
 refine Vs 4 (by kernel_rfl) (by kernel_rfl) rfl (λ hn=>?_) ?_
 ·have hx:x0=[]:=by cases x0 with | nil=>rfl | cons=>cases hn
  subst hx
  have hr:r=[]:=by simpa [appI] using h.symm
  subst hr
  exact wr [2] 40 [] [] [.own 2 65 5] 0 [0] hC []
 ·exact wr [2] 40 [] [⟨.own,trivial⟩,⟨.app [] (x0.map q65) 5 ((([]:List (List Pd)).length+(x0.map q65).length)*(40+1)) (r.map q65),Hx (l:=[]) q65 5 (λ _=>rfl) h⟩] [] 0 [1] hC []
theorem e79:EN 79:=en Tryz.func79
def Zw:List Nat:=[0,1,2,3,6,7,8,9,14,19,23]
theorem Xn (x0:Aa) (x1:Int) (x2:Int) (r:Bool) (h:J0 x0 x1 x2=r):CO 135 [.agg (d30 x0),.d (I x1),.d (I x2)] [] (.d (Bo r)) []:=by
 unfold J0 at h
 refine co 35 Tryz.func135 λ C hC=>?_
 rcases cB h with⟨h1,h⟩ | ⟨h1,h⟩
 ·subst h
  exact wr Zw 36 [true] [pl q72 x0.Ac] [] 0 [] hC [pq h1]
 ·rcases cB h with⟨h2,h⟩ | ⟨h2,h⟩
  ·subst h
   exact wr Zw 39 [false,true] [pl q70 x0.Ad] [] 0 [] hC [pq h1,pq h2]
  ·rcases cB h with⟨h3,h⟩ | ⟨h3,h⟩
   ·subst h
    exact wr Zw 42 [false,false,true] [] [] 0 [] hC [pq h1,pq h2,pq h3]
   ·rcases cB h with⟨h4,h⟩ | ⟨h4,h⟩
    ·subst h
     exact wr Zw 45 [false,false,false,true] [pl q81 x0.Ae] [] 0 [] hC [pq h1,pq h2,pq h3,pq h4]
    ·subst h
     exact wr Zw 45 [false,false,false,false] [] [] 0 [] hC [pq h1,pq h2,pq h3,pq h4]
theorem Xt:EN 135:=en Tryz.func135
def Zn:List Nat:=[0,1,3,4,5,7,8,9,16]
def uJ (x0:List Al) (n0:Nat) (z0:Unit):St:=[(0,.d (DS q96 x0)),(3,dO 0 0),(4,dI 0),(7,dI (ln x0)),(8,dI (cnt 0 n0))]
def Ahs (x1:Al) (n0:Nat) (z0:Unit):List Res:=[.box 96 (d96 x1)]
def Akj  (z0:Unit):St:=[(4,dI 0)]
def Al0  (z0:Unit):List Res:=[]
theorem A6k (x0:List Al) (x1:Al) (r:Int) (h:Apo x0 x1=some r):CO 208 [.d (DS q96 x0),.agg (d96 x1)] [] (.d (I r)) []:=by
 unfold Apo at h
 refine co 19 Tryz.func208 λ C hC=>?_
 refine ws Zn 26 [] [pl q96 x0] [] 0 [0] (uJ x0 0 ()) (Ahs x1 0 ()) hC [] ?_
 obtain⟨w0,hm0,hret0,hnext0⟩:=Ar h
 clear h
 refine wc w0 (Akj) (Al0) ?_ λ z0 hs0=>?_
 ·refine wb ?_
  refine Bv 0 rfl λ hl0=>?_
  refine wl (uJ x0) (Ahs x1) hm0 (λ z0 hn0=>?_) λ n0 a0 z0 w0b hi0 hx0 h hb0 hr0=>?_
  ·clear hm0
   exact wx w0 (Akj) (Al0) Zn 26 [false] [] [] 0 [] _ hC [pq (Be hl0)] hn0
  ·unfold Amn at h
   rcases cB h with⟨h1,h⟩ | ⟨h1,h⟩
   ·have hq:=hret0 _ (hr0 _ (sI h).symm)
    replace hq:=sI hq
    subst hq
    exact wr Zn 35 [true,true] [pt hx0 hl0] [] 0 [] hC [pq (A_ hi0 hl0),pq h1]
   ·exact wx w0b (uJ x0 (n0+1)) (Ahs x1 (n0+1)) Zn 36 [true,false] [pt hx0 hl0] [] 0 [0] _ hC [pq (A_ hi0 hl0),pq h1] (sI h).symm
 ·have h:=hnext0 _ hs0
  replace h:=sI h
  subst h
  exact wr Zn 23 [] [] [] 0 [] hC []
theorem A7l:EN 208:=en Tryz.func208
theorem Anl (x0:Int) (r:Int) (h:Gu x0=r):CO 202 [.d (I x0)] [] (.d (I r)) []:=by
 unfold Gu at h
 refine co 10 Tryz.func202 λ C hC=>?_
 rcases cB h with⟨h1,h⟩ | ⟨h1,h⟩
 ·subst h
  exact wr [0,2,6] 32 [true] [⟨.nz 3600,Zj rfl⟩] [] 0 [] hC [pq h1]
 ·subst h
  exact wr [0,2,6] 32 [false] [⟨.nz 3600,Zj rfl⟩] [] 0 [] hC [pq h1]
theorem An2:EN 202:=en Tryz.func202
theorem A1g (x0:Aj) (x1:Int) (r:Bool) (h:qO x0 x1=r):CO 211 [.agg (d70 x0),.d (.ip [.v (.int .i64 x1)])] [] (.d (Bo r)) []:=by
 unfold qO at h
 refine co 13 Tryz.func211 λ C hC=>?_
 subst h
 exact wr n4_ 25 [] [] [] 0 [] hC []
theorem A2v:EN 211:=en Tryz.func211
theorem A18 (x0:A1) (x1:Int) (x2:Int) (r:Int×A1) (h:Ui x0 x1 x2=some r):CO 141 [.d (.o 0 0),.d (I x1),.d (I x2)] (.box 175 (zb x0.Ak [.os 1,.os 2,.os 3,.os 4,I x0.time])::zp x0.Au []) (.d (I r.1)) (.box 175 (zb r.2.Ak [.os 1,.os 2,.os 3,.os 4,I r.2.time])::zp r.2.Au []):=by
 unfold Ui at h
 refine co 30 Tryz.func141 λ C hC=>?_
 obtain⟨y1,h2,h⟩:=Az h
 rcases cB h with⟨h3,h⟩ | ⟨h3,h⟩
 ·replace h:=sI h
  subst h
  exact wr [0,1,2,6,21] 29 [true] [pR q81 h2] [] 5 n5_ hC [pq h3]
 ·obtain⟨y4,h5,y6,h7,h⟩:=Bb h
  replace h:=sI h
  subst h
  exact wr [0,1,2,6,21] 32 [false] [pR q81 h2,pr pI h5,pu pI h5 h7] [] 5 n5_ hC [pq h3]
theorem A3n:EN 141:=en Tryz.func141
theorem A1q (x0:Al) (x1:Al) (r:Int) (h:Q5 x0 x1=r):CO 178 [.agg (d96 x0),.agg (d96 x1)] [] (.d (I r)) []:=by
 unfold Q5 at h
 refine co 20 Tryz.func178 λ C hC=>?_
 rcases cB h with⟨h1,h⟩ | ⟨h1,h⟩
 ·subst h
  exact wr [0,1,2,3,4,9] 29 [true] [] [] 0 [] hC [pq h1]
 ·subst h
  exact wr [0,1,2,3,4,9] 30 [false] [] [] 0 [] hC [pq h1]
theorem A25:EN 178:=en Tryz.func178
def vQ:List Nat:=[0,1,2,6,7,8,9,16,22,31,68]
theorem A1p (x0:List Al) (x1:Int) (x2:List Al) (r:(List Al)) (h:O6 x0 x1 x2=some r):CO 179 [.d (.os 0),.d (I x1),.d (DS q96 x2)] [v3_ x0] (.d (.os 1)) [.non,v3_ r]:=by
 by_cases hh:((ln x2)==0)=false/\(x1==(ln x0))=false
 ·unfold O6 at h
  exact Az2 (enc:=q96) (λ _=>rfl) hh.1 hh.2 h
 unfold O6 at h
 refine co 95 Tryz.func179 λ C hC=>?_
 obtain⟨u2,h1,h⟩:=Az h
 rcases cB h with⟨h3,h⟩ | ⟨h3,h⟩
 ·replace h:=sI h
  subst h
  exact wr vQ 33 [true] [⟨.bnd (x0.map q96).length x1 (((x0.map q96).length:Nat):Int) (ln x0),E9 (by simp) (by simp) h1⟩,pl q96 x2] [.mv 0] 1 [0,1] hC [pq h3]
 ·refine wn vQ 37 [false] [⟨.bnd (x0.map q96).length x1 (((x0.map q96).length:Nat):Int) (ln x0),E9 (by simp) (by simp) h1⟩,pl q96 x2,pl q96 x0] [] 1 [0] [0,1,2,6,7,8,22] hC [pq h3] ?_
  rcases cB h with⟨h4,h⟩ | ⟨h4,h⟩
  ·obtain⟨y5,h6,h⟩:=Az h
   replace h:=sI h
   subst h
   exact wr vQ 24 [true] [pa q96 2 h6] [] 1 [0,1] hC [pq h4]
  ·exact absurd ⟨h3,h4⟩ hh
theorem A24:EN 179:=en Tryz.func179
theorem A1o (x0:List Al) (x1:Int) (x2:Int) (r:(List Al)) (h:Tz x0 x1 x2=some r):CO 180 [.d (.os 0),.d (I x1),.d (I x2)] [.sl 96 2 (x0.map q96)] (.d (.os 1)) [.non,.sl 96 2 (r.map q96)]:=by
 unfold Tz at h
 refine co 33 Tryz.func180 λ C hC=>?_
 obtain⟨u2,h1,h⟩:=Az h
 rcases cB h with⟨h3,h⟩ | ⟨h3,h⟩
 ·replace h:=sI h
  subst h
  exact wr [0,1,2,6,7,16] 31 [true] [pl q96 x0,⟨.bnd3 (x0.map q96).length x1 x2 (ln x0),Ag5 (by simp) h1⟩] [.mv 0] 1 [0,1] hC [pq h3]
 ·obtain⟨u5,h4,u7,h6,y8,h9,u11,h10,h⟩:=Cr h
  replace h:=sI h
  subst h
  (rw [List.map_take];exact jT (bs:=[((x1==x2),false)]) mixed [0,1,2,6,7,16] 38 [false] [.len (ln (x0.map q96)) (ln x0),.bnd3 (x0.map q96).length x1 x2 (ln x0),.len (ln (x0.map q96)) (ln x0),.bnd (x0.map q96).length 0 x1 x1,.bnd (x0.map q96).length x2 (((x0.map q96).length:Nat):Int) (ln x0),.appP (x0.map q96) (((x0.map q96).drop (Int.toNat x2)).take ((Int.toNat (ln x0))-(Int.toNat x2))) 2 ((Int.toNat x1)-0) (((Int.toNat x1)-0)+((x0.drop (Int.toNat x2)).take ((Int.toNat (ln x0))-(Int.toNat x2))).length) ((x0.map q96).take ((Int.toNat x1)-0)++((((x0.map q96).drop (Int.toNat x2)).take ((Int.toNat (ln x0))-(Int.toNat x2)))++(x0.map q96).drop (((Int.toNat x1)-0)+(((x0.map q96).drop (Int.toNat x2)).take ((Int.toNat (ln x0))-(Int.toNat x2))).length))) (y8.map q96),.len (((((Int.toNat x1)-0)+((x0.drop (Int.toNat x2)).take ((Int.toNat (ln x0))-(Int.toNat x2))).length):Nat):Int) (((((Int.toNat x1)-0)+((x0.drop (Int.toNat x2)).take ((Int.toNat (ln x0))-(Int.toNat x2))).length):Nat):Int),.bnd ((y8.map q96).length-0) (((((Int.toNat x1)-0)+((x0.drop (Int.toNat x2)).take ((Int.toNat (ln x0))-(Int.toNat x2))).length):Nat):Int) (ln x0) (ln x0),.eqr ((y8.map q96).take (0+(Int.toNat (((((Int.toNat x1)-0)+((x0.drop (Int.toNat x2)).take ((Int.toNat (ln x0))-(Int.toNat x2))).length):Nat):Int)))++(List.replicate ((Int.toNat (ln x0))-(Int.toNat (((((Int.toNat x1)-0)+((x0.drop (Int.toNat x2)).take ((Int.toNat (ln x0))-(Int.toNat x2))).length):Nat):Int))) (q96 (⟨0,0⟩:Al))++(y8.map q96).drop ((0+(Int.toNat (((((Int.toNat x1)-0)+((x0.drop (Int.toNat x2)).take ((Int.toNat (ln x0))-(Int.toNat x2))).length):Nat):Int)))+((Int.toNat (ln x0))-(Int.toNat (((((Int.toNat x1)-0)+((x0.drop (Int.toNat x2)).take ((Int.toNat (ln x0))-(Int.toNat x2))).length):Nat):Int)))))) ((F7 y8 (0+(Int.toNat (((((Int.toNat x1)-0)+((x0.drop (Int.toNat x2)).take ((Int.toNat (ln x0))-(Int.toNat x2))).length):Nat):Int))) ((Int.toNat (ln x0))-(Int.toNat (((((Int.toNat x1)-0)+((x0.drop (Int.toNat x2)).take ((Int.toNat (ln x0))-(Int.toNat x2))).length):Nat):Int))) (⟨0,0⟩:Al)).map q96)] [.trunc 6] [.tmp 6] 1 [0,1] rfl hC ⟨Ve _ _,Ag5 (by simp) h1,Ve _ _,E9 (by simp) rfl h4,E9 (by simp) (by simp) h6,Axj q96 2 (λ _=>rfl) (Ae8 _ _ _ _) h9,rfl,E9 (by simp) rfl h10,yF q96 rfl,trivial⟩ ⟨h3,trivial⟩ (by kernel_rfl))
theorem A23:EN 180:=en Tryz.func180
theorem Ar7 (x0:A3) (x1:Am) (x2:Int) (r:A3) (h:Pa x0 x1 x2=some r):CO 103 [.d (.o 0 0),.agg (d63 x1),.d (I x2)] (.box 119 (I x0.A0.Time :: .os 1 :: .os 2 :: .os 3 :: .os 4 :: .os 5 :: .os 6::zb x0.Ak [.os 7,.os 8])::zp x0.A0.Power [v5_ x0.A0.A7,v1_ x0.A0.Bc,v1_ x0.events,v7_ x0.states]) (.tup []) (.box 119 (I r.A0.Time :: .os 1 :: .os 2 :: .os 3 :: .os 4 :: .os 5 :: .os 6::zb r.Ak [.os 9,.os 8])::zp r.A0.Power [v5_ r.A0.A7,v1_ r.A0.Bc,.non,v7_ r.states,v1_ r.events]):=by
 unfold Pa at h
 refine co 23 Tryz.func103 λ C hC=>?_
 obtain⟨y1,h2,h⟩:=Az h
 replace h:=sI h
 subst h
 exact wf [0,1,2,4] 23 [] [pa q65 5 h2] [] 9 [0,1,2,3,4,5,6,7,8,10] hC []
theorem As0:EN 103:=en Tryz.func103
theorem Aft (x0:Ay) (x1:Int) (r:Ay) (h:Mx x0 x1=some r):CO 188 [.d (.o 0 0),.d (I x1)] (.box 214 (zb x0.Ak [.os 1,.os 2,.os 3,.os 4,.os 5])::zp x0.Au [v6_ x0.acts]) (.tup []) (.box 214 (zb r.Ak [.os 1,.os 2,.os 3,.os 4,.os 6])::zp r.Au [.non,v6_ r.acts]):=by
 unfold Mx at h
 refine co 22 Tryz.func188 λ C hC=>?_
 obtain⟨y1,h2,y3,h4,y5,h6,h⟩:=B0 h
 replace h:=sI h
 subst h
 exact wf [0,1] 23 [] [pr pB h2,pu pB h2 h4,pa q63 3 h6] [] 6 n7_ hC []
theorem Agk:EN 188:=en Tryz.func188
theorem A1j (x0:Aj) (x1:Int) (r:Bool) (h:Tx x0 x1=r):CO 194 [.agg (d70 x0),.d (.ip [.v (.int .i64 x1)])] [] (.d (Bo r)) []:=by
 unfold Tx at h
 refine co 13 Tryz.func194 λ C hC=>?_
 subst h
 exact wr n4_ 25 [] [] [] 0 [] hC []
theorem A2y:EN 194:=en Tryz.func194
theorem A6p (x0:Int) (x1:Int) (r:Int×Int) (h:Apq x0 x1=r):CO 196 [.d (.p (.v (.int .u64 x0))),.d (.p (.v (.int .u64 x1)))] [] (.tup [.d (.p (.v (.int .u64 r.1))),.d (.p (.v (.int .u64 r.2)))]) []:=by
 unfold Apq at h
 refine co 51 Tryz.func196 λ C hC=>?_
 subst h
 exact wr [0,1,4,5,6,7,8,9,10,11,12,13] 45 [] [] [] 0 [] hC []
theorem A7q:EN 196:=en Tryz.func196
theorem Ar5 (x0:Int) (x1:Int) (r:Bool) (h:Kr x0 x1=r):CO 128 [.d (I x0),.d (.ip [.v (.int .i64 x1)])] [] (.d (Bo r)) []:=by
 unfold Kr at h
 refine co 11 Tryz.func128 λ C hC=>?_
 subst h
 exact wr [0,1,3] 25 [] [] [] 0 [] hC []
theorem Asy:EN 128:=en Tryz.func128
theorem A6u (x0:List Int):CO 165 [.d (.p (.s (x0.map pI)))] [] (.d (.fn (.func 197) [] [.o 0 0])) [.box 22 [.p (.s (x0.map pI))]]:=by
 refine co 4 Tryz.func165 λ C hC=>?_
 exact wr [1,2] 40 [] [] [] 0 [0] hC []
theorem A7v:EN 165:=en Tryz.func165
theorem A1r (x0:Aj) (x1:Int) (r:Bool) (h:qT x0 x1=r):CO 173 [.agg (d70 x0),.d (.ip [.v (.int .i64 x1)])] [] (.d (Bo r)) []:=by
 unfold qT at h
 refine co 13 Tryz.func173 λ C hC=>?_
 subst h
 exact wr n4_ 25 [] [] [] 0 [] hC []
theorem A26:EN 173:=en Tryz.func173
theorem A2c (x0:Int) (x1:Bool) (x2:Int) (r:Int) (h:Im x0 x1 x2=r):CO 130 [.d (I x0),.d (Bo x1),.d (I x2)] [] (.d (I r)) []:=by
 unfold Im at h
 refine co 15 Tryz.func130 λ C hC=>?_
 rcases cB h with⟨h1,h⟩ | ⟨h1,h⟩
 ·subst h
  exact wr [0,1,2,6,7,10] 30 [true] [] [] 0 [] hC [pq h1]
 ·rcases cB h with⟨h2,h⟩ | ⟨h2,h⟩
  ·subst h
   exact wr [0,1,2,6,7,10] 33 [false,true] [] [] 0 [] hC [pq h1,pq h2]
  ·subst h
   exact wr [0,1,2,6,7,10] 35 [false,false] [] [] 0 [] hC [pq h1,pq h2]
theorem A3r:EN 130:=en Tryz.func130
theorem k42  (r:Int) (h:F42  = r):CO 42 [] [] (.d (.p (.v (.int .u64 r)))) []:=by
 unfold F42 at h
 refine co 1 Tryz.func42 λ C hC=>?_
 subst h
 exact wr [0] 25 [] [] [] 0 [] hC []
theorem e42:EN 42:=en Tryz.func42
theorem k22 (x0:As) (r:ByteArray) (h:F22 x0=some r):CO 22 [.agg (d43 x0)] [] (.d (.p (.v (.string r)))) []:=A4y x0 r h
theorem e22:EN 22:=en Tryz.func22
def And:List Nat:=[0,1,4,6,8,9,10,11]
def Ad7 (y1:List Int) (n0:Nat) (z0:Int):St:=[(0,.d (.p (.v (.int .u64 z0)))),(4,.d (.p (.v (.int .u64 0)))),(8,.d (DS (pK .u8) y1)),(9,dI (ln y1)),(10,dI (cnt 0 n0))]
def Ape  (n0:Nat) (z0:Int):List Res:=[]
def Arb  (z0:Int):St:=[(0,.d (.p (.v (.int .u64 z0)))),(4,.d (.p (.v (.int .u64 0))))]
def Auu  (z0:Int):List Res:=[]
theorem k41 (x0:Int) (x1:ByteArray) (r:Int) (h:F41 x0 x1=some r):CO 41 [.d (.p (.v (.int .u64 x0))),.d (.p (.v (.string x1)))] [] (.d (.p (.v (.int .u64 r)))) []:=by
 unfold F41 at h
 refine co 21 Tryz.func41 λ C hC=>?_
 obtain⟨y1,h2,h⟩:=Az h
 refine ws And 26 [] [⟨.room (x1.size:Int) (Kn x1) (y1.map (pK .u8)),Atp h2⟩,pl (pK .u8) y1] [] 0 [] (Ad7 y1 0 x0) (Ape 0 x0) hC [] ?_
 obtain⟨w0,hm0,hret0,hnext0⟩:=Ar h
 clear h
 refine wc w0 (Arb) (Auu) ?_ λ z0 hs0=>?_
 ·refine wb ?_
  refine Bv 8 rfl λ hl0=>?_
  refine wl (Ad7 y1) (Ape) hm0 (λ z0 hn0=>?_) λ n0 a0 z0 w0b hi0 hx0 h hb0 hr0=>?_
  ·clear hm0
   exact wx w0 (Arb) (Auu) And 26 [false] [] [] 0 [] _ hC [pq (Be hl0)] hn0
  ·unfold Au8 at h
   exact wx w0b (Ad7 y1 (n0+1)) (Ape (n0+1)) And 33 [true] [pt hx0 hl0] [] 0 [] _ hC [pq (A_ hi0 hl0)] (sI h).symm
 ·have h:=hnext0 _ hs0
  replace h:=sI h
  subst h
  exact wr And 23 [] [] [] 0 [] hC []
theorem e41:EN 41:=en Tryz.func41
def vP:List Nat:=[0,1,4,5,10,11,12,34]
def Ad8 (x0:List Int) (x1:List Int) (z0:Int):St:=[(0,.d (DS (pK .u64) x0)),(1,.d (DS (pK .u64) x1)),(4,dI 0),(10,dI (max (ln x0) (ln x1))),(11,dI z0)]
def Apf  (z0:Int):List Res:=[]
def Arc  (z0:Int):St:=[(4,dI 0)]
def Auv  (z0:Int):List Res:=[]
theorem k25 (x0:List Int) (x1:List Int) (r:Int) (h:F25 x0 x1=some r):CO 25 [.d (DS (pK .u64) x0),.d (DS (pK .u64) x1)] [] (.d (I r)) []:=by
 unfold F25 at h
 refine co 37 Tryz.func25 λ C hC=>?_
 refine ws vP 26 [] [pl (pK .u64) x0,pl (pK .u64) x1] [] 0 [] (Ad8 x0 x1 0) (Apf 0) hC [] ?_
 obtain⟨w0,hm0,hret0,hnext0⟩:=Ar h
 clear h
 refine wc w0 (Arc) (Auv) ?_ λ z0 hs0=>?_
 ·refine wb ?_
  refine ww (Ad8 x0 x1) (Apf) hm0 λ z0 w0b h hb0 hr0=>?_
  unfold Ai0 at h
  rcases cB h with⟨h1,h⟩ | ⟨h1,h⟩
  ·obtain⟨y2,h3,y4,h5,h⟩:=Bb h
   refine wn vP 32 [true] [pl (pK .u64) x0,pL_ [(decide (z0>=(ln x0)),false)] (pK .u64) x1,pR (pK .u64) h3,pR (pK .u64) h5] [] 0 [] [0,1,4,5,10,11,34] hC [pq h1] ?_
   rcases cB h with⟨h6,h⟩ | ⟨h6,h⟩
   ·have hq:=hret0 _ (hr0 _ (sI h).symm)
    replace hq:=sI hq
    subst hq
    exact wr vP 24 [true] [] [] 0 [] hC [pq h6]
   ·exact wx w0b (Ad8 x0 x1) (Apf) vP 25 [false] [] [] 0 [] _ hC [pq h6] (sI h).symm
  ·exact wx w0 (Arc) (Auv) vP 26 [false] [] [] 0 [] z0 hC [pq h1] (hb0 _ (sI h).symm)
 ·have h:=hnext0 _ hs0
  replace h:=sI h
  subst h
  exact wr vP 23 [] [] [] 0 [] hC []
theorem e25:EN 25:=en Tryz.func25
theorem k9 (x0:List Int) (r:Ah) (h:F9 x0=some r):CO 9 [.d (DS pI x0)] [] (.d (.o 0 0)) [.box 77 (d77 r)]:=by
 unfold F9 at h
 refine co 10 Tryz.func9 λ C hC=>?_
 obtain⟨y2,h1,h⟩:=Az h
 replace h:=sI h
 subst h
 exact wr [0,2] 25 [] [pl pI x0,⟨.cut (x0.map pI) 1 0 (min (ln x0) 600) (y2.map pI),Vl pI 1 (λ _=>rfl) h1⟩] [] 0 [0] hC []
theorem e9:EN 9:=en Tryz.func9
theorem k35 (x0:Int) (x1:Int) (r:Int) (h:F35 x0 x1=some r):CO 35 [.d (I x0),.d (I x1)] [] (.d (I r)) []:=by
 unfold F35 at h
 refine co 14 Tryz.func35 λ C hC=>?_
 rcases cB h with⟨h1,h⟩ | ⟨h1,h⟩
 ·replace h:=sI h
  subst h
  exact wr [0,1,4,6] 29 [true] [] [] 0 [] hC [pq h1]
 ·obtain⟨u3,h2,u5,h4,h⟩:=Bb h
  replace h:=sI h
  subst h
  exact wr [0,1,4,6] 30 [false] [⟨.nz x1,Aff h2⟩,⟨.nz x1,Aff h4⟩] [] 0 [] hC [pq h1]
theorem e35:EN 35:=en Tryz.func35
theorem k84 (x0:Al) (x1:Al) (r:Bool) (h:F84 x0 x1=r):CO 84 [.agg (d96 x0),.agg (d96 x1)] [] (.d (Bo r)) []:=by
 unfold F84 at h
 refine co 24 Tryz.func84 λ C hC=>?_
 subst h
 exact wr n5_ 25 [] [] [] 0 [] hC []
theorem e84:EN 84:=en Tryz.func84
theorem k37 (x0:Ab) (r:Ab) (h:F37 x0=some r):CO 37 [.agg (d39 x0)] [] (.agg [.os 0,.os 1,.os 2,.os 3]) (zp r []):=by
 unfold F37 at h
 refine co 16 Tryz.func37 λ C hC=>?_
 obtain⟨y1,h2,y3,h4,y5,h6,y7,h8,h⟩:=Cr h
 replace h:=sI h
 subst h
 exact wr n3_ 25 [] [⟨.app [] (x0.Ag.map pB) 1 ((x0.Ag.map pB).length*(1+1)) (y1.map pB),Fk pB 1 (λ _=>rfl) h2⟩,⟨.app [] (x0.Ac.map q93) 4 ((x0.Ac.map q93).length*(32+1)) (y3.map q93),Fk q93 4 (λ _=>rfl) h4⟩,⟨.app [] (x0.Aq.map pI) 1 ((x0.Aq.map pI).length*(8+1)) (y5.map pI),Fk pI 1 (λ _=>rfl) h6⟩,⟨.app [] (x0.Ao.map q96) 2 ((x0.Ao.map q96).length*(16+1)) (y7.map q96),Fk q96 2 (λ _=>rfl) h8⟩] [] 0 [3,5,7,9] hC []
theorem e37:EN 37:=en Tryz.func37
def Hh:List Nat:=[0,1,2,3,4,6,7,8,9,10,11,19,20,21,23,24,25,26,53,65,66,67,72]
def uP (y5:List Bool) (n0:Nat) (z0:(List Bool)):St:=[(3,dO 0 0),(4,dO 1 0),(6,.d (DS pI [])),(7,dS 2),(19,dI (ln y5)),(20,dI (cnt 0 n0))]
def Ahz (x0:Aa) (x1:Ab) (n0:Nat) (z0:(List Bool)):List Res:=[.box 30 (d30 x0),.box 39 (d39 x1),v2_ z0]
def Akt  (z0:(List Bool)):St:=[(6,.d (DS pI [])),(7,dS 0)]
def Ama  (z0:(List Bool)):List Res:=[v2_ z0]
def Uy (x0:Aa) (y5:List Bool) (n0:Nat) (n1:Nat) (z1:(List Bool)):St:=[(3,dO 0 0),(4,dO 1 0),(6,.d (DS pI [])),(7,dS 2),(19,dI (ln y5)),(20,dI (cnt 0 n0)),(23,.d (DS q70 x0.Ad)),(24,dI (ln x0.Ad)),(25,dI (cnt 0 n1))]
def jY (x0:Aa) (x1:Ab) (n1:Nat) (z1:(List Bool)):List Res:=[.box 30 (d30 x0),.box 39 (d39 x1),v2_ z1]
def Aks (y5:List Bool) (n0:Nat) (z1:(List Bool)):St:=[(3,dO 0 0),(4,dO 1 0),(6,.d (DS pI [])),(7,dS 2),(19,dI (ln y5)),(20,dI (cnt 0 n0))]
def Al9 (x0:Aa) (x1:Ab) (z1:(List Bool)):List Res:=[.box 30 (d30 x0),.box 39 (d39 x1),v2_ z1]
def Ux (z0:(List Bool)) (n2:Nat) (z2:(List Int)):St:=[(6,.d (DS pI [])),(7,dS 0),(10,dS 1),(65,dI (ln z0)),(66,dI (cnt 0 n2))]
def jX (z0:(List Bool)) (n2:Nat) (z2:(List Int)):List Res:=[v2_ z0,v0_ z2]
def Akr  (z2:(List Int)):St:=[(6,.d (DS pI [])),(10,dS 0)]
def Al8  (z2:(List Int)):List Res:=[v0_ z2]
theorem A6z (x0:Aa) (x1:Ab) (x2:Int) (r:(List Int)) (h:Aja x0 x1 x2=some r):CO 148 [.agg (d30 x0),.agg (d39 x1),.d (I x2)] [] (.d (.os 0)) [v0_ r]:=by
 unfold Aja at h
 refine co 79 Tryz.func148 λ C hC=>?_
 obtain⟨y1,h2,y3,h4,y5,h6,h⟩:=B0 h
 refine ws Hh 30 [] [⟨.room (x0.An*(1+1)) (List.replicate (Int.toNat x0.An) (pB false)) (y1.map pB),Js h2⟩,pr pB h4,pu pB h4 h6,pl pB y5] [] 0 n3_ (uP y5 0 y5) (Ahz x0 x1 0 y5) hC [] ?_
 obtain⟨w0,hm0,hret0,hnext0⟩:=Ar h
 clear h
 refine wc w0 (Akt) (Ama) ?_ λ z0 hs0=>?_
 ·refine wb ?_
  refine Cj 7 2 rfl rfl λ hl0=>?_
  refine wl (uP y5) (Ahz x0 x1) hm0 (λ z0 hn0=>?_) λ n0 a0 z0 w0b hi0 hx0 h hb0 hr0=>?_
  ·clear hm0
   exact wx w0 (Akt) (Ama) Hh 26 [false] [] [] 0 [2] _ hC [pq (Be hl0)] hn0
  ·unfold zE at h
   refine ws Hh 30 [true] [pl q70 x0.Ad] [] 0 n3_ (Uy x0 y5 n0 0 z0) (jY x0 x1 0 z0) hC [pq (A_ hi0 hl0)] ?_
   obtain⟨w1,hm1,hret1,hnext1⟩:=Ar h
   clear h
   refine wc w1 (Aks y5 n0) (Al9 x0 x1) ?_ λ z1 hs1=>?_
   ·refine wb ?_
    refine Bv 23 rfl λ hl1=>?_
    refine wl (Uy x0 y5 n0) (jY x0 x1) hm1 (λ z1 hn1=>?_) λ n1 a1 z1 w1b hi1 hx1 h hb1 hr1=>?_
    ·clear hm1
     exact wx w1 (Aks y5 n0) (Al9 x0 x1) Hh 26 [false] [] [] 0 n3_ _ hC [pq (Be hl1)] hn1
    ·unfold zD at h
     obtain⟨y7,h8,y9,h10,y11,h12,h⟩:=B0 h
     refine wn Hh 32 [true] [pt hx1 hl1,pR pB h8,pR pB h10,pN pB h10,pR pB h12,pN pB h12] [] 0 n4_ [3,4,6,7,9,19,20,23,24,25,53] hC [pq (A_ hi1 hl1)] ?_
     rcases cB h with⟨h13,h⟩ | ⟨h13,h⟩
     ·obtain⟨y14,h15,y16,h17,y18,h19,y20,h21,h⟩:=Cr h
      exact wx w1b (Uy x0 y5 n0 (n1+1)) (jY x0 x1 (n1+1)) Hh 25 [true] [pr pB h15,pu pB h15 h17,pr pB h19,pu pB h19 h21] [] 0 n3_ _ hC [pq h13] (sI h).symm
     ·exact wx w1b (Uy x0 y5 n0 (n1+1)) (jY x0 x1 (n1+1)) Hh 25 [false] [] [] 0 n3_ _ hC [pq h13] (sI h).symm
   ·have h:=hnext1 _ hs1
    exact wx w0b (uP y5 (n0+1)) (Ahz x0 x1 (n0+1)) Hh 23 [] [] [] 0 n3_ _ hC [] (sI h).symm
 ·have h:=hnext0 _ hs0
  refine ws Hh 26 [] [pl pB z0] [.own 10 3 1] 0 [0,1] (Ux z0 0 ([]:List Int)) (jX z0 0 ([]:List Int)) hC [] ?_
  obtain⟨w2,hm2,hret2,hnext2⟩:=Ar h
  clear h
  refine wc w2 (Akr) (Al8) ?_ λ z2 hs2=>?_
  ·refine wb ?_
   refine Cj 7 0 rfl rfl λ hl2=>?_
   refine wl (Ux z0) (jX z0) hm2 (λ z2 hn2=>?_) λ n2 a2 z2 w2b hi2 hx2 h hb2 hr2=>?_
   ·clear hm2
    exact wx w2 (Akr) (Al8) Hh 26 [false] [] [] 0 [1] _ hC [pq (Be hl2)] hn2
   ·unfold zC at h
    rcases cB h with⟨h22,h⟩ | ⟨h22,h⟩
    ·obtain⟨y23,h24,h⟩:=Az h
     exact wx w2b (Ux z0 (n2+1)) (jX z0 (n2+1)) Hh 36 [true,true] [pr pB (Bn hx2 hl2),pn pB (Bn hx2 hl2),pa pI 1 h24] [] 0 [0,2] _ hC [pq (A_ hi2 hl2),pq h22] (sI h).symm
    ·exact wx w2b (Ux z0 (n2+1)) (jX z0 (n2+1)) Hh 36 [true,false] [pr pB (Bn hx2 hl2),pn pB (Bn hx2 hl2)] [] 0 [0,1] _ hC [pq (A_ hi2 hl2),pq h22] (sI h).symm
  ·have h:=hnext2 _ hs2
   replace h:=sI h
   subst h
   exact wr Hh 23 [] [] [] 0 [0] hC []
theorem A70:EN 148:=en Tryz.func148
def Zt:List Nat:=[0,1,4,6,7,8,9,10,15]
def uO (x0:List Int) (x1:Int) (n0:Nat) (z0:Unit):St:=[(1,dI x1),(4,dB false),(7,.d (DS pI x0)),(8,dI (ln x0)),(9,dI (cnt 0 n0))]
def Ahy  (n0:Nat) (z0:Unit):List Res:=[]
def Akq  (z0:Unit):St:=[(4,dB false)]
def Al7  (z0:Unit):List Res:=[]
theorem A15 (x0:List Int) (x1:Int) (r:Bool) (h:zA x0 x1=some r):CO 150 [.d (DS pI x0),.d (I x1)] [] (.d (Bo r)) []:=by
 unfold zA at h
 refine co 17 Tryz.func150 λ C hC=>?_
 refine ws Zt 26 [] [pl pI x0] [] 0 [] (uO x0 x1 0 ()) (Ahy 0 ()) hC [] ?_
 obtain⟨w0,hm0,hret0,hnext0⟩:=Ar h
 clear h
 refine wc w0 (Akq) (Al7) ?_ λ z0 hs0=>?_
 ·refine wb ?_
  refine Bv 7 rfl λ hl0=>?_
  refine wl (uO x0 x1) (Ahy) hm0 (λ z0 hn0=>?_) λ n0 a0 z0 w0b hi0 hx0 h hb0 hr0=>?_
  ·clear hm0
   exact wx w0 (Akq) (Al7) Zt 26 [false] [] [] 0 [] _ hC [pq (Be hl0)] hn0
  ·unfold V5 at h
   rcases cB h with⟨h1,h⟩ | ⟨h1,h⟩
   ·have hq:=hret0 _ (hr0 _ (sI h).symm)
    replace hq:=sI hq
    subst hq
    exact wr Zt 35 [true,true] [pt hx0 hl0] [] 0 [] hC [pq (A_ hi0 hl0),pq h1]
   ·exact wx w0b (uO x0 x1 (n0+1)) (Ahy (n0+1)) Zt 36 [true,false] [pt hx0 hl0] [] 0 [] _ hC [pq (A_ hi0 hl0),pq h1] (sI h).symm
 ·have h:=hnext0 _ hs0
  replace h:=sI h
  subst h
  exact wr Zt 23 [] [] [] 0 [] hC []
theorem A3k:EN 150:=en Tryz.func150
def Dp:List Nat:=[0,1,2,3,4,6,7,8,10,11,12,13,23,25,26,37,38,47,48,57,61,62,63,64,69,74,75,76,82,86,87,88,94]
def Rl (x0:Aa) (n0:Nat) (z0:Unit):St:=[(1,dO 0 0),(2,dB false),(10,.d (DS q70 x0.Ad)),(11,dI (ln x0.Ad)),(12,dI (cnt 0 n0))]
def jU (x0:Aa) (n0:Nat) (z0:Unit):List Res:=[.box 30 (d30 x0)]
def Aq8  (z0:Unit):St:=[(1,dO 0 0),(2,dB false)]
def Aur (x0:Aa) (z0:Unit):List Res:=[.box 30 (d30 x0)]
def Ad5 (x0:Aa) (n0:Nat) (y9:List Aj) (n1:Nat) (z1:Unit):St:=[(1,dO 0 0),(2,dB false),(4,dO 1 0),(10,.d (DS q70 x0.Ad)),(11,dI (ln x0.Ad)),(12,dI (cnt 0 n0)),(61,.d (DS q70 y9)),(62,dI (ln y9)),(63,dI (cnt 0 n1))]
def Apc (x0:Aa) (a0:Aj) (n1:Nat) (z1:Unit):List Res:=[.box 30 (d30 x0),.box 70 (d70 a0)]
def Aq7 (x0:Aa) (n0:Nat) (z1:Unit):St:=[(1,dO 0 0),(2,dB false),(10,.d (DS q70 x0.Ad)),(11,dI (ln x0.Ad)),(12,dI (cnt 0 n0))]
def Auq (x0:Aa) (z1:Unit):List Res:=[.box 30 (d30 x0)]
def Ad4 (x0:Aa) (z2:Int):St:=[(1,dO 0 0),(2,dB false),(74,dI (ln x0.Ac)),(75,dI z2)]
def Apb (x0:Aa) (z2:Int):List Res:=[.box 30 (d30 x0)]
def Aq6  (z2:Int):St:=[(1,dO 0 0),(2,dB false)]
def Aup (x0:Aa) (z2:Int):List Res:=[.box 30 (d30 x0)]
def Ad3 (x0:Aa) (z3:Int):St:=[(1,dO 0 0),(2,dB false),(86,dI (ln x0.Ae)),(87,dI z3)]
def Apa (x0:Aa) (z3:Int):List Res:=[.box 30 (d30 x0)]
def Aq5  (z3:Int):St:=[(2,dB false)]
def Auo  (z3:Int):List Res:=[]
theorem k59 (x0 : Aa) (r : Bool) (h : F59 x0 = some r) : CO 59 [.agg (d30 x0)] [] (.d (Bo r)) [] := by
 unfold F59 at h
 refine co 96 Tryz.func59 λ C hC=>?_
 refine ws Dp 26 [] [pl q70 x0.Ad] [] 0 [0] (Rl x0 0 ()) (jU x0 0 ()) hC [] ?_
 obtain⟨w0,hm0,hret0,hnext0⟩:=Ar h
 clear h
 refine wc w0 (Aq8) (Aur x0) ?_ λ z0 hs0=>?_
 ·refine wb ?_
  refine Bv 10 rfl λ hl0=>?_
  refine wl (Rl x0) (jU x0) hm0 (λ z0 hn0=>?_) λ n0 a0 z0 w0b hi0 hx0 h hb0 hr0=>?_
  ·clear hm0
   exact wx w0 (Aq8) (Aur x0) Dp 26 [false] [] [] 0 [0] _ hC [pq (Be hl0)] hn0
  ·unfold Aiy at h
   refine wn Dp 33 [true] [pt hx0 hl0,pc e82 (k82 a0.A 0 (w64 (x0.An-1)) _ rfl) []] [] 0 [0,1] [1,2,3,4,10,11,12,23] hC [pq (A_ hi0 hl0)] ?_
   rcases cB h with⟨h1,h⟩ | ⟨h1,h⟩
   ·have hq:=hret0 _ (hr0 _ (sI h).symm)
    replace hq:=sI hq
    subst hq
    exact wr Dp 24 [true] [] [] 0 [] hC [pq h1]
   ·rcases cB h with ⟨h2, h⟩ | ⟨h2, h⟩
    ·rcases cB h with⟨h3,h⟩ | ⟨h3,h⟩
     ·have hq:=hret0 _ (hr0 _ (sI h).symm)
      replace hq:=sI hq
      subst hq
      exact wr Dp 34 [false,true,true] [pc e82 (k82 a0.B (w64 (a0.A+1)) (w64 (x0.An-1)) _ rfl) []] [] 0 [] hC [pq h1,pq h2,pq h3]
     ·exact wx w0b (Rl x0 (n0+1)) (jU x0 (n0+1)) Dp 36 [false,true,false] [pc e82 (k82 a0.B (w64 (a0.A+1)) (w64 (x0.An-1)) _ rfl) []] [] 0 [0] _ hC [pq h1,pq h2,pq h3] (sI h).symm
    ·rcases cB h with⟨h4,h⟩ | ⟨h4,h⟩
     ·refine wn Dp 34 [false,false,true] [pl q72 x0.Ac,pc e82 (k82 a0.B 0 (w64 ((ln x0.Ac)-1)) _ rfl) []] [] 0 [0] [1,2,10,11,12,47] hC [pq h1,pq h2,pq h4] ?_
      rcases cB h with⟨h5,h⟩ | ⟨h5,h⟩
      ·have hq:=hret0 _ (hr0 _ (sI h).symm)
       replace hq:=sI hq
       subst hq
       exact wr Dp 24 [true] [] [] 0 [] hC [pq h5]
      ·exact wx w0b (Rl x0 (n0+1)) (jU x0 (n0+1)) Dp 26 [false] [] [] 0 [0] _ hC [pq h5] (sI h).symm
     ·rcases cB h with⟨h6,h⟩ | ⟨h6,h⟩
      ·refine wn Dp 38 [false,false,false,true] [pl q81 x0.Ae,pc e82 (k82 a0.B 0 (w64 ((ln x0.Ae)-1)) _ rfl) []] [] 0 [0,1] [1,2,3,4,10,11,12,57] hC [pq h1,pq h2,pq h4,pq h6] ?_
       rcases cB h with⟨h7,h⟩ | ⟨h7,h⟩
       ·have hq:=hret0 _ (hr0 _ (sI h).symm)
        replace hq:=sI hq
        subst hq
        exact wr Dp 24 [true] [] [] 0 [] hC [pq h7]
       ·obtain⟨y9,h8,h⟩:=Az h
        refine ws Dp 25 [false] [⟨.cut (x0.Ad.map q70) 3 0 (cnt 0 n0) (y9.map q70),Vl q70 3 (λ _=>rfl) h8⟩,pl q70 y9] [] 0 [0,1] (Ad5 x0 n0 y9 0 ()) (Apc x0 a0 0 ()) hC [pq h7] ?_
        obtain⟨w1,hm1,hret1,hnext1⟩:=Ar h
        clear h
        refine wc w1 (Aq7 x0 n0) (Auq x0) ?_ λ z1 hs1=>?_
        ·refine wb ?_
         refine Bv 61 rfl λ hl1=>?_
         refine wl (Ad5 x0 n0 y9) (Apc x0 a0) hm1 (λ z1 hn1=>?_) λ n1 a1 z1 w1b hi1 hx1 h hb1 hr1=>?_
         ·clear hm1
          exact wx w1 (Aq7 x0 n0) (Auq x0) Dp 26 [false] [] [] 0 [0] _ hC [pq (Be hl1)] hn1
         ·unfold qK at h
          rcases cB h with⟨h10,h⟩ | ⟨h10,h⟩
          ·have hq:=hret1 _ (hr1 _ (sI h).symm)
           replace hq:=hret0 _ (hr0 _ (sI hq).symm)
           replace hq:=sI hq
           subst hq
           exact wr Dp 35 [true,true] [pt hx1 hl1] [] 0 [] hC [pq (A_ hi1 hl1),pq h10]
          ·exact wx w1b (Ad5 x0 n0 y9 (n1+1)) (Apc x0 a0 (n1+1)) Dp 36 [true,false] [pt hx1 hl1] [] 0 [0,1] _ hC [pq (A_ hi1 hl1),pq h10] (sI h).symm
        ·have h:=hnext1 _ hs1
         exact wx w0b (Rl x0 (n0+1)) (jU x0 (n0+1)) Dp 24 [] [] [] 0 [0] _ hC [] (sI h).symm
      ·have hq:=hret0 _ (hr0 _ (sI h).symm)
       replace hq:=sI hq
       subst hq
       exact wr Dp 37 [false,false,false,false] [] [] 0 [] hC [pq h1,pq h2,pq h4,pq h6]
 ·have h:=hnext0 _ hs0
  refine ws Dp 24 [] [pl q72 x0.Ac] [] 0 [0] (Ad4 x0 0) (Apb x0 0) hC [] ?_
  obtain⟨w2,hm2,hret2,hnext2⟩:=Ar h
  clear h
  refine wc w2 (Aq6) (Aup x0) ?_ λ z2 hs2=>?_
  ·refine wb ?_
   refine ww (Ad4 x0) (Apb x0) hm2 λ z2 w2b h hb2 hr2=>?_
   unfold Aix at h
   rcases cB h with⟨h11,h⟩ | ⟨h11,h⟩
   ·obtain⟨y12,h13,h⟩:=Az h
    refine wn Dp 32 [true] [pc e83 (k83 x0 2 z2 _ h13) [],pl pI y12] [] 0 [0] [1,2,74,75,82] hC [pq h11] ?_
    rcases cB h with⟨h14,h⟩ | ⟨h14,h⟩
    ·have hq:=hret2 _ (hr2 _ (sI h).symm)
     replace hq:=sI hq
     subst hq
     exact wr Dp 24 [true] [] [] 0 [] hC [pq h14]
    ·exact wx w2b (Ad4 x0) (Apb x0) Dp 25 [false] [] [] 0 [0] _ hC [pq h14] (sI h).symm
   ·exact wx w2 (Aq6) (Aup x0) Dp 26 [false] [] [] 0 [0] z2 hC [pq h11] (hb2 _ (sI h).symm)
  ·have h:=hnext2 _ hs2
   refine ws Dp 24 [] [pl q81 x0.Ae] [] 0 [0] (Ad3 x0 0) (Apa x0 0) hC [] ?_
   obtain⟨w3,hm3,hret3,hnext3⟩:=Ar h
   clear h
   refine wc w3 (Aq5) (Auo) ?_ λ z3 hs3=>?_
   ·refine wb ?_
    refine ww (Ad3 x0) (Apa x0) hm3 λ z3 w3b h hb3 hr3=>?_
    unfold Aiw at h
    rcases cB h with⟨h15,h⟩ | ⟨h15,h⟩
    ·obtain⟨y16,h17,h⟩:=Az h
     refine wn Dp 32 [true] [pc e83 (k83 x0 3 z3 _ h17) [],pl pI y16] [] 0 [0] [1,2,86,87,94] hC [pq h15] ?_
     rcases cB h with⟨h18,h⟩ | ⟨h18,h⟩
     ·have hq:=hret3 _ (hr3 _ (sI h).symm)
      replace hq:=sI hq
      subst hq
      exact wr Dp 24 [true] [] [] 0 [] hC [pq h18]
     ·exact wx w3b (Ad3 x0) (Apa x0) Dp 25 [false] [] [] 0 [0] _ hC [pq h18] (sI h).symm
    ·exact wx w3 (Aq5) (Auo) Dp 26 [false] [] [] 0 [] z3 hC [pq h15] (hb3 _ (sI h).symm)
   ·have h:=hnext3 _ hs3
    replace h:=sI h
    subst h
    exact wr Dp 23 [] [] [] 0 [] hC []
theorem e59:EN 59:=en Tryz.func59
def vN:List Nat:=[0,1,2,4,6,7,8,9,29]
def Ad2 (x0:Aa) (n0:Nat) (z0:Unit):St:=[(2,dB false),(6,.d (DS q72 x0.Ac)),(7,dI (ln x0.Ac)),(8,dI (cnt 0 n0))]
def Ao9  (n0:Nat) (z0:Unit):List Res:=[]
def Aq4  (z0:Unit):St:=[(2,dB false)]
def Aun  (z0:Unit):List Res:=[]
theorem k60 (x0:Aa) (r:Bool) (h:F60 x0=some r):CO 60 [.agg (d30 x0)] [] (.d (Bo r)) []:=by
 unfold F60 at h
 refine co 31 Tryz.func60 λ C hC=>?_
 refine ws vN 26 [] [pl q72 x0.Ac] [] 0 [] (Ad2 x0 0 ()) (Ao9 0 ()) hC [] ?_
 obtain⟨w0,hm0,hret0,hnext0⟩:=Ar h
 clear h
 refine wc w0 (Aq4) (Aun) ?_ λ z0 hs0=>?_
 ·refine wb ?_
  refine Bv 6 rfl λ hl0=>?_
  refine wl (Ad2 x0) (Ao9) hm0 (λ z0 hn0=>?_) λ n0 a0 z0 w0b hi0 hx0 h hb0 hr0=>?_
  ·clear hm0
   exact wx w0 (Aq4) (Aun) vN 26 [false] [] [] 0 [] _ hC [pq (Be hl0)] hn0
  ·unfold Aiv at h
   refine wn vN 32 [true] [pt hx0 hl0,pc e82 (k82 a0.Rating 1 50000 _ rfl) [],⟨.when [(!(F82 a0.Rating 1 50000),false)] (.call 82 [dI a0.Least,dI 0,dI a0.Rating] [] (dB (F82 a0.Least 0 a0.Rating)) [] []),λ hg=>⟨e82,(k82 a0.Least 0 a0.Rating _ rfl)⟩⟩,⟨.when [(((!(F82 a0.Rating 1 50000)) || (!(F82 a0.Least 0 a0.Rating))),false)] (.call 82 [dI a0.Start,dI 0,dI 600] [] (dB (F82 a0.Start 0 600)) [] []),λ hg=>⟨e82,(k82 a0.Start 0 600 _ rfl)⟩⟩] [] 0 [] [2,6,7,8,29] hC [pq (A_ hi0 hl0)] ?_
   rcases cB h with⟨h1,h⟩ | ⟨h1,h⟩
   ·have hq:=hret0 _ (hr0 _ (sI h).symm)
    replace hq:=sI hq
    subst hq
    exact wr vN 24 [true] [] [] 0 [] hC [pq h1]
   ·exact wx w0b (Ad2 x0 (n0+1)) (Ao9 (n0+1)) vN 25 [false] [] [] 0 [] _ hC [pq h1] (sI h).symm
 ·have h:=hnext0 _ hs0
  replace h:=sI h
  subst h
  exact wr vN 23 [] [] [] 0 [] hC []
theorem e60:EN 60:=en Tryz.func60
def Mg:List Nat:=[0,1,2,3,4,5,6,8,9,10,11,44,46,47,48,49,71]
def Ad1 (x0:Aa) (n0:Nat) (z0:Unit):St:=[(2,dB false),(8,.d (DS q81 x0.Ae)),(9,dI (ln x0.Ae)),(10,dI (cnt 0 n0))]
def Ao8  (n0:Nat) (z0:Unit):List Res:=[]
def Aq3  (z0:Unit):St:=[(2,dB false)]
def Aum  (z0:Unit):List Res:=[]
def Ad0 (x0:Aa) (n0:Nat) (a0:A5) (n1:Nat) (z1:Unit):St:=[(2,dB false),(3,dI (cnt 0 n0)),(4,dO 0 0),(8,.d (DS q81 x0.Ae)),(9,dI (ln x0.Ae)),(10,dI (cnt 0 n0)),(46,.d (DS pI a0.Needs)),(47,dI (ln a0.Needs)),(48,dI (cnt 0 n1))]
def Ao7 (a0:A5) (n1:Nat) (z1:Unit):List Res:=[.box 81 (d81 a0)]
def Aq2 (x0:Aa) (n0:Nat) (z1:Unit):St:=[(2,dB false),(8,.d (DS q81 x0.Ae)),(9,dI (ln x0.Ae)),(10,dI (cnt 0 n0))]
def Aul  (z1:Unit):List Res:=[]
theorem k61 (x0:Aa) (r:Bool) (h:F61 x0=some r):CO 61 [.agg (d30 x0)] [] (.d (Bo r)) []:=by
 unfold F61 at h
 refine co 74 Tryz.func61 λ C hC=>?_
 refine ws Mg 26 [] [pl q81 x0.Ae] [] 0 [] (Ad1 x0 0 ()) (Ao8 0 ()) hC [] ?_
 obtain⟨w0,hm0,hret0,hnext0⟩:=Ar h
 clear h
 refine wc w0 (Aq3) (Aum) ?_ λ z0 hs0=>?_
 ·refine wb ?_
  refine Bv 8 rfl λ hl0=>?_
  refine wl (Ad1 x0) (Ao8) hm0 (λ z0 hn0=>?_) λ n0 a0 z0 w0b hi0 hx0 h hb0 hr0=>?_
  ·clear hm0
   exact wx w0 (Aq3) (Aum) Mg 26 [false] [] [] 0 [] _ hC [pq (Be hl0)] hn0
  ·unfold Aiu at h
   refine wn Mg 33 [true] [pt hx0 hl0,pc e82 (k82 a0.Load 0 50000 _ rfl) [],⟨.when [(!(F82 a0.Load 0 50000),false)] (.call 82 [dI a0.Least,dI 0,dI a0.Load] [] (dB (F82 a0.Least 0 a0.Load)) [] []),λ hg=>⟨e82,(k82 a0.Least 0 a0.Load _ rfl)⟩⟩,⟨.when [(((!(F82 a0.Load 0 50000)) || (!(F82 a0.Least 0 a0.Load))),false)] (.call 82 [dI a0.Bl,dI 0,dI 15] [] (dB (F82 a0.Bl 0 15)) [] []),λ hg=>⟨e82,(k82 a0.Bl 0 15 _ rfl)⟩⟩,⟨.when [((((!(F82 a0.Load 0 50000)) || (!(F82 a0.Least 0 a0.Load))) || (!(F82 a0.Bl 0 15))),false)] (.call 82 [dI a0.Thruster,dI (-1),dI 7] [] (dB (F82 a0.Thruster (-1) 7)) [] []),λ hg=>⟨e82,(k82 a0.Thruster (-1) 7 _ rfl)⟩⟩,pL_ [(((((!(F82 a0.Load 0 50000)) || (!(F82 a0.Least 0 a0.Load))) || (!(F82 a0.Bl 0 15))) || (!(F82 a0.Thruster (-1) 7))),false)] pI a0.Needs] [] 0 [0] [2,3,4,8,9,10,44] hC [pq (A_ hi0 hl0)] ?_
   rcases cB h with⟨h1,h⟩ | ⟨h1,h⟩
   ·have hq:=hret0 _ (hr0 _ (sI h).symm)
    replace hq:=sI hq
    subst hq
    exact wr Mg 24 [true] [] [] 0 [] hC [pq h1]
   ·refine ws Mg 25 [false] [pl pI a0.Needs] [] 0 [0] (Ad0 x0 n0 a0 0 ()) (Ao7 a0 0 ()) hC [pq h1] ?_
    obtain⟨w1,hm1,hret1,hnext1⟩:=Ar h
    clear h
    refine wc w1 (Aq2 x0 n0) (Aul) ?_ λ z1 hs1=>?_
    ·refine wb ?_
     refine Bv 46 rfl λ hl1=>?_
     refine wl (Ad0 x0 n0 a0) (Ao7 a0) hm1 (λ z1 hn1=>?_) λ n1 a1 z1 w1b hi1 hx1 h hb1 hr1=>?_
     ·clear hm1
      exact wx w1 (Aq2 x0 n0) (Aul) Mg 26 [false] [] [] 0 [] _ hC [pq (Be hl1)] hn1
     ·unfold Ait at h
      obtain⟨y2,h3,h⟩:=Az h
      refine wn Mg 32 [true] [pt hx1 hl1,pc e82 (k82 a1 0 (w64 ((cnt 0 n0)-1)) _ rfl) [],pR pI h3] [] 0 [0] [2,3,4,8,9,10,46,47,48,71] hC [pq (A_ hi1 hl1)] ?_
      rcases cB h with⟨h4,h⟩ | ⟨h4,h⟩
      ·have hq:=hret1 _ (hr1 _ (sI h).symm)
       replace hq:=hret0 _ (hr0 _ (sI hq).symm)
       replace hq:=sI hq
       subst hq
       exact wr Mg 24 [true] [] [] 0 [] hC [pq h4]
      ·exact wx w1b (Ad0 x0 n0 a0 (n1+1)) (Ao7 a0 (n1+1)) Mg 25 [false] [] [] 0 [0] _ hC [pq h4] (sI h).symm
    ·have h:=hnext1 _ hs1
     exact wx w0b (Ad1 x0 (n0+1)) (Ao8 (n0+1)) Mg 23 [] [] [] 0 [] _ hC [] (sI h).symm
 ·have h:=hnext0 _ hs0
  replace h:=sI h
  subst h
  exact wr Mg 23 [] [] [] 0 [] hC []
theorem e61:EN 61:=en Tryz.func61
theorem Xm (x0:List Int) (x1:Int) (r:Bool) (h:My x0 x1=some r):CO 152 [.d (DS pI x0),.d (I x1)] [] (.d (Bo r)) []:=by
 unfold My at h
 refine co 9 Tryz.func152 λ C hC=>?_
 obtain⟨y1,h2,h⟩:=Az h
 replace h:=sI h
 subst h
 exact wr [0,1,4] 25 [] [pc A7r (A6q x0 x1 _ h2) []] [] 0 [] hC []
theorem Xs:EN 152:=en Tryz.func152
def Om:List Nat:=[0,1,4,5,7,8,9,16]
def Ru (x0:List (List Int)) (n0:Nat) (z0:Unit):St:=[(0,.d (DS (pL pI) x0)),(1,.d (.fn (.func 154) [] [])),(4,dI 0),(7,dI (ln x0)),(8,dI (cnt 0 n0))]
def Ya  (n0:Nat) (z0:Unit):List Res:=[]
def Aaj  (z0:Unit):St:=[(4,dI 0)]
def Abp  (z0:Unit):List Res:=[]
theorem A1n (x0:List (List Int)) (r:Int) (h:qS x0=some r):CO 187 [.d (DS (pL pI) x0),.d (.fn (.func 154) [] [])] [] (.d (I r)) []:=by
 unfold qS at h
 refine co 19 Tryz.func187 λ C hC=>?_
 refine ws Om 26 [] [pl (pL pI) x0] [] 0 [] (Ru x0 0 ()) (Ya 0 ()) hC [] ?_
 obtain⟨w0,hm0,hret0,hnext0⟩:=Ar h
 clear h
 refine wc w0 (Aaj) (Abp) ?_ λ z0 hs0=>?_
 ·refine wb ?_
  refine Bv 0 rfl λ hl0=>?_
  refine wl (Ru x0) (Ya) hm0 (λ z0 hn0=>?_) λ n0 a0 z0 w0b hi0 hx0 h hb0 hr0=>?_
  ·clear hm0
   exact wx w0 (Aaj) (Abp) Om 26 [false] [] [] 0 [] _ hC [pq (Be hl0)] hn0
  ·unfold Ab7 at h
   rcases cB h with⟨h1,h⟩ | ⟨h1,h⟩
   ·have hq:=hret0 _ (hr0 _ (sI h).symm)
    replace hq:=sI hq
    subst hq
    exact wr Om 35 [true,true] [pt hx0 hl0,pc A3i (A13 a0 _ rfl) []] [] 0 [] hC [pq (A_ hi0 hl0),pq h1]
   ·exact wx w0b (Ru x0 (n0+1)) (Ya (n0+1)) Om 36 [true,false] [pt hx0 hl0,pc A3i (A13 a0 _ rfl) []] [] 0 [] _ hC [pq (A_ hi0 hl0),pq h1] (sI h).symm
 ·have h:=hnext0 _ hs0
  replace h:=sI h
  subst h
  exact wr Om 23 [] [] [] 0 [] hC []
theorem A22:EN 187:=en Tryz.func187
theorem A7a (x0:Bg) (r:Bool) (h:zK x0=r):CO 114 [.agg (d72 x0)] [] (.d (Bo r)) []:=by
 unfold zK at h
 refine co 18 Tryz.func114 λ C hC=>?_
 subst h
 exact wr n3_ 25 [] [pc e91 (k91 x0.Rating 1 50000 _ rfl) [],⟨.when [(F91 x0.Rating 1 50000,true)] (.call 91 [dI x0.Least,dI 0,dI x0.Rating] [] (dB (F91 x0.Least 0 x0.Rating)) [] []),λ hg=>⟨e91,(k91 x0.Least 0 x0.Rating _ rfl)⟩⟩,⟨.when [(((F91 x0.Rating 1 50000)&&(F91 x0.Least 0 x0.Rating)),true)] (.call 91 [dI x0.Start,dI 0,dI 600] [] (dB (F91 x0.Start 0 600)) [] []),λ hg=>⟨e91,(k91 x0.Start 0 600 _ rfl)⟩⟩] [] 0 [] hC []
theorem A8b:EN 114:=en Tryz.func114
def Vc:List Nat:=[0,1,2,4,5,6,8,9,10,11,33]
def uW (x0:A5) (x1:Int) (n0:Nat) (z0:Unit):St:=[(1,dI x1),(2,dO 0 0),(4,dB false),(8,.d (DS pI x0.Needs)),(9,dI (ln x0.Needs)),(10,dI (cnt 0 n0))]
def Ah7 (x0:A5) (n0:Nat) (z0:Unit):List Res:=[.box 81 (d81 x0)]
def Ak2  (z0:Unit):St:=[(2,dO 0 0),(4,dB false)]
def Amj (x0:A5) (z0:Unit):List Res:=[.box 81 (d81 x0)]
theorem A69 (x0:A5) (x1:Int) (r:Bool) (h:zJ x0 x1=some r):CO 115 [.agg (d81 x0),.d (I x1)] [] (.d (Bo r)) []:=by
 unfold zJ at h
 refine co 61 Tryz.func115 λ C hC=>?_
 refine ws Vc 26 [] [pl pI x0.Needs] [] 0 [0] (uW x0 x1 0 ()) (Ah7 x0 0 ()) hC [] ?_
 obtain⟨w0,hm0,hret0,hnext0⟩:=Ar h
 clear h
 refine wc w0 (Ak2) (Amj x0) ?_ λ z0 hs0=>?_
 ·refine wb ?_
  refine Bv 8 rfl λ hl0=>?_
  refine wl (uW x0 x1) (Ah7 x0) hm0 (λ z0 hn0=>?_) λ n0 a0 z0 w0b hi0 hx0 h hb0 hr0=>?_
  ·clear hm0
   exact wx w0 (Ak2) (Amj x0) Vc 26 [false] [] [] 0 [0] _ hC [pq (Be hl0)] hn0
  ·unfold V9 at h
   obtain⟨y1,h2,h⟩:=Az h
   refine wn Vc 32 [true] [pt hx0 hl0,pc e91 (k91 a0 0 (w64 (x1-1)) _ rfl) [],pR pI h2] [] 0 [0] [1,2,4,8,9,10,33] hC [pq (A_ hi0 hl0)] ?_
   rcases cB h with⟨h3,h⟩ | ⟨h3,h⟩
   ·have hq:=hret0 _ (hr0 _ (sI h).symm)
    replace hq:=sI hq
    subst hq
    exact wr Vc 24 [true] [] [] 0 [] hC [pq h3]
   ·exact wx w0b (uW x0 x1 (n0+1)) (Ah7 x0 (n0+1)) Vc 25 [false] [] [] 0 [0] _ hC [pq h3] (sI h).symm
 ·have h:=hnext0 _ hs0
  replace h:=sI h
  subst h
  exact wr Vc 23 [] [pc e91 (k91 x0.Load 0 50000 _ rfl) [],⟨.when [(F91 x0.Load 0 50000,true)] (.call 91 [dI x0.Least,dI 0,dI x0.Load] [] (dB (F91 x0.Least 0 x0.Load)) [] []),λ hg=>⟨e91,(k91 x0.Least 0 x0.Load _ rfl)⟩⟩,⟨.when [(((F91 x0.Load 0 50000)&&(F91 x0.Least 0 x0.Load)),true)] (.call 91 [dI x0.Bl,dI 0,dI 15] [] (dB (F91 x0.Bl 0 15)) [] []),λ hg=>⟨e91,(k91 x0.Bl 0 15 _ rfl)⟩⟩,⟨.when [((((F91 x0.Load 0 50000)&&(F91 x0.Least 0 x0.Load))&&(F91 x0.Bl 0 15)),true)] (.call 91 [dI x0.Thruster,dI (-1),dI 7] [] (dB (F91 x0.Thruster (-1) 7)) [] []),λ hg=>⟨e91,(k91 x0.Thruster (-1) 7 _ rfl)⟩⟩,pL_ [(((((F91 x0.Load 0 50000)&&(F91 x0.Least 0 x0.Load))&&(F91 x0.Bl 0 15))&&(F91 x0.Thruster (-1) 7)),true)] pI x0.Needs] [] 0 [] hC []
theorem A8a:EN 115:=en Tryz.func115
def Vb:List Nat:=[0,1,4,5,6,11,12,13,16,19]
theorem Awg (x0:Int) (x1:Int) (r:Int) (h:J1 x0 x1=r):CO 118 [.d (I x0),.d (I x1)] [] (.d (I r)) []:=by
 unfold J1 at h
 refine co 20 Tryz.func118 λ C hC=>?_
 rcases cB h with⟨h1,h⟩ | ⟨h1,h⟩
 ·rcases cB h with⟨h2,h⟩ | ⟨h2,h⟩
  ·subst h
   exact wr Vb 37 [true,true] [pc Ky (Kv x0 _ rfl) [],pc Ky (Kv x1 _ rfl) []] [] 0 [] hC [pq h1,pq h2]
  ·subst h
   exact wr Vb 38 [true,false] [pc Ky (Kv x0 _ rfl) [],pc Ky (Kv x1 _ rfl) []] [] 0 [] hC [pq h1,pq h2]
 ·rcases cB h with⟨h3,h⟩ | ⟨h3,h⟩
  ·subst h
   exact wr Vb 38 [false,true] [pc Ky (Kv x0 _ rfl) [],pc Ky (Kv x1 _ rfl) []] [] 0 [] hC [pq h1,pq h3]
  ·rcases cB h with⟨h4,h⟩ | ⟨h4,h⟩
   ·subst h
    exact wr Vb 43 [false,false,true] [pc Ky (Kv x0 _ rfl) [],pc Ky (Kv x1 _ rfl) []] [] 0 [] hC [pq h1,pq h3,pq h4]
   ·rcases cB h with⟨h5,h⟩ | ⟨h5,h⟩
    ·subst h
     exact wr Vb 48 [false,false,false,true] [pc Ky (Kv x0 _ rfl) [],pc Ky (Kv x1 _ rfl) []] [] 0 [] hC [pq h1,pq h3,pq h4,pq h5]
    ·subst h
     exact wr Vb 49 [false,false,false,false] [pc Ky (Kv x0 _ rfl) [],pc Ky (Kv x1 _ rfl) []] [] 0 [] hC [pq h1,pq h3,pq h4,pq h5]
theorem Aw0:EN 118:=en Tryz.func118
theorem k90 (x0:Af) (r:Bool) (h:F90 x0=r):CO 90 [.agg (d93 x0)] [] (.d (Bo r)) []:=by
 unfold F90 at h
 refine co 21 Tryz.func90 λ C hC=>?_
 subst h
 exact wr n3_ 25 [] [pc e91 (k91 x0.State 0 3 _ rfl) [],⟨.when [(F91 x0.State 0 3,true)] (.call 91 [dI x0.Since,dI 0,dI 2147483648] [] (dB (F91 x0.Since 0 2147483648)) [] []),λ hg=>⟨e91,(k91 x0.Since 0 2147483648 _ rfl)⟩⟩,⟨.when [(((F91 x0.State 0 3)&&(F91 x0.Since 0 2147483648)),true)] (.call 91 [dI x0.Ap,dI 0,dI 6000] [] (dB (F91 x0.Ap 0 6000)) [] []),λ hg=>⟨e91,(k91 x0.Ap 0 6000 _ rfl)⟩⟩,⟨.when [((((F91 x0.State 0 3)&&(F91 x0.Since 0 2147483648))&&(F91 x0.Ap 0 6000)),true)] (.call 91 [dI x0.Phase,dI 0,dI 3599] [] (dB (F91 x0.Phase 0 3599)) [] []),λ hg=>⟨e91,(k91 x0.Phase 0 3599 _ rfl)⟩⟩] [] 0 [] hC []
theorem e90:EN 90:=en Tryz.func90
theorem k66 (x0:Ab) (r:Ab) (h:F66 x0=some r):CO 66 [.agg (d39 x0)] [] (.agg [.os 0,.os 1,.os 2,.os 3]) (zp r []):=by
 unfold F66 at h
 refine co 16 Tryz.func66 λ C hC=>?_
 obtain⟨y1,h2,y3,h4,y5,h6,y7,h8,h⟩:=Cr h
 replace h:=sI h
 subst h
 exact wr n3_ 25 [] [pc e93 (k93 x0.Ag _ h2) [],pc e94 (k94 x0.Ac _ h4) [],pc e95 (k95 x0.Aq _ h6) [],pc e96 (k96 x0.Ao _ h8) []] [] 0 [2,3,4,5] hC []
theorem e66:EN 66:=en Tryz.func66
def Av5:List Nat:=[0,1,2,3,4,6,7,23]
theorem k98 (x0:Aa) (x1:Ab) (x2:Int) (r:Int×Bool) (h:F98 x0 x1 x2=some r):CO 98 [.agg (d30 x0),.agg (d39 x1),.d (I x2)] [] (.tup [.d (I r.1),.d (Bo r.2)]) []:=by
 unfold F98 at h
 refine co 30 Tryz.func98 λ C hC=>?_
 obtain⟨y1,h2,h⟩:=Az h
 refine wn Av5 26 [] [pl q93 x1.Ac,pc e91 (k91 x2 0 (w64 ((ln x1.Ac)-1)) _ rfl) [],pR q93 h2] [] 0 [0,1] [2,3,4,6,7,23] hC [] ?_
 rcases cB h with⟨h3,h⟩ | ⟨h3,h⟩
 ·replace h:=sI h
  subst h
  exact wr Av5 24 [true] [] [] 0 [] hC [pq h3]
 ·obtain⟨y4,h5,h⟩:=Az h
  replace h:=sI h
  subst h
  exact wr Av5 25 [false] [pc A3w (A2h x0 x1 2 x2 _ h5) []] [] 0 [] hC [pq h3]
theorem e98:EN 98:=en Tryz.func98
theorem k99 (x0:Aa) (x1:Ab) (x2:Int) (r:Int×Bool) (h:F99 x0 x1 x2=some r):CO 99 [.agg (d30 x0),.agg (d39 x1),.d (I x2)] [] (.tup [.d (I r.1),.d (Bo r.2)]) []:=by
 unfold F99 at h
 refine co 14 Tryz.func99 λ C hC=>?_
 obtain⟨y1,h2,h⟩:=Az h
 replace h:=sI h
 subst h
 exact wr [0,1,2,3,4,6,7] 25 [] [pc A3w (A2h x0 x1 3 x2 _ h2) []] [] 0 [] hC []
theorem e99:EN 99:=en Tryz.func99
def Ls:List Nat:=[0,1,4,5,7,8,9,16]
def R5 (x0:List Ai) (n0:Nat) (z0:Unit):St:=[(0,.d (DS Bd x0)),(1,.d (.fn (.func 101) [] [])),(4,dI 0),(7,dI (ln x0)),(8,dI (cnt 0 n0))]
def Yg  (n0:Nat) (z0:Unit):List Res:=[]
def Aay  (z0:Unit):St:=[(4,dI 0)]
def Ab4  (z0:Unit):List Res:=[]
theorem Ar6 (x0:List Ai) (r:Int) (h:Uq x0=some r):CO 121 [.d (DS Bd x0),.d (.fn (.func 101) [] [])] [] (.d (I r)) []:=by
 unfold Uq at h
 refine co 19 Tryz.func121 λ C hC=>?_
 refine ws Ls 26 [] [pl Bd x0] [] 0 [] (R5 x0 0 ()) (Yg 0 ()) hC [] ?_
 obtain⟨w0,hm0,hret0,hnext0⟩:=Ar h
 clear h
 refine wc w0 (Aay) (Ab4) ?_ λ z0 hs0=>?_
 ·refine wb ?_
  refine Bv 0 rfl λ hl0=>?_
  refine wl (R5 x0) (Yg) hm0 (λ z0 hn0=>?_) λ n0 a0 z0 w0b hi0 hx0 h hb0 hr0=>?_
  ·clear hm0
   exact wx w0 (Aay) (Ab4) Ls 26 [false] [] [] 0 [] _ hC [pq (Be hl0)] hn0
  ·unfold Aca at h
   refine wn Ls 32 [true] [pt hx0 hl0,pc A31 (A2m a0 _ rfl) []] [] 0 [] [0,1,4,5,7,8,16] hC [pq (A_ hi0 hl0)] ?_
   rcases cB h with⟨h1,h⟩ | ⟨h1,h⟩
   ·have hq:=hret0 _ (hr0 _ (sI h).symm)
    replace hq:=sI hq
    subst hq
    exact wr Ls 24 [true] [] [] 0 [] hC [pq h1]
   ·exact wx w0b (R5 x0 (n0+1)) (Yg (n0+1)) Ls 25 [false] [] [] 0 [] _ hC [pq h1] (sI h).symm
 ·have h:=hnext0 _ hs0
  replace h:=sI h
  subst h
  exact wr Ls 23 [] [] [] 0 [] hC []
theorem Asz:EN 121:=en Tryz.func121
theorem k50 (x0:Ab) (x1:Ab) (r:Bool) (h:F50 x0 x1=some r):CO 50 [.agg (d39 x0),.agg (d39 x1)] [] (.d (Bo r)) []:=by
 unfold F50 at h
 refine co 31 Tryz.func50 λ C hC=>?_
 obtain⟨y1,h2,y3,h4,y5,h6,y7,h8,h⟩:=Cr h
 replace h:=sI h
 subst h
 exact wr n5_ 25 [] [pc e69 (k69 x0.Ag x1.Ag _ h2) [],pw e70 (λ hg=>k70 x0.Ac x1.Ac _ (Bf h4 hg)) [],pw e71 (λ hg=>k71 x0.Aq x1.Aq _ (Bf h6 hg)) [],pw e72 (λ hg=>k72 x0.Ao x1.Ao _ (Bf h8 hg)) []] [] 0 [] hC []
theorem e50:EN 50:=en Tryz.func50
theorem A45 (x0:Aw) (x1c0:As) (r:Bool×As) (h:Ga x0 x1c0=r):CO 52 [.agg (d84 x0),.d (.o 0 0)] [.box 111 [.fn (.func 48) [] [.o 1 0]],.box 43 (d43 x1c0)] (.d (Bo r.1)) [.box 111 [.fn (.func 48) [] [.o 1 0]],.box 43 (d43 r.2)]:=by
 unfold Ga at h
 refine co 16 Tryz.func52 λ C hC=>?_
 subst h
 exact wr n4_ 25 [] [pb Ayf (Aya x0.High x1c0 _ rfl),⟨.when [(!(Qy x0.High x1c0),false)] (.callB 48 [dI x0.Low,.d (.ip [.v (.int .i64 x1c0.Time),.s (x1c0.Power.Ag.map pB),.s (x1c0.Power.Ac.map q93),.s (x1c0.Power.Aq.map pI),.s (x1c0.Power.Ao.map q96),.s (x1c0.A7.map q84),.s (x1c0.Bc.map q65)])] (dB (Qy x0.Low x1c0)) [[]] 0 []),λ hg=>Iv ⟨Ayf,(Aya x0.Low x1c0 _ rfl)⟩⟩] [] 2 [0,1] hC []
theorem A5q:EN 52:=en Tryz.func52
def Hk:List Nat:=[0,1,2,3,4,6,7,14,21,27,39]
def uZ (x1:Am) (z0:Bool):St:=[(2,dO 0 0),(3,dO 1 0),(4,dB false),(6,dI x1.Kind),(7,dB z0)]
def yL (x0:Aa) (x1:Am) (z0:Bool):List Res:=[.box 30 (d30 x0),.box 63 (d63 x1)]
def uY (x1:Am) (z1:Bool):St:=[(2,dO 0 0),(3,dO 1 0),(4,dB false),(6,dI x1.Kind),(14,dB z1)]
def yK (x0:Aa) (x1:Am) (z1:Bool):List Res:=[.box 30 (d30 x0),.box 63 (d63 x1)]
theorem A2k (x0 : Aa) (x1 : Am) (r : Bool) (h : zQ x0 x1 = some r) : CO 108 [.agg (d30 x0), .agg (d63 x1)] [] (.d (Bo r)) [] := by
 unfold zQ at h
 refine co 48 Tryz.func108 λ C hC=>?_
 refine wn Hk 30 [] [] [] 0 [0,1] [2,3,4,6,7] hC [] ?_
 obtain⟨w0,h,hret0,hnext0⟩:=Ar h
 refine wc w0 (uZ x1) (yL x0 x1) ?_ λ z0 hs0=>?_
 ·unfold zP at h
  rcases cB h with⟨h1,h⟩ | ⟨h1,h⟩
  ·exact wx w0 (uZ x1) (yL x0 x1) Hk 23 [true] [] [] 0 [0,1] _ hC [pq h1] (sI h).symm
  ·exact wx w0 (uZ x1) (yL x0 x1) Hk 23 [false] [] [] 0 [0,1] _ hC [pq h1] (sI h).symm
 ·clear h; have h := hnext0 _ hs0
  rcases cB h with⟨h2,h⟩ | ⟨h2,h⟩
  ·replace h:=sI h
   subst h
   exact wr Hk 24 [true] [pc Xt (Xn x0 2 x1.Unit _ rfl) []] [] 0 [] hC [pq h2]
  ·refine wn Hk 25 [false] [] [] 0 [0,1] [2,3,4,6,14] hC [pq h2] ?_
   obtain⟨w1,h,hret1,hnext1⟩:=Ar h
   refine wc w1 (uY x1) (yK x0 x1) ?_ λ z1 hs1=>?_
   ·unfold zO at h
    rcases cB h with⟨h3,h⟩ | ⟨h3,h⟩
    ·exact wx w1 (uY x1) (yK x0 x1) Hk 23 [true] [] [] 0 [0,1] _ hC [pq h3] (sI h).symm
    ·exact wx w1 (uY x1) (yK x0 x1) Hk 23 [false] [] [] 0 [0,1] _ hC [pq h3] (sI h).symm
   ·clear h;have h:=hnext1 _ hs1
    rcases cB h with⟨h4,h⟩ | ⟨h4,h⟩
    ·replace h:=sI h
     subst h
     exact wr Hk 24 [true] [pc Xt (Xn x0 1 x1.Unit _ rfl) []] [] 0 [] hC [pq h4]
    ·rcases cB h with⟨h5,h⟩ | ⟨h5,h⟩
     ·replace h:=sI h
      subst h
      exact wr Hk 27 [false,true] [pc Xt (Xn x0 4 x1.Unit _ rfl) []] [] 0 [] hC [pq h4,pq h5]
     ·rcases cB h with⟨h6,h⟩ | ⟨h6,h⟩
      ·replace h:=sI h
       subst h
       exact wr Hk 30 [false,false,true] [pc Xt (Xn x0 1 x1.Unit _ rfl) [],⟨.when [(J0 x0 1 x1.Unit,true)] (.call 135 [.agg (d30 x0),dI 3,dI x1.Value] [] (dB (J0 x0 3 x1.Value)) [] []),λ hg=>⟨Xt,(Xn x0 3 x1.Value _ rfl)⟩⟩] [] 0 [] hC [pq h4,pq h5,pq h6]
      ·rcases cB h with⟨h7,h⟩ | ⟨h7,h⟩
       ·replace h:=sI h
        subst h
        exact wr Hk 36 [false,false,false,true,true] [pc Xt (Xn x0 x1.Value x1.Unit _ rfl) []] [] 0 [] hC [pq h4,pq h5,pq h6,pq h7,pq h7]
       ·rcases cB h with⟨h8,h⟩ | ⟨h8,h⟩
        ·replace h:=sI h
         subst h
         exact wr Hk 36 [false,false,false,false,true] [pc Xt (Xn x0 x1.Value x1.Unit _ rfl) []] [] 0 [] hC [pq h4,pq h5,pq h6,pq h7,pq h8]
        ·replace h:=sI h
         subst h
         exact wr Hk 38 [false,false,false,false,false] [] [] 0 [] hC [pq h4,pq h5,pq h6,pq h7,pq h8]
theorem A3z:EN 108:=en Tryz.func108
theorem A6o (x0:List Al) (x1:Al) (r:Bool) (h:App x0 x1=some r):CO 198 [.d (DS q96 x0),.agg (d96 x1)] [] (.d (Bo r)) []:=by
 unfold App at h
 refine co 9 Tryz.func198 λ C hC=>?_
 obtain⟨y1,h2,h⟩:=Az h
 replace h:=sI h
 subst h
 exact wr [0,1,3,4] 25 [] [pc A7l (A6k x0 x1 _ h2) []] [] 0 [] hC []
theorem A7p:EN 198:=en Tryz.func198
theorem A6i (x0:Int) (x1:Int) (r:Int) (h:Apm x0 x1=r):CO 215 [.d (I x0),.d (I x1)] [] (.d (I r)) []:=by
 unfold Apm at h
 refine co 17 Tryz.func215 λ C hC=>?_
 refine wn [0,1,4,5,13] 28 [] [pc An2 (Anl x1 _ rfl) [],pc An2 (Anl x0 _ rfl) [],pc An2 (Anl (w64 ((Gu x1)-(Gu x0))) _ rfl) []] [] 0 [] [4,5,13] hC [] ?_
 rcases cB h with⟨h1,h⟩ | ⟨h1,h⟩
 ·subst h
  exact wr [0,1,4,5,13] 25 [true] [] [] 0 [] hC [pq h1]
 ·subst h
  exact wr [0,1,4,5,13] 25 [false] [] [] 0 [] hC [pq h1]
theorem A7j:EN 215:=en Tryz.func215
def Ln:List Nat:=[0,1,4,5,7,8,9,16]
def Rw (x0:List Aj) (n0:Nat) (z0:Unit):St:=[(0,.d (DS q70 x0)),(1,.d (.fn (.func 211) [] [.o 0 0])),(4,dI 0),(7,dI (ln x0)),(8,dI (cnt 0 n0))]
def Yc (x1c0:Int) (n0:Nat) (z0:Unit):List Res:=[.box 3 [I x1c0]]
def Aam  (z0:Unit):St:=[(4,dI 0)]
def Abs (x1c0:Int) (z0:Unit):List Res:=[.box 3 [I x1c0]]
theorem A1t (x0:List Aj) (x1c0:Int) (r:Int×Int) (h:qV x0 x1c0=some r):CO 172 [.d (DS q70 x0),.d (.fn (.func 211) [] [.o 0 0])] [.box 3 [I x1c0]] (.d (I r.1)) [.box 3 [I r.2]]:=by
 unfold qV at h
 refine co 19 Tryz.func172 λ C hC=>?_
 refine ws Ln 26 [] [pl q70 x0] [] 1 [0] (Rw x0 0 ()) (Yc x1c0 0 ()) hC [] ?_
 obtain⟨w0,hm0,hret0,hnext0⟩:=Ar h
 clear h
 refine wc w0 (Aam) (Abs x1c0) ?_ λ z0 hs0=>?_
 ·refine wb ?_
  refine Bv 0 rfl λ hl0=>?_
  refine wl (Rw x0) (Yc x1c0) hm0 (λ z0 hn0=>?_) λ n0 a0 z0 w0b hi0 hx0 h hb0 hr0=>?_
  ·clear hm0
   exact wx w0 (Aam) (Abs x1c0) Ln 26 [false] [] [] 1 [0] _ hC [pq (Be hl0)] hn0
  ·unfold Nu at h
   refine wn Ln 32 [true] [pt hx0 hl0,pb A2v (A1g a0 x1c0 _ rfl)] [] 1 [0] [0,1,4,5,7,8,16] hC [pq (A_ hi0 hl0)] ?_
   rcases cB h with⟨h1,h⟩ | ⟨h1,h⟩
   ·have hq:=hret0 _ (hr0 _ (sI h).symm)
    replace hq:=sI hq
    subst hq
    exact wr Ln 24 [true] [] [] 1 [0] hC [pq h1]
   ·exact wx w0b (Rw x0 (n0+1)) (Yc x1c0 (n0+1)) Ln 25 [false] [] [] 1 [0] _ hC [pq h1] (sI h).symm
 ·have h:=hnext0 _ hs0
  replace h:=sI h
  subst h
  exact wr Ln 23 [] [] [] 1 [0] hC []
theorem A28:EN 172:=en Tryz.func172
def Ll:List Nat:=[0,1,2,4,6,7,8,9,10,11,17,31]
def M0 (x0:List Al) (z0:Int×Int):St:=[(0,.d (DS q96 x0)),(2,.d (.fn (.func 178) [] [])),(4,dO 0 0),(6,dI 0),(7,dB false),(8,dI (ln x0)),(9,dI z0.1),(10,dI z0.2)]
def Qj (x1:Al) (z0:Int×Int):List Res:=[.box 96 (d96 x1)]
def Aak (x0:List Al) (z0:Int×Int):St:=[(0,.d (DS q96 x0)),(2,.d (.fn (.func 178) [] [])),(4,dO 0 0),(6,dI 0),(7,dB false),(8,dI (ln x0)),(9,dI z0.1)]
def Abq (x1:Al) (z0:Int×Int):List Res:=[.box 96 (d96 x1)]
theorem Ar3 (x0:List Al) (x1:Al) (r:Int×Bool) (h:T1 x0 x1=some r):CO 177 [.d (DS q96 x0),.agg (d96 x1),.d (.fn (.func 178) [] [])] [] (.tup [.d (I r.1),.d (Bo r.2)]) []:=by
 unfold T1 at h
 refine co 49 Tryz.func177 λ C hC=>?_
 refine ws Ll 28 [] [pl q96 x0] [] 0 [0] (M0 x0 (0,(ln x0))) (Qj x1 (0,(ln x0))) hC [] ?_
 obtain⟨w0,hm0,hret0,hnext0⟩:=Ar h
 clear h
 refine wc w0 (Aak x0) (Abq x1) ?_ λ z0 hs0=>?_
 ·refine wb ?_
  refine ww (M0 x0) (Qj x1) hm0 λ z0 w0b h hb0 hr0=>?_
  unfold T0 at h
  rcases cB h with⟨h1,h⟩ | ⟨h1,h⟩
  ·obtain⟨y2,h3,h⟩:=Az h
   refine wn Ll 31 [true] [pr q96 h3,pc A25 (A1q y2 x1 _ rfl) []] [] 0 [0] [0,2,4,6,7,8,9,10,11,31] hC [pq h1] ?_
   rcases cB h with⟨h4,h⟩ | ⟨h4,h⟩
   ·exact wx w0b (M0 x0) (Qj x1) Ll 24 [true] [] [] 0 [0] _ hC [pq h4] (sI h).symm
   ·exact wx w0b (M0 x0) (Qj x1) Ll 24 [false] [] [] 0 [0] _ hC [pq h4] (sI h).symm
  ·exact wx w0 (Aak x0) (Abq x1) Ll 26 [false] [] [] 0 [0] (z0.1,z0.2) hC [pq h1] (hb0 _ (sI h).symm)
 ·have h:=hnext0 _ hs0
  obtain⟨y5,h6,h⟩:=Az h
  replace h:=sI h
  subst h
  exact wr Ll 23 [] [pR q96 h6,⟨.when [(decide (z0.1<(ln x0)),true)] (.call 178 [.agg (d96 y5),.agg (d96 x1)] [] (dI (Q5 y5 x1)) [] []),λ hg=>⟨A25,(A1q y5 x1 _ rfl)⟩⟩] [] 0 [] hC []
theorem Asw:EN 177:=en Tryz.func177
def He:List Nat:=[0,1,4,5,6,8,13,14,15,16,32,38,39,40,41]
def M4 (x0:Ay) (n0:Nat) (z0:(List Int)):St:=[(0,dO 0 0),(1,.d (.fn (.func 194) [] [.o 6 0])),(4,dS 7),(13,.d (DS q70 x0.Ak.Ad)),(14,dI (ln x0.Ak.Ad)),(15,dI (cnt 0 n0))]
def Qn (x0:Ay) (x1c0:Int) (n0:Nat) (z0:(List Int)):List Res:=(.box 214 (zb x0.Ak [.os 8,.os 9,.os 10,.os 11,.os 12]) :: .non :: .non :: .non :: .non :: .non :: .box 3 [I x1c0]::v0_ z0::zp x0.Au [v6_ x0.acts])
def Aar  (z0:(List Int)):St:=[(0,dO 0 0),(4,dS 7)]
def Abx (x0:Ay) (x1c0:Int) (z0:(List Int)):List Res:=(.box 214 (zb x0.Ak [.os 8,.os 9,.os 10,.os 11,.os 12]) :: .non :: .non :: .non :: .non :: .non :: .box 3 [I x1c0]::v0_ z0::zp x0.Au [v6_ x0.acts])
def Rx (z0:(List Int)) (n1:Nat) (z1:Sg8):St:=[(0,dO 0 0),(38,dS 7),(39,dI (ln z0)),(40,dI (cnt 0 n1))]
def Yd (x1c0:Int) (z0:(List Int)) (n1:Nat) (z1:Sg8):List Res:=[.box 214 [I z1.1,DS q70 z1.2.1,DS q72 z1.2.2.1,DS q81 (g3_ z1),I (g4_ z1),I (g5_ z1),.os 8,.os 9,.os 10,.os 11,.os 12],.non,.non,.non,.non,.non,.box 3 [I x1c0],v0_ z0,v2_ (g6_ z1),v4_ (g7_ z1),v0_ (g8_ z1),v3_ (g9_ z1),v6_ (Fm z1)]
def Aaq  (z1:Sg8):St:=[]
def Abw (x1c0:Int) (z1:Sg8):List Res:=[.box 214 [I z1.1,DS q70 z1.2.1,DS q72 z1.2.2.1,DS q81 (g3_ z1),I (g4_ z1),I (g5_ z1),.os 7,.os 8,.os 9,.os 10,.os 11],.non,.non,.non,.non,.non,.box 3 [I x1c0],v2_ (g6_ z1),v4_ (g7_ z1),v0_ (g8_ z1),v3_ (g9_ z1),v6_ (Fm z1)]
theorem A10 (x0:Ay) (x1c0:Int) (r:Ay×Int) (h:Uc x0 x1c0=some r):CO 156 [.d (.o 0 0),.d (.fn (.func 194) [] [.o 6 0])] (.box 214 (zb x0.Ak [.os 1,.os 2,.os 3,.os 4,.os 5])::zp x0.Au [v6_ x0.acts,.box 3 [I x1c0]]) (.tup []) (.box 214 (zb r.1.Ak [.os 7,.os 8,.os 9,.os 10,.os 11]) :: .non :: .non :: .non :: .non :: .non :: .box 3 [I r.2]::zp r.1.Au [v6_ r.1.acts]):=by
 unfold Uc at h
 refine co 48 Tryz.func156 λ C hC=>?_
 refine ws He 26 [] [pl q70 x0.Ak.Ad] [.own 4 3 1,.mv 1,.mv 2,.mv 3,.mv 4,.mv 5] 7 H2 (M4 x0 0 ([]:List Int)) (Qn x0 x1c0 0 ([]:List Int)) hC [] ?_
 obtain⟨w0,hm0,hret0,hnext0⟩:=Ar h
 clear h
 refine wc w0 (Aar) (Abx x0 x1c0) ?_ λ z0 hs0=>?_
 ·refine wb ?_
  refine Bv 13 rfl λ hl0=>?_
  refine wl (M4 x0) (Qn x0 x1c0) hm0 (λ z0 hn0=>?_) λ n0 a0 z0 w0b hi0 hx0 h hb0 hr0=>?_
  ·clear hm0
   exact wx w0 (Aar) (Abx x0 x1c0) He 26 [false] [] [] 7 H2 _ hC [pq (Be hl0)] hn0
  ·unfold Ub at h
   obtain⟨y1,h2,h⟩:=Az h
   refine wn He 32 [true] [pt hx0 hl0,pr pB h2,pn pB h2,⟨.when [(y1,true)] (.callB 194 [.agg (d70 a0),.d (.ip [.v (.int .i64 x1c0)])] (dB (Tx a0 x1c0)) [[]] 0 []),λ hg=>Iv ⟨A2y,(A1j a0 x1c0 _ rfl)⟩⟩] [] 7 H2 [0,1,4,5,13,14,15,32] hC [pq (A_ hi0 hl0)] ?_
   rcases cB h with⟨h3,h⟩ | ⟨h3,h⟩
   ·obtain⟨y4,h5,h⟩:=Az h
    exact wx w0b (M4 x0 (n0+1)) (Qn x0 x1c0 (n0+1)) He 25 [true] [pa pI 1 h5] [] 7 [0,1,2,3,4,5,6,13,8,9,10,11,12] _ hC [pq h3] (sI h).symm
   ·exact wx w0b (M4 x0 (n0+1)) (Qn x0 x1c0 (n0+1)) He 25 [false] [] [] 7 H2 _ hC [pq h3] (sI h).symm
 ·have h:=hnext0 _ hs0
  refine ws He 23 [] [pl pI z0] [] 7 H2 (Rx z0 0 (zt x0.Ak (zu x0.Au x0.acts))) (Yd x1c0 z0 0 (zt x0.Ak (zu x0.Au x0.acts))) hC [] ?_
  obtain⟨w1,hm1,hret1,hnext1⟩:=Ar h
  clear h
  refine wc w1 (Aaq) (Abw x1c0) ?_ λ z1 hs1=>?_
  ·refine wb ?_
   refine Cj 38 7 rfl rfl λ hl1=>?_
   refine wl (Rx z0) (Yd x1c0 z0) hm1 (λ z1 hn1=>?_) λ n1 a1 z1 w1b hi1 hx1 h hb1 hr1=>?_
   ·clear hm1
    exact wx w1 (Aaq) (Abw x1c0) He 26 [false] [] [] 7 [0,1,2,3,4,5,6,8,9,10,11,12] _ hC [pq (Be hl1)] hn1
   ·unfold Ab8 at h
    obtain⟨y6,h7,h⟩:=Az h
    exact wx w1b (Rx z0 (n1+1)) (Yd x1c0 z0 (n1+1)) He 33 [true] [pr pI (Bn hx1 hl1),pn pI (Bn hx1 hl1),pc Agk (Aft (⟨(⟨z1.1,z1.2.1,z1.2.2.1,(g3_ z1),(g4_ z1),(g5_ z1)⟩:Aa),(⟨(g6_ z1),(g7_ z1),(g8_ z1),(g9_ z1)⟩:Ab),(Fm z1)⟩:Ay) a1 _ h7) [0,8,9,10,11,12]] [] 7 [0,1,2,3,4,5,6,7,8,9,10,11,13] _ hC [pq (A_ hi1 hl1)] (sI h).symm
  ·have h:=hnext1 _ hs1
   replace h:=sI h
   subst h
   exact wf He 20 [] [] [] 7 Fi hC []
theorem A3f:EN 156:=en Tryz.func156
theorem A6v (x0:Int) (x1:Int) (r:Int×Int) (h:T5 x0 x1=r):CO 164 [.d (.p (.v (.int .u64 x0))),.d (.p (.v (.int .u64 x1)))] [] (.tup [.d (.p (.v (.int .u64 r.1))),.d (.p (.v (.int .u64 r.2)))]) []:=by
 unfold T5 at h
 refine co 30 Tryz.func164 λ C hC=>?_
 subst h
 exact wr [0,1,4,5,6,7,8,9] 30 [false] [pc A7q (A6p x0 x1 _ rfl) []] [] 0 [] hC [⟨(false,false),rfl⟩]
theorem A7w:EN 164:=en Tryz.func164
theorem k43 (x0:Aa) (r:Int) (h:F43 x0=some r):CO 43 [.agg (d30 x0)] [] (.d (I r)) []:=by
 unfold F43 at h
 refine co 62 Tryz.func43 λ C hC=>?_
 refine wn [0,1,2,28,61] 26 [] [pL_ [(((decide (x0.An<1)) || (decide (x0.An>6))),false)] q70 x0.Ad,pL_ [((((decide (x0.An<1)) || (decide (x0.An>6))) || (decide ((ln x0.Ad)>24))),false)] q72 x0.Ac,pL_ [(((((decide (x0.An<1)) || (decide (x0.An>6))) || (decide ((ln x0.Ad)>24))) || (decide ((ln x0.Ac)>8))),false)] q81 x0.Ae] [] 0 [0] [1,2,28] hC [] ?_
 rcases cB h with⟨h1,h⟩ | ⟨h1,h⟩
 ·replace h:=sI h
  subst h
  exact wr [0,1,2,28,61] 24 [true] [] [] 0 [] hC [pq h1]
 ·obtain⟨y2,h3,y4,h5,y6,h7,h⟩:=B0 h
  refine wn [0,1,2,28,61] 26 [false] [pc e59 (k59 x0 _ h3) [],pw e60 (λ hg=>k60 x0 _ (Bf h5 hg)) [],pw e61 (λ hg=>k61 x0 _ (Bf h7 hg)) []] [] 0 [] [2,61] hC [pq h1] ?_
  rcases cB h with⟨h8,h⟩ | ⟨h8,h⟩
  ·replace h:=sI h
   subst h
   exact wr [0,1,2,28,61] 24 [true] [] [] 0 [] hC [pq h8]
  ·replace h:=sI h
   subst h
   exact wr [0,1,2,28,61] 25 [false] [] [] 0 [] hC [pq h8]
theorem e43:EN 43:=en Tryz.func43
theorem A14 (x0:List (List Int)) (r:Bool) (h:Uh x0=some r):CO 153 [.d (DS (pL pI) x0),.d (.fn (.func 154) [] [])] [] (.d (Bo r)) []:=by
 unfold Uh at h
 refine co 9 Tryz.func153 λ C hC=>?_
 obtain⟨y1,h2,h⟩:=Az h
 replace h:=sI h
 subst h
 exact wr [0,1,4] 25 [] [pc A22 (A1n x0 _ h2) []] [] 0 [] hC []
theorem A3j:EN 153:=en Tryz.func153
def vI:List Nat:=[0,1,2,4,5,6,7,8,9,10,49]
def Adl (x1:List Al) (n0:Nat) (z0:Unit):St:=[(1,.d (DS q96 x1)),(2,dO 0 0),(4,dB false),(7,.d (DS q96 x1)),(8,dI (ln x1)),(9,dI (cnt 0 n0))]
def Aos (x0:Aa) (n0:Nat) (z0:Unit):List Res:=[.box 30 (d30 x0)]
def Aqi (x1:List Al) (z0:Unit):St:=[(1,.d (DS q96 x1)),(4,dB false)]
def At1  (z0:Unit):List Res:=[]
theorem k87 (x0:Aa) (x1:List Al) (r:Bool) (h:F87 x0 x1=some r):CO 87 [.agg (d30 x0),.d (DS q96 x1)] [] (.d (Bo r)) []:=by
 unfold F87 at h
 refine co 54 Tryz.func87 λ C hC=>?_
 refine ws vI 26 [] [pl q96 x1] [] 0 [0] (Adl x1 0 ()) (Aos x0 0 ()) hC [] ?_
 obtain⟨w0,hm0,hret0,hnext0⟩:=Ar h
 clear h
 refine wc w0 (Aqi x1) (At1) ?_ λ z0 hs0=>?_
 ·refine wb ?_
  refine Bv 7 rfl λ hl0=>?_
  refine wl (Adl x1) (Aos x0) hm0 (λ z0 hn0=>?_) λ n0 a0 z0 w0b hi0 hx0 h hb0 hr0=>?_
  ·clear hm0
   exact wx w0 (Aqi x1) (At1) vI 26 [false] [] [] 0 [] _ hC [pq (Be hl0)] hn0
  ·unfold qC at h
   obtain⟨y1,h2,y3,h4,y5,h6,h⟩:=B0 h
   refine wn vI 32 [true] [pt hx0 hl0,pc A79 (A68 x0 a0.Kind _ rfl) [],pc e91 (k91 a0.Number 0 (w64 ((K3 x0 a0.Kind)-1)) _ rfl) [],pR q96 h2,⟨.when [(!(F91 a0.Number 0 (w64 ((K3 x0 a0.Kind)-1))),false),(decide ((cnt 0 n0)>0),true)] (.call 118 [dI y1.Kind,dI a0.Kind] [] (dI (J1 y1.Kind a0.Kind)) [] []),λ hg=>⟨Aw0,(Awg y1.Kind a0.Kind _ rfl)⟩⟩,pR q96 h4,⟨.when [(!(F91 a0.Number 0 (w64 ((K3 x0 a0.Kind)-1))),false),(decide ((cnt 0 n0)>0),true)] (.call 118 [dI y3.Number,dI a0.Number] [] (dI (J1 y3.Number a0.Number)) [] []),λ hg=>⟨Aw0,(Awg y3.Number a0.Number _ rfl)⟩⟩,pw A78 (λ hg=>A67 [J1 y1.Kind a0.Kind,J1 y3.Number a0.Number] _ (Bf h6 hg)) []] [] 0 [0] [1,2,4,7,8,9,49] hC [pq (A_ hi0 hl0)] ?_
   rcases cB h with⟨h7,h⟩ | ⟨h7,h⟩
   ·have hq:=hret0 _ (hr0 _ (sI h).symm)
    replace hq:=sI hq
    subst hq
    exact wr vI 24 [true] [] [] 0 [] hC [pq h7]
   ·exact wx w0b (Adl x1 (n0+1)) (Aos x0 (n0+1)) vI 25 [false] [] [] 0 [0] _ hC [pq h7] (sI h).symm
 ·have h:=hnext0 _ hs0
  replace h:=sI h
  subst h
  exact wr vI 23 [] [pl q96 x1] [] 0 [] hC []
theorem e87:EN 87:=en Tryz.func87
def Lm:List Nat:=[0,1,4,5,7,8,9,16]
def Rv (x0:List Aj) (n0:Nat) (z0:Unit):St:=[(0,.d (DS q70 x0)),(1,.d (.fn (.func 173) [] [.o 0 0])),(4,dI 0),(7,dI (ln x0)),(8,dI (cnt 0 n0))]
def Yb (x1c0:Int) (n0:Nat) (z0:Unit):List Res:=[.box 3 [I x1c0]]
def Aal  (z0:Unit):St:=[(4,dI 0)]
def Abr (x1c0:Int) (z0:Unit):List Res:=[.box 3 [I x1c0]]
theorem A1s (x0:List Aj) (x1c0:Int) (r:Int×Int) (h:qU x0 x1c0=some r):CO 172 [.d (DS q70 x0),.d (.fn (.func 173) [] [.o 0 0])] [.box 3 [I x1c0]] (.d (I r.1)) [.box 3 [I r.2]]:=by
 unfold qU at h
 refine co 19 Tryz.func172 λ C hC=>?_
 refine ws Lm 26 [] [pl q70 x0] [] 1 [0] (Rv x0 0 ()) (Yb x1c0 0 ()) hC [] ?_
 obtain⟨w0,hm0,hret0,hnext0⟩:=Ar h
 clear h
 refine wc w0 (Aal) (Abr x1c0) ?_ λ z0 hs0=>?_
 ·refine wb ?_
  refine Bv 0 rfl λ hl0=>?_
  refine wl (Rv x0) (Yb x1c0) hm0 (λ z0 hn0=>?_) λ n0 a0 z0 w0b hi0 hx0 h hb0 hr0=>?_
  ·clear hm0
   exact wx w0 (Aal) (Abr x1c0) Lm 26 [false] [] [] 1 [0] _ hC [pq (Be hl0)] hn0
  ·unfold Nt at h
   refine wn Lm 32 [true] [pt hx0 hl0,pb A26 (A1r a0 x1c0 _ rfl)] [] 1 [0] [0,1,4,5,7,8,16] hC [pq (A_ hi0 hl0)] ?_
   rcases cB h with⟨h1,h⟩ | ⟨h1,h⟩
   ·have hq:=hret0 _ (hr0 _ (sI h).symm)
    replace hq:=sI hq
    subst hq
    exact wr Lm 24 [true] [] [] 1 [0] hC [pq h1]
   ·exact wx w0b (Rv x0 (n0+1)) (Yb x1c0 (n0+1)) Lm 25 [false] [] [] 1 [0] _ hC [pq h1] (sI h).symm
 ·have h:=hnext0 _ hs0
  replace h:=sI h
  subst h
  exact wr Lm 23 [] [] [] 1 [0] hC []
theorem A27:EN 172:=en Tryz.func172
theorem k23 (x0:As) (r:Int) (h:F23 x0=some r):CO 23 [.agg (d43 x0)] [] (.d (.p (.v (.int .u64 r)))) []:=by
 unfold F23 at h
 refine co 7 Tryz.func23 λ C hC=>?_
 obtain⟨y1,h2,y3,h4,h⟩:=Bb h
 replace h:=sI h
 subst h
 exact wr n3_ 25 [] [pc e42 (k42  _ rfl) [],pc e22 (k22 x0 _ h2) [],pc e41 (k41 F42 y1 _ h4) []] [] 0 [] hC []
theorem e23:EN 23:=en Tryz.func23
theorem k19 (x0:Ah) (x1:Int) (r:Int×Ah) (h:F19 x0 x1=some r):CO 19 [.d (.o 0 0),.d (I x1)] [.box 77 (d77 x0)] (.d (I r.1)) [.box 77 (d77 r.2)]:=by
 unfold F19 at h
 refine co 35 Tryz.func19 λ C hC=>?_
 rcases cB h with⟨h1,h⟩ | ⟨h1,h⟩
 ·replace h:=sI h
  subst h
  exact wr [0,1,4,14] 29 [true] [pl pI x0.L] [] 1 [0] hC [pq h1]
 ·obtain⟨y2,h3,y4,h5,h⟩:=Bb h
  replace h:=sI h
  subst h
  exact wr [0,1,4,14] 32 [false] [pl pI x0.L,pr pI h3,pc e35 (k35 y2 x1 _ h5) []] [] 1 [0] hC [pq h1]
theorem e19:EN 19:=en Tryz.func19
def Afn:List Nat:=[0,1,2,3,4,6,7,16,25,33]
theorem k64 (x0:Aa) (x1:Al) (r:Bool) (h:F64 x0 x1=r):CO 64 [.agg (d30 x0),.agg (d96 x1)] [] (.d (Bo r)) []:=by
 unfold F64 at h
 refine co 42 Tryz.func64 λ C hC=>?_
 rcases cB h with⟨h1,h⟩ | ⟨h1,h⟩
 ·subst h
  exact wr Afn 32 [true] [pl q72 x0.Ac,pc e82 (k82 x1.Number 0 (w64 ((ln x0.Ac)-1)) _ rfl) []] [] 0 [] hC [pq h1]
 ·rcases cB h with⟨h2,h⟩ | ⟨h2,h⟩
  ·subst h
   exact wr Afn 35 [false,true] [pl q70 x0.Ad,pc e82 (k82 x1.Number 0 (w64 ((ln x0.Ad)-1)) _ rfl) []] [] 0 [] hC [pq h1,pq h2]
  ·rcases cB h with⟨h3,h⟩ | ⟨h3,h⟩
   ·subst h
    exact wr Afn 38 [false,false,true] [pc e82 (k82 x1.Number 0 (w64 (x0.An-1)) _ rfl) []] [] 0 [] hC [pq h1,pq h2,pq h3]
   ·rcases cB h with⟨h4,h⟩ | ⟨h4,h⟩
    ·subst h
     exact wr Afn 41 [false,false,false,true] [pl q81 x0.Ae,pc e82 (k82 x1.Number 0 (w64 ((ln x0.Ae)-1)) _ rfl) []] [] 0 [] hC [pq h1,pq h2,pq h3,pq h4]
    ·subst h
     exact wr Afn 43 [false,false,false,false] [] [] 0 [] hC [pq h1,pq h2,pq h3,pq h4]
theorem e64:EN 64:=en Tryz.func64
theorem k89 (x0:Af) (r:Bool) (h:F89 x0=r):CO 89 [.agg (d93 x0)] [] (.d (Bo r)) []:=by
 unfold F89 at h
 refine co 6 Tryz.func89 λ C hC=>?_
 subst h
 exact wr n3_ 25 [] [pc e90 (k90 x0 _ rfl) []] [] 0 [] hC []
theorem e89:EN 89:=en Tryz.func89
def Jt:List Nat:=[0,1,4,5,6,7,12,19,29]
def M9  (z0:Int×Int×(List Ai)):St:=[(0,dS 0),(1,.d (.fn (.func 101) [] [])),(4,.d (DS Bd [])),(5,dI z0.1),(6,dI z0.2.1)]
def Qt  (z0:Int×Int×(List Ai)):List Res:=[v8_ z0.2.2]
def Aa0  (z0:Int×Int×(List Ai)):St:=[(0,dS 0),(4,.d (DS Bd [])),(5,dI z0.1)]
def Ab6  (z0:Int×Int×(List Ai)):List Res:=[v8_ z0.2.2]
theorem Ar8 (x0:List Ai) (r:(List Ai)) (h:Pb x0=some r):CO 100 [.d (.os 0),.d (.fn (.func 101) [] [])] [.sl 137 3 (x0.map Bd)] (.d (.os 1)) [.non,.sl 137 3 (r.map Bd)]:=by
 unfold Pb at h
 refine co 42 Tryz.func100 λ C hC=>?_
 obtain⟨y1,h2,h⟩:=Az h
 rcases cB h with⟨h3,h⟩ | ⟨h3,h⟩
 ·replace h:=sI h
  subst h
  exact wr Jt 31 [true] [pb Asz (Ar6 x0 _ h2)] [.mv 0] 1 [0,1] hC [pq h3]
 ·refine ws Jt 33 [false] [pb Asz (Ar6 x0 _ h2)] [] 1 [0] (M9 (y1,w64 (y1+1),x0)) (Qt (y1,w64 (y1+1),x0)) hC [pq h3] ?_
  obtain⟨w0,hm0,hret0,hnext0⟩:=Ar h
  clear h
  refine wc w0 (Aa0) (Ab6) ?_ λ z0 hs0=>?_
  ·refine wb ?_
   refine ww (M9) (Qt) hm0 λ z0 w0b h hb0 hr0=>?_
   unfold Ut at h
   rcases cB h with⟨h4,h⟩ | ⟨h4,h⟩
   ·obtain⟨y5,h6,h⟩:=Az h
    refine wn Jt 32 [true] [pl Bd z0.2.2,pr Bd h6,pn Bd h6,pc A31 (A2m y5 _ rfl) []] [] 1 [0,1] [0,1,4,5,6,7,29] hC [pq h4] ?_
    rcases cB h with⟨h7,h⟩ | ⟨h7,h⟩
    ·obtain⟨y8,h9,y10,h11,h⟩:=Bb h
     exact wx w0b (M9) (Qt) Jt 27 [true] [pr Bd h9,pu Bd h9 h11] [] 1 [0] _ hC [pq h7] (sI h).symm
    ·exact wx w0b (M9) (Qt) Jt 25 [false] [] [] 1 [0] _ hC [pq h7] (sI h).symm
   ·exact wx w0 (Aa0) (Ab6) Jt 26 [false] [pl Bd z0.2.2] [] 1 [0] (z0.1,z0.2.1,z0.2.2) hC [pq h4] (hb0 _ (sI h).symm)
  ·have h:=hnext0 _ hs0
   obtain⟨u13,h12,u15,h14,h⟩:=Bb h
   replace h:=sI h
   subst h
   (rw [List.map_take];exact jT (bs:=[]) mixed Jt 25 [] [.bnd (z0.2.2.map Bd).length z0.1 (((z0.2.2.map Bd).length:Nat):Int) (ln z0.2.2),.eqr ((z0.2.2.map Bd).take (Int.toNat z0.1)++(List.replicate ((Int.toNat (ln z0.2.2))-(Int.toNat z0.1)) (Bd (⟨([]:List Int),([]:List Int),([]:List Int)⟩:Ai))++(z0.2.2.map Bd).drop ((Int.toNat z0.1)+((Int.toNat (ln z0.2.2))-(Int.toNat z0.1))))) ((F7 z0.2.2 (Int.toNat z0.1) ((Int.toNat (ln z0.2.2))-(Int.toNat z0.1)) (⟨([]:List Int),([]:List Int),([]:List Int)⟩:Ai)).map Bd),.bnd ((F7 z0.2.2 (Int.toNat z0.1) ((Int.toNat (ln z0.2.2))-(Int.toNat z0.1)) (⟨([]:List Int),([]:List Int),([]:List Int)⟩:Ai)).map Bd).length 0 z0.1 z0.1] [.trunc 4] [.tmp 4] 1 [0,1] rfl hC ⟨E9 (by simp) (by simp) h12,yF Bd rfl,E9 (by simp) rfl h14,trivial⟩ trivial (by kernel_rfl))
theorem As1:EN 100:=en Tryz.func100
def Ol:List Nat:=[0,1,4,5,7,8,9,16]
def Ws (x0:List Aw) (n0:Nat) (z0:Sg0):St:=[(0,.d (DS q84 x0)),(1,.d (.fn (.func 52) [] [.o 0 0])),(4,dI 0),(7,dI (ln x0)),(8,dI (cnt 0 n0))]
def yN  (n0:Nat) (z0:Sg0):List Res:=[.box 111 [.fn (.func 48) [] [.o 1 0]],.box 43 [I z0.1,DS pB z0.2.1,DS q93 z0.2.2.1,DS pI (g3_ z0),DS q96 (g4_ z0),DS q84 (g5_ z0),DS q65 (Awq z0)]]
def Aem  (z0:Sg0):St:=[(4,dI 0)]
def Ahc  (z0:Sg0):List Res:=[.box 111 [.fn (.func 48) [] [.o 1 0]],.box 43 [I z0.1,DS pB z0.2.1,DS q93 z0.2.2.1,DS pI (g3_ z0),DS q96 (g4_ z0),DS q84 (g5_ z0),DS q65 (Awq z0)]]
theorem A44 (x0:List Aw) (x1c0c0:As) (r:Int×As) (h:Ac8 x0 x1c0c0=some r):CO 73 [.d (DS q84 x0),.d (.fn (.func 52) [] [.o 0 0])] [.box 111 [.fn (.func 48) [] [.o 1 0]],.box 43 (d43 x1c0c0)] (.d (I r.1)) [.box 111 [.fn (.func 48) [] [.o 1 0]],.box 43 (d43 r.2)]:=by
 unfold Ac8 at h
 refine co 19 Tryz.func73 λ C hC=>?_
 refine ws Ol 26 [] [pl q84 x0] [] 2 [0,1] (Ws x0 0 (x1c0c0.Time,zu x1c0c0.Power (x1c0c0.A7,x1c0c0.Bc))) (yN 0 (x1c0c0.Time,zu x1c0c0.Power (x1c0c0.A7,x1c0c0.Bc))) hC [] ?_
 obtain⟨w0,hm0,hret0,hnext0⟩:=Ar h
 clear h
 refine wc w0 (Aem) (Ahc) ?_ λ z0 hs0=>?_
 ·refine wb ?_
  refine Bv 0 rfl λ hl0=>?_
  refine wl (Ws x0) (yN) hm0 (λ z0 hn0=>?_) λ n0 a0 z0 w0b hi0 hx0 h hb0 hr0=>?_
  ·clear hm0
   exact wx w0 (Aem) (Ahc) Ol 26 [false] [] [] 2 [0,1] _ hC [pq (Be hl0)] hn0
  ·unfold Yl at h
   refine wn Ol 32 [true] [pt hx0 hl0,pc A5q (A45 a0 (⟨z0.1,(⟨z0.2.1,z0.2.2.1,(g3_ z0),(g4_ z0)⟩:Ab),(g5_ z0),(Awq z0)⟩:As) _ rfl) [0,1]] [] 2 [0,1] [0,1,4,5,7,8,16] hC [pq (A_ hi0 hl0)] ?_
   rcases cB h with⟨h1,h⟩ | ⟨h1,h⟩
   ·have hq:=hret0 _ (hr0 _ (sI h).symm)
    replace hq:=sI hq
    subst hq
    exact wr Ol 24 [true] [] [] 2 [0,1] hC [pq h1]
   ·exact wx w0b (Ws x0 (n0+1)) (yN (n0+1)) Ol 25 [false] [] [] 2 [0,1] _ hC [pq h1] (sI h).symm
 ·have h:=hnext0 _ hs0
  replace h:=sI h
  subst h
  exact wr Ol 23 [] [] [] 2 [0,1] hC []
theorem A5p:EN 73:=en Tryz.func73
theorem k74 (x0:Aa) (x1:As) (r:A3) (h:F74 x0 x1=some r):CO 74 [.agg (d30 x0),.agg (d43 x1)] [] (.d (.o 0 0)) (.box 119 (I r.A0.Time :: .os 1 :: .os 2 :: .os 3 :: .os 4 :: .os 5 :: .os 6::zb r.Ak [.os 7,.os 8])::zp r.A0.Power [v5_ r.A0.A7,v1_ r.A0.Bc,v1_ r.events,v7_ r.states]):=by
 unfold F74 at h
 refine co 21 Tryz.func74 λ C hC=>?_
 obtain⟨y1,h2,y3,h4,y5,h6,h⟩:=B0 h
 replace h:=sI h
 subst h
 exact wr n5_ 27 [] [pc e66 (k66 x1.Power _ h2) [],pc A8g (A7f x1.A7 _ h4) [],pc e79 (k79 x1.Bc _ h6) []] [.ownb 8 13 65 5,.ownb 8 14 39 4] 0 [8,2,3,4,5,6,7,9,10] hC []
theorem e74:EN 74:=en Tryz.func74
theorem A43 (x0:A3) (x1:Ab) (r:A3) (h:qF x0 x1=some r):CO 75 [.d (.o 0 0),.agg (d39 x1)] (.box 119 (I x0.A0.Time :: .os 1 :: .os 2 :: .os 3 :: .os 4 :: .os 5 :: .os 6::zb x0.Ak [.os 7,.os 8])::zp x0.A0.Power [v5_ x0.A0.A7,v1_ x0.A0.Bc,v1_ x0.events,v7_ x0.states]) (.tup []) (.box 119 (I r.A0.Time :: .os 1 :: .os 2 :: .os 3 :: .os 4 :: .os 5 :: .os 6::zb r.Ak [.os 7,.os 9])::zp r.A0.Power [v5_ r.A0.A7,v1_ r.A0.Bc,v1_ r.events,.non,v7_ r.states]):=by
 unfold qF at h
 refine co 15 Tryz.func75 λ C hC=>?_
 obtain⟨y3,h4,y5,h6,h⟩:=Bb h
 replace h:=sI h
 subst h
 exact wf [0,1,3] 23 [] [⟨.call 66 [.agg (d39 x1)] [] (.agg (d39 y3)) [.non,.non,.non,.non] [],⟨e66,(CallOk.frzAll n4_ (show CO 66 [.agg (d39 x1)] [] (.agg [.os 0,.os 1,.os 2,.os 3]) (zp y3 []) from (k66 x1 _ h4)) (by kernel_rfl))⟩⟩,pa q39 4 h6] [] 9 [0,1,2,3,4,5,6,7,8,14] hC []
theorem A5o:EN 75:=en Tryz.func75
theorem Ku (x0:Ab) (x1:Int) (x2:Int) (r:Bool) (h:H5 x0 x1 x2=some r):CO 166 [.agg (d39 x0),.d (I x1),.d (I x2)] [] (.d (Bo r)) []:=by
 unfold H5 at h
 refine co 13 Tryz.func166 λ C hC=>?_
 obtain⟨y1,h2,h⟩:=Az h
 replace h:=sI h
 subst h
 exact wr [0,1,2,3,6] 25 [] [pc A7p (A6o x0.Ao (⟨x1,x2⟩:Al) _ h2) []] [] 0 [] hC []
theorem Kx:EN 166:=en Tryz.func166
theorem A1h (x0:Aa) (x1:Af) (x2:Af) (r:Bool) (h:Ai1 x0 x1 x2=r):CO 210 [.agg (d30 x0),.agg (d93 x1),.agg (d93 x2)] [] (.d (Bo r)) []:=by
 unfold Ai1 at h
 refine co 52 Tryz.func210 λ C hC=>?_
 rcases cB h with⟨h1,h⟩ | ⟨h1,h⟩
 ·subst h
  exact wr [0,1,2,3,4,5,6,7,8,22] 29 [true] [] [] 0 [] hC [pq h1]
 ·subst h
  exact wr [0,1,2,3,4,5,6,7,8,22] 34 [false] [pc A7j (A6i x1.Phase x2.Phase _ rfl) []] [] 0 [] hC [pq h1]
theorem A2w:EN 210:=en Tryz.func210
theorem A6l (x0:Aa) (x1:Int) (r:Int) (h:Ai2 x0 x1=some r):CO 201 [.agg (d30 x0),.d (I x1)] [] (.d (I r)) []:=by
 unfold Ai2 at h
 refine co 9 Tryz.func201 λ C hC=>?_
 obtain⟨y1,h2,h⟩:=Az h
 replace h:=sI h
 subst h
 exact wr n5_ 25 [] [pc A28 (A1t x0.Ad x1 _ h2) [1]] [] 0 [] hC []
theorem A7m:EN 201:=en Tryz.func201
def Gm:List Nat:=[0,1,2,4,6,7,8,32,36,47,64,74]
def R8 (x2:Bool) (z0:(List Al)):St:=[(0,dO 0 0),(2,dB x2),(4,dO 5 0),(6,dI 0)]
def Tp (x0:A1) (x1:Al) (z0:(List Al)):List Res:=[.box 175 (zb x0.Ak [.os 6,.os 7,.os 8,.os 9,I x0.time]),.non,.non,.non,.non,.box 96 (d96 x1),v2_ x0.Au.Ag,v4_ x0.Au.Ac,v0_ x0.Au.Aq,v3_ z0]
theorem A16 (x0:A1) (x1:Al) (x2:Bool) (r:Int×A1) (h:Hc x0 x1 x2=some r):CO 143 [.d (.o 0 0),.agg (d96 x1),.d (Bo x2)] (.box 175 (zb x0.Ak [.os 1,.os 2,.os 3,.os 4,I x0.time])::zp x0.Au []) (.d (I r.1)) (.box 175 (zb r.2.Ak [.os 5,.os 6,.os 7,.os 8,I r.2.time]) :: .non :: .non :: .non :: .non::zp r.2.Au []):=by
 unfold Hc at h
 refine co 84 Tryz.func143 λ C hC=>?_
 obtain⟨y1,h2,h⟩:=Az h
 rcases cB h with⟨h3,h⟩ | ⟨h3,h⟩
 ·replace h:=sI h
  subst h
  exact wr Gm 32 [true] [pb Asw (Ar3 x0.Au.Ao x1 _ h2)] [.mv 1,.mv 2,.mv 3,.mv 4] 5 [0,1,2,3,4,6,7,8,9] hC [pq h3]
 ·refine wn Gm 32 [false] [pb Asw (Ar3 x0.Au.Ao x1 _ h2),pL_ [(x2,true)] q96 x0.Au.Ao] [.mv 1,.mv 2,.mv 3,.mv 4] 5 Gs [0,2,4,6,7,36] hC [pq h3] ?_
  rcases cB h with⟨h4,h⟩ | ⟨h4,h⟩
  ·replace h:=sI h
   subst h
   exact wr Gm 24 [true] [] [] 5 [0,1,2,3,4,6,7,8,9] hC [pq h4]
  ·refine wn Gm 24 [false] [] [] 5 Gs [0,2,4,6,7,47] hC [pq h4] ?_
   obtain⟨w0,h,hret0,hnext0⟩:=Ar h
   refine wc w0 (R8 x2) (Tp x0 x1) ?_ λ z0 hs0=>?_
   ·unfold Nw at h
    rcases cB h with⟨h5,h⟩ | ⟨h5,h⟩
    ·obtain⟨y6,h7,h⟩:=Az h
     exact wx w0 (R8 x2) (Tp x0 x1) Gm 23 [true] [pc A24 (A1p x0.Au.Ao y1.1 [x1] _ h7) [9]] [] 5 [0,1,2,3,4,5,6,7,8,10] _ hC [pq h5] (sI h).symm
    ·obtain⟨y8,h9,h⟩:=Az h
     exact wx w0 (R8 x2) (Tp x0 x1) Gm 23 [false] [pc A23 (A1o x0.Au.Ao y1.1 (w64 (y1.1+1)) _ h9) [9]] [] 5 [0,1,2,3,4,5,6,7,8,10] _ hC [pq h5] (sI h).symm
   ·clear h;have h:=hnext0 _ hs0
    rcases cB h with⟨h10,h⟩ | ⟨h10,h⟩
    ·obtain⟨y11,h12,y13,h14,h⟩:=Bb h
     refine wn Gm 30 [true] [pr q93 h12,pu q93 h12 h14] [] 5 Gs [0,4,6,74] hC [pq h10] ?_
     rcases cB h with⟨h15,h⟩ | ⟨h15,h⟩
     ·obtain⟨y16,h17,y18,h19,h⟩:=Bb h
      replace h:=sI h
      subst h
      exact wr Gm 25 [true] [pr q93 h17,pu q93 h17 h19] [] 5 [0,1,2,3,4,6,7,8,9] hC [pq h15]
     ·replace h:=sI h
      subst h
      exact wr Gm 25 [false] [] [] 5 [0,1,2,3,4,6,7,8,9] hC [pq h15]
    ·replace h:=sI h
     subst h
     exact wr Gm 29 [false] [] [] 5 [0,1,2,3,4,6,7,8,9] hC [pq h10]
theorem A3l:EN 143:=en Tryz.func143
theorem Acp (x0:A3) (x1:Ab) (r:A3) (h:Nq x0 x1=some r):CO 75 [.d (.o 0 0),.agg [.os 9,.os 10,.os 11,.os 12]] (.box 119 (I x0.A0.Time :: .os 1 :: .os 2 :: .os 3 :: .os 4 :: .os 5 :: .os 6::zb x0.Ak [.os 7,.os 8])::zp x0.A0.Power (v5_ x0.A0.A7::v1_ x0.A0.Bc::v1_ x0.events::v7_ x0.states::zp x1 [])) (.tup []) (.box 119 (I r.A0.Time :: .os 1 :: .os 2 :: .os 3 :: .os 4 :: .os 5 :: .os 6::zb r.Ak [.os 7,.os 13])::zp r.A0.Power (v5_ r.A0.A7::v1_ r.A0.Bc::v1_ r.events :: .non::zp x1 [v7_ r.states])):=by
 unfold Nq at h
 refine co 15 Tryz.func75 λ C hC=>?_
 obtain⟨y3,h4,y5,h6,h⟩:=Bb h
 replace h:=sI h
 subst h
 exact wf [0,1,3] 23 [] [⟨.call 66 [.agg [.os 0,.os 1,.os 2,.os 3]] (zp x1 []) (.agg (d39 y3)) (zp x1 [.non,.non,.non,.non]) [9,10,11,12],⟨e66,(CallOk.frzAll [4,5,6,7] (show CO 66 [.agg [.os 0,.os 1,.os 2,.os 3]] (zp x1 []) (.agg [.os 4,.os 5,.os 6,.os 7]) (zp x1 (zp y3 [])) from ((k66 x1 _ h4).lend (by kernel_rfl) (by kernel_rfl) (by kernel_rfl) ⟨Bh (λ _=>rfl),Bh (λ _=>rfl),Bh (λ _=>rfl),Bh (λ _=>rfl),trivial⟩ (by kernel_rfl) (by kernel_rfl))) (by kernel_rfl))⟩⟩,pa q39 4 h6] [] 13 [0,1,2,3,4,5,6,7,8,9,10,11,12,18] hC []
theorem Acs:EN 75:=en Tryz.func75
theorem A1l (x0:Int) (x1:Int) (x2:Aa) (r:Int) (h:Mw x0 x1 x2=some r):CO 191 [.d (I x0),.d (I x1),.d (.ip [.v (.int .i64 x2.An),.s (x2.Ad.map q70),.s (x2.Ac.map q72),.s (x2.Ae.map q81),.v (.int .i64 x2.Phase),.v (.int .i64 x2.Ap)])] [] (.d (I r)) []:=by
 unfold Mw at h
 refine co 19 Tryz.func191 λ C hC=>?_
 obtain⟨y1,h2,y3,h4,h⟩:=Bb h
 replace h:=sI h
 subst h
 exact wr [0,1,2,5] 25 [] [pr q81 h2,pr q81 h4,pc Aw0 (Awg y1.Bl y3.Bl _ rfl) []] [] 0 [] hC []
theorem A20:EN 191:=en Tryz.func191
theorem Ar4 (x0:Int) (x1:Ai) (r:Bool) (h:O9 x0 x1=some r):CO 161 [.d (I x0),.d (.ip [.s (x1.An.map pI),.s (x1.Ac.map pI),.s (x1.Ae.map pI)])] [] (.d (Bo r)) []:=by
 unfold O9 at h
 refine co 9 Tryz.func161 λ C hC=>?_
 obtain⟨y1,h2,h⟩:=Az h
 replace h:=sI h
 subst h
 exact wr [0,1,3] 25 [] [pc Xs (Xm x1.Ae x0 _ h2) []] [] 0 [] hC []
theorem Asx:EN 161:=en Tryz.func161
def Nj:List Nat:=[0,1,4,5,6,7,8,10,26,37]
def Akz (x0:List Aw) (x1:Int) (z0:Unit):St:=[(0,.d (DS q84 x0)),(1,dI x1),(4,.d (DS q84 []))]
def Amg  (z0:Unit):List Res:=[]
def Aky (x0:List Aw) (x1:Int) (z1:Unit):St:=[(0,.d (DS q84 x0)),(4,.d (DS q84 [])),(6,.d (.p (.v (.int .u64 ((T5 (IntKind.wrap .u64 (ln x0)) (IntKind.wrap .u64 x1)).2)))))]
def Amf  (z1:Unit):List Res:=[]
def uT  (z2:Int×(List Aw)):St:=[(4,.d (DS q84 [])),(7,dS 0),(8,dI z2.1)]
def Ah4  (z2:Int×(List Aw)):List Res:=[v5_ z2.2]
def Akx  (z2:Int×(List Aw)):St:=[(4,.d (DS q84 [])),(7,dS 0)]
def Ame  (z2:Int×(List Aw)):List Res:=[v5_ z2.2]
theorem A66 (x0:List Aw) (x1:Int) (r:(List Aw)) (h:Axu x0 x1=some r):CO 126 [.d (DS q84 x0),.d (I x1)] [] (.d (.os 0)) [v5_ r]:=by
 unfold Axu at h
 refine co 48 Tryz.func126 λ C hC=>?_
 refine wn Nj 26 [] [] [] 0 [] [0,1,4,10] hC [] ?_
 obtain⟨w0,h,hret0,hnext0⟩:=Ar h
 refine wc w0 (Akz x0 x1) (Amg) ?_ λ z0 hs0=>?_
 ·unfold Amq at h
  rcases cB h with⟨h1,h⟩ | ⟨h1,h⟩
  ·cases h
  ·exact wx w0 (Akz x0 x1) (Amg) Nj 23 [false] [] [] 0 [] _ hC [pq h1] (sI h).symm
 ·clear h;have h:=hnext0 _ hs0
  refine wn Nj 26 [] [pl q84 x0,pc A7w (A6v (IntKind.wrap .u64 (ln x0)) (IntKind.wrap .u64 x1) _ rfl) []] [] 0 [] [0,4,6,26] hC [] ?_
  obtain⟨w1,h,hret1,hnext1⟩:=Ar h
  refine wc w1 (Aky x0 x1) (Amf) ?_ λ z1 hs1=>?_
  ·unfold Amp at h
   rcases cB h with⟨h2,h⟩ | ⟨h2,h⟩
   ·cases h
   ·exact wx w1 (Aky x0 x1) (Amf) Nj 23 [false] [] [] 0 [] _ hC [pq h2] (sI h).symm
  ·clear h;have h:=hnext1 _ hs1
   obtain⟨y3,h4,h⟩:=Az h
   refine ws Nj 26 [] [⟨.room ((w64 ((T5 (IntKind.wrap .u64 (ln x0)) (IntKind.wrap .u64 x1)).2))*(16+1)) (List.replicate (Int.toNat (w64 ((T5 (IntKind.wrap .u64 (ln x0)) (IntKind.wrap .u64 x1)).2))) (q84 (⟨0,0⟩:Aw))) (y3.map q84),Js h4⟩,⟨.cpy (x0.map q84) 2 ((y3.map q84).length) (Nat.min x0.length y3.length) ((y3.map q84).take 0++((x0.map q84).take (Nat.min x0.length y3.length)++(y3.map q84).drop (0+(Nat.min x0.length y3.length)))) ((Tb y3 0 y3.length x0).map q84),Alp q84 2 (λ _=>rfl) rfl (by simp)⟩] [] 0 [0] (uT (((Nat.min x0.length y3.length):Int),(Tb y3 0 y3.length x0))) (Ah4 (((Nat.min x0.length y3.length):Int),(Tb y3 0 y3.length x0))) hC [] ?_
   obtain⟨w2,hm2,hret2,hnext2⟩:=Ar h
   clear h
   refine wc w2 (Akx) (Ame) ?_ λ z2 hs2=>?_
   ·refine wb ?_
    refine ww (uT) (Ah4) hm2 λ z2 w2b h hb2 hr2=>?_
    unfold Amr at h
    rcases cB h with⟨h5,h⟩ | ⟨h5,h⟩
    ·obtain⟨u7,h6,u9,h8,h⟩:=Bb h
     exact wx w2b (uT) (Ah4) Nj 29 [true] [pl q84 z2.2,⟨.bnd (z2.2.map q84).length z2.1 (((z2.2.map q84).length:Nat):Int) (ln z2.2),E9 (by simp) (by simp) h6⟩,⟨.bnd (z2.2.map q84).length 0 z2.1 z2.1,E9 (by simp) rfl h8⟩,⟨.cpy (((z2.2.map q84).drop 0).take ((Int.toNat z2.1)-0)) 2 ((Int.toNat (ln z2.2))-(Int.toNat z2.1)) (Nat.min ((z2.2.drop 0).take ((Int.toNat z2.1)-0)).length ((Int.toNat (ln z2.2))-(Int.toNat z2.1))) ((z2.2.map q84).take (Int.toNat z2.1)++((((z2.2.map q84).drop 0).take ((Int.toNat z2.1)-0)).take (Nat.min ((z2.2.drop 0).take ((Int.toNat z2.1)-0)).length ((Int.toNat (ln z2.2))-(Int.toNat z2.1)))++(z2.2.map q84).drop ((Int.toNat z2.1)+(Nat.min ((z2.2.drop 0).take ((Int.toNat z2.1)-0)).length ((Int.toNat (ln z2.2))-(Int.toNat z2.1)))))) ((Tb z2.2 (Int.toNat z2.1) ((Int.toNat (ln z2.2))-(Int.toNat z2.1)) ((z2.2.drop 0).take ((Int.toNat z2.1)-0))).map q84),Alp q84 2 (λ _=>rfl) (Ae8 _ _ _ _) rfl⟩] [] 0 [0] _ hC [pq h5] (sI h).symm
    ·exact wx w2 (Akx) (Ame) Nj 26 [false] [pl q84 z2.2] [] 0 [0] (z2.1,z2.2) hC [pq h5] (hb2 _ (sI h).symm)
   ·have h:=hnext2 _ hs2
    replace h:=sI h
    subst h
    exact wr Nj 23 [] [] [] 0 [0] hC []
theorem A77:EN 126:=en Tryz.func126
theorem Ann (x0:Aa) (x1:Int) (r:Int) (h:Ul x0 x1=some r):CO 134 [.agg (d30 x0),.d (I x1)] [] (.d (I r)) []:=by
 unfold Ul at h
 refine co 9 Tryz.func134 λ C hC=>?_
 obtain⟨y1,h2,h⟩:=Az h
 replace h:=sI h
 subst h
 exact wr n5_ 25 [] [pc A27 (A1s x0.Ad x1 _ h2) [1]] [] 0 [] hC []
theorem An4:EN 134:=en Tryz.func134
def Mh:List Nat:=[0,1,2,3,4,5,6,7,9,10,14,19,29,30,31,42,43,44,45,61]
def Aeb (x0:Aa) (z0:Int×(List Af)):St:=[(2,dO 0 0),(4,dO 1 0),(5,dI 0),(7,dO 9 0),(29,dI (ln x0.Ac)),(30,dI z0.1)]
def Api (x0:Aa) (y5:List Bool) (z0:Int×(List Af)):List Res:=(.box 30 (d30 x0) :: .box 43 [I 0,.os 2,.os 3,.os 4,.os 5,.os 6,.os 7]::ze [v5_ ([]:List Aw),v1_ ([]:List A6),v2_ y5,.box 43 [I 0,.os 8,.os 10,.os 11,.os 12,.os 13,.os 14],v4_ z0.2,v0_ ([]:List Int),v3_ ([]:List Al),v5_ ([]:List Aw),v1_ ([]:List A6)])
def Arf  (z0:Int×(List Af)):St:=[(2,dO 0 0),(4,dO 1 0),(5,dI 0),(7,dO 9 0)]
def Auy (x0:Aa) (y5:List Bool) (z0:Int×(List Af)):List Res:=(.box 30 (d30 x0) :: .box 43 [I 0,.os 2,.os 3,.os 4,.os 5,.os 6,.os 7]::ze [v5_ ([]:List Aw),v1_ ([]:List A6),v2_ y5,.box 43 [I 0,.os 8,.os 10,.os 11,.os 12,.os 13,.os 14],v4_ z0.2,v0_ ([]:List Int),v3_ ([]:List Al),v5_ ([]:List Aw),v1_ ([]:List A6)])
def Aea (x0:Aa) (n1:Nat) (z1:(List Int)):St:=[(2,dO 0 0),(4,dO 1 0),(5,dI 0),(7,dO 9 0),(42,.d (DS q81 x0.Ae)),(43,dI (ln x0.Ae)),(44,dI (cnt 0 n1))]
def Aph (x0:Aa) (y5:List Bool) (z0:Int×(List Af)) (n1:Nat) (z1:(List Int)):List Res:=(.box 30 (d30 x0) :: .box 43 [I 0,.os 2,.os 3,.os 4,.os 5,.os 6,.os 7]::ze [v5_ ([]:List Aw),v1_ ([]:List A6),v2_ y5,.box 43 [I 0,.os 8,.os 10,.os 11,.os 12,.os 13,.os 14],v4_ z0.2,v0_ z1,v3_ ([]:List Al),v5_ ([]:List Aw),v1_ ([]:List A6)])
def Are  (z1:(List Int)):St:=[(2,dO 0 0),(4,dO 1 0),(5,dI 0),(7,dO 9 0)]
def Aux (x0:Aa) (y5:List Bool) (z0:Int×(List Af)) (z1:(List Int)):List Res:=(.box 30 (d30 x0) :: .box 43 [I 0,.os 2,.os 3,.os 4,.os 5,.os 6,.os 7]::ze [v5_ ([]:List Aw),v1_ ([]:List A6),v2_ y5,.box 43 [I 0,.os 8,.os 10,.os 11,.os 12,.os 13,.os 14],v4_ z0.2,v0_ z1,v3_ ([]:List Al),v5_ ([]:List Aw),v1_ ([]:List A6)])
def Ad9  (z2:Int×(List Aw)):St:=[(2,dO 0 0),(4,dO 1 0),(5,dI 0),(7,dO 9 0),(10,dI z2.1)]
def Apg (x0:Aa) (y5:List Bool) (z0:Int×(List Af)) (z1:(List Int)) (z2:Int×(List Aw)):List Res:=(.box 30 (d30 x0) :: .box 43 [I 0,.os 2,.os 3,.os 4,.os 5,.os 6,.os 7]::ze [v5_ ([]:List Aw),v1_ ([]:List A6),v2_ y5,.box 43 [I 0,.os 8,.os 10,.os 11,.os 12,.os 13,.os 14],v4_ z0.2,v0_ z1,v3_ ([]:List Al),v5_ z2.2,v1_ ([]:List A6)])
def Ard  (z2:Int×(List Aw)):St:=[(4,dO 0 0),(5,dI 0),(7,dO 8 0)]
def Auw (y5:List Bool) (z0:Int×(List Af)) (z1:(List Int)) (z2:Int×(List Aw)):List Res:=(.box 43 [I 0,.os 1,.os 2,.os 3,.os 4,.os 5,.os 6]::ze [v5_ ([]:List Aw),v1_ ([]:List A6),v2_ y5,.box 43 [I 0,.os 7,.os 9,.os 10,.os 11,.os 12,.os 13],v4_ z0.2,v0_ z1,v3_ ([]:List Al),v5_ z2.2,v1_ ([]:List A6)])
theorem k24 (x0:Aa) (x1:A2) (r:As×Int) (h:F24 x0 x1=some r):CO 24 [.agg (d30 x0),.agg (d33 x1)] [] (.tup [.agg [I r.1.Time,.os 0,.os 1,.os 2,.os 3,.os 4,.os 5],.d (I r.2)]) (zp r.1.Power [v5_ r.1.A7,v1_ r.1.Bc]):=by
 unfold F24 at h
 refine co 71 Tryz.func24 λ C hC=>?_
 obtain⟨y1,h2,h⟩:=Az h
 rcases cB h with⟨h3,h⟩ | ⟨h3,h⟩
 ·cases h
 ·refine wn Mh 33 [false] [pc e43 (k43 x0 _ h2) [],pc e44 (k44 x1 _ rfl) []] [.ownb 2 1 4 1,.ownb 2 2 93 4,.ownb 2 3 3 1,.ownb 2 4 96 2,.ownb 2 5 84 2,.ownb 2 6 65 5] 0 [0,2,3,4,5,6,7,8] [2,4,5,19] hC [pq h3] ?_
  rcases cB h with⟨h4,h⟩ | ⟨h4,h⟩
  ·cases h
  ·obtain⟨y5,h6,h⟩:=Az h
   refine ws Mh 28 [false] [pl q70 x0.Ad,⟨.room ((ln x0.Ad)*(1+1)) (List.replicate (Int.toNat (ln x0.Ad)) (pB false)) (y5.map pB),Js h6⟩,pl q72 x0.Ac] [.ownb 9 2 93 4,.ownb 9 3 3 1,.ownb 9 4 96 2,.ownb 9 5 84 2,.ownb 9 6 65 5] 0 Ed (Aeb x0 (0,([]:List Af))) (Api x0 y5 (0,([]:List Af))) hC [pq h4] ?_
   obtain⟨w0,hm0,hret0,hnext0⟩:=Ar h
   clear h
   refine wc w0 (Arf) (Auy x0 y5) ?_ λ z0 hs0=>?_
   ·refine wb ?_
    refine ww (Aeb x0) (Api x0 y5) hm0 λ z0 w0b h hb0 hr0=>?_
    unfold Avb at h
    rcases cB h with⟨h7,h⟩ | ⟨h7,h⟩
    ·obtain⟨y8,h9,h⟩:=Az h
     exact wx w0b (Aeb x0) (Api x0 y5) Mh 31 [true] [pa q93 4 h9] [] 0 [0,1,2,3,4,5,6,7,8,9,15,11,12,13,14] _ hC [pq h7] (sI h).symm
    ·exact wx w0 (Arf) (Auy x0 y5) Mh 26 [false] [] [] 0 Ed (z0.1,z0.2) hC [pq h7] (hb0 _ (sI h).symm)
   ·have h:=hnext0 _ hs0
    refine ws Mh 24 [] [pl q81 x0.Ae] [] 0 Ed (Aea x0 0 ([]:List Int)) (Aph x0 y5 z0 0 ([]:List Int)) hC [] ?_
    obtain⟨w1,hm1,hret1,hnext1⟩:=Ar h
    clear h
    refine wc w1 (Are) (Aux x0 y5 z0) ?_ λ z1 hs1=>?_
    ·refine wb ?_
     refine Bv 42 rfl λ hl1=>?_
     refine wl (Aea x0) (Aph x0 y5 z0) hm1 (λ z1 hn1=>?_) λ n1 a1 z1 w1b hi1 hx1 h hb1 hr1=>?_
     ·clear hm1
      exact wx w1 (Are) (Aux x0 y5 z0) Mh 26 [false] [] [] 0 Ed _ hC [pq (Be hl1)] hn1
     ·unfold Ava at h
      obtain⟨y10,h11,h⟩:=Az h
      exact wx w1b (Aea x0 (n1+1)) (Aph x0 y5 z0 (n1+1)) Mh 33 [true] [pt hx1 hl1,pa pI 1 h11] [] 0 [0,1,2,3,4,5,6,7,8,9,10,16,12,13,14] _ hC [pq (A_ hi1 hl1)] (sI h).symm
    ·have h:=hnext1 _ hs1
     refine ws Mh 24 [] [] [] 0 Ed (Ad9 (0,([]:List Aw))) (Apg x0 y5 z0 z1 (0,([]:List Aw))) hC [] ?_
     obtain⟨w2,hm2,hret2,hnext2⟩:=Ar h
     clear h
     refine wc w2 (Ard) (Auw y5 z0 z1) ?_ λ z2 hs2=>?_
     ·refine wb ?_
      refine ww (Ad9) (Apg x0 y5 z0 z1) hm2 λ z2 w2b h hb2 hr2=>?_
      unfold Au9 at h
      rcases cB h with⟨h12,h⟩ | ⟨h12,h⟩
      ·obtain⟨y13,h14,h⟩:=Az h
       exact wx w2b (Ad9) (Apg x0 y5 z0 z1) Mh 31 [true] [pa q84 2 h14] [] 0 [0,1,2,3,4,5,6,7,8,9,10,11,12,15,14] _ hC [pq h12] (sI h).symm
      ·exact wx w2 (Ard) (Auw y5 z0 z1) Mh 26 [false] [] [] 0 [1,2,3,4,5,6,7,8,9,10,11,12,13,14] (z2.1,z2.2) hC [pq h12] (hb2 _ (sI h).symm)
     ·have h:=hnext2 _ hs2
      replace h:=sI h
      subst h
      exact wr Mh 23 [] [] [] 0 [7,9,10,11,12,13] hC []
theorem e24:EN 24:=en Tryz.func24
theorem A42 (x0:A3) (x1:Ab) (r:A3) (h:qE x0 x1=some r):CO 75 [.d (.o 0 0),.agg [.os 1,.os 2,.os 3,.os 4]] (.box 119 (I x0.A0.Time :: .os 1 :: .os 2 :: .os 3 :: .os 4 :: .os 5 :: .os 6::zb x0.Ak [.os 7,.os 8])::zp x0.A0.Power [v5_ x0.A0.A7,v1_ x0.A0.Bc,v1_ x0.events,v7_ x0.states]) (.tup []) (.box 119 (I r.A0.Time :: .os 1 :: .os 2 :: .os 3 :: .os 4 :: .os 5 :: .os 6::zb r.Ak [.os 7,.os 9])::zp r.A0.Power [v5_ r.A0.A7,v1_ r.A0.Bc,v1_ r.events,.non,v7_ r.states]):=by
 unfold qE at h
 refine co 15 Tryz.func75 λ C hC=>?_
 obtain⟨y3,h4,y5,h6,h⟩:=Bb h
 replace h:=sI h
 subst h
 exact wf [0,1,3] 23 [] [⟨.call 66 [.agg [.os 0,.os 1,.os 2,.os 3]] (zp x0.A0.Power []) (.agg (d39 y3)) (zp x0.A0.Power [.non,.non,.non,.non]) [1,2,3,4],⟨e66,(CallOk.frzAll [4,5,6,7] (show CO 66 [.agg [.os 0,.os 1,.os 2,.os 3]] (zp x0.A0.Power []) (.agg [.os 4,.os 5,.os 6,.os 7]) (zp x0.A0.Power (zp y3 [])) from ((k66 x0.A0.Power _ h4).lend (by kernel_rfl) (by kernel_rfl) (by kernel_rfl) ⟨Bh (λ _=>rfl),Bh (λ _=>rfl),Bh (λ _=>rfl),Bh (λ _=>rfl),trivial⟩ (by kernel_rfl) (by kernel_rfl))) (by kernel_rfl))⟩⟩,pa q39 4 h6] [] 9 [0,1,2,3,4,5,6,7,8,14] hC []
theorem A5n:EN 75:=en Tryz.func75
theorem k26 (x0:Ah) (x1:Int) (x2:Int) (r:Int×Ah) (h:F26 x0 x1 x2=some r):CO 26 [.d (.o 0 0),.d (I x1),.d (I x2)] [.box 77 (d77 x0)] (.d (I r.1)) [.box 77 (d77 r.2)]:=by
 unfold F26 at h
 refine co 15 Tryz.func26 λ C hC=>?_
 obtain⟨y1,h2,h⟩:=Az h
 replace h:=sI h
 subst h
 exact wr [0,1,2,6] 25 [] [pc e19 (k19 x0 (w64 ((w64 (x2-x1))+1)) _ h2) [0]] [] 1 [0] hC []
theorem e26:EN 26:=en Tryz.func26
theorem k27 (x0:Ah) (x1:List Int) (r:Int×Ah) (h:F27 x0 x1=some r):CO 27 [.d (.o 0 0),.d (DS pI x1)] [.box 77 (d77 x0)] (.d (I r.1)) [.box 77 (d77 r.2)]:=by
 unfold F27 at h
 refine co 12 Tryz.func27 λ C hC=>?_
 obtain⟨y1,h2,y3,h4,h⟩:=Bb h
 replace h:=sI h
 subst h
 exact wr [0,1,4] 25 [] [pl pI x1,pc e19 (k19 x0 (ln x1) _ h2) [0],pr pI h4] [] 1 [0] hC []
theorem e27:EN 27:=en Tryz.func27
end Go.Proofs.YtpdbkiafikdgpaaGreatDoor
