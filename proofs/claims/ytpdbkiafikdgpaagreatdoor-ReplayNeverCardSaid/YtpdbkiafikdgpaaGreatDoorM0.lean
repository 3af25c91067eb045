import Derived.Test.YtpdbkiafikdgpaaGreatDoorRows
import Derived.Test.YtpdbkiafikdgpaaGreatDoorMo
import Derived.Test.YtpdbkiafikdgpaaGreatDoorBw
import Derived.Test.YtpdbkiafikdgpaaGreatDoorIn
import Derived.Test.YtpdbkiafikdgpaaGreatDoorTs
set_option linter.unusedVariables false
set_option maxHeartbeats 4000000
namespace Go.Proofs.YtpdbkiafikdgpaaGreatDoor
open Go.SL
abbrev v0_ (l:List Int):Res:=.sl 3 1 (l.map pI)
abbrev v1_ (l:List A6):Res:=.sl 65 5 (l.map q65)
abbrev v2_ (l:List Bool):Res:=.sl 4 1 (l.map pB)
abbrev v3_ (l:List Ak):Res:=.sl 96 2 (l.map q96)
abbrev v4_ (l:List Af):Res:=.sl 93 4 (l.map q93)
abbrev v5_ (l:List Av):Res:=.sl 84 2 (l.map q84)
abbrev v6_ (l:List Ao):Res:=.sl 63 3 (l.map q63)
abbrev v7_ (l:List Ab):Res:=.sl 39 4 (l.map q39)
abbrev v8_ (l:List Ah):Res:=.sl 137 3 (l.map Bg)
abbrev v9_ (l:List Ai):Res:=.sl 70 3 (l.map q70)
abbrev H4 (l:List Bh):Res:=.sl 72 3 (l.map q72)
abbrev H3 (l:List A7):Res:=.sl 81 5 (l.map q81)
abbrev CO:=CallOk Tryz.prog
abbrev EN:=Fj Tryz.prog
abbrev Fp {α0 α1 α2 α3:Type} (z:α0×α1×α2×α3):α3:=z.2.2.2
abbrev g3_ {α0 α1 α2 α3 α4:Type} (z:α0×α1×α2×α3×α4):α3:=z.2.2.2.1
abbrev Il {α0 α1 α2 α3 α4:Type} (z:α0×α1×α2×α3×α4):α4:=z.2.2.2.2
abbrev g4_ {α0 α1 α2 α3 α4 α5:Type} (z:α0×α1×α2×α3×α4×α5):α4:=z.2.2.2.2.1
abbrev g5_ {α0 α1 α2 α3 α4 α5 α6:Type} (z:α0×α1×α2×α3×α4×α5×α6):α5:=z.2.2.2.2.2.1
abbrev Ax7 {α0 α1 α2 α3 α4 α5 α6:Type} (z:α0×α1×α2×α3×α4×α5×α6):α6:=z.2.2.2.2.2.2
abbrev g6_ {α0 α1 α2 α3 α4 α5 α6 α7:Type} (z:α0×α1×α2×α3×α4×α5×α6×α7):α6:=z.2.2.2.2.2.2.1
abbrev g7_ {α0 α1 α2 α3 α4 α5 α6 α7 α8:Type} (z:α0×α1×α2×α3×α4×α5×α6×α7×α8):α7:=z.2.2.2.2.2.2.2.1
abbrev yD {α0 α1 α2 α3 α4 α5 α6 α7 α8:Type} (z:α0×α1×α2×α3×α4×α5×α6×α7×α8):α8:=z.2.2.2.2.2.2.2.2
abbrev g8_ {α0 α1 α2 α3 α4 α5 α6 α7 α8 α9:Type} (z:α0×α1×α2×α3×α4×α5×α6×α7×α8×α9):α8:=z.2.2.2.2.2.2.2.2.1
abbrev g9_ {α0 α1 α2 α3 α4 α5 α6 α7 α8 α9 α10:Type} (z:α0×α1×α2×α3×α4×α5×α6×α7×α8×α9×α10):α9:=z.2.2.2.2.2.2.2.2.2.1
abbrev Fu {α0 α1 α2 α3 α4 α5 α6 α7 α8 α9 α10:Type} (z:α0×α1×α2×α3×α4×α5×α6×α7×α8×α9×α10):α10:=z.2.2.2.2.2.2.2.2.2.2
abbrev Dp {α0 α1 α2 α3 α4 α5 α6 α7 α8 α9 α10 α11:Type} (z:α0×α1×α2×α3×α4×α5×α6×α7×α8×α9×α10×α11):α10:=z.2.2.2.2.2.2.2.2.2.2.1
abbrev Ie {α0 α1 α2 α3 α4 α5 α6 α7 α8 α9 α10 α11:Type} (z:α0×α1×α2×α3×α4×α5×α6×α7×α8×α9×α10×α11):α11:=z.2.2.2.2.2.2.2.2.2.2.2
abbrev He {α0 α1 α2 α3 α4 α5 α6 α7 α8 α9 α10 α11 α12:Type} (z:α0×α1×α2×α3×α4×α5×α6×α7×α8×α9×α10×α11×α12):α11:=z.2.2.2.2.2.2.2.2.2.2.2.1
abbrev Io {α0 α1 α2 α3 α4 α5 α6 α7 α8 α9 α10 α11 α12 α13:Type} (z:α0×α1×α2×α3×α4×α5×α6×α7×α8×α9×α10×α11×α12×α13):α12:=z.2.2.2.2.2.2.2.2.2.2.2.2.1
abbrev Im {α0 α1 α2 α3 α4 α5 α6 α7 α8 α9 α10 α11 α12 α13 α14:Type} (z:α0×α1×α2×α3×α4×α5×α6×α7×α8×α9×α10×α11×α12×α13×α14):α13:=z.2.2.2.2.2.2.2.2.2.2.2.2.2.1
abbrev Ql {α0 α1 α2 α3 α4 α5 α6 α7 α8 α9 α10 α11 α12 α13 α14:Type} (z:α0×α1×α2×α3×α4×α5×α6×α7×α8×α9×α10×α11×α12×α13×α14):α14:=z.2.2.2.2.2.2.2.2.2.2.2.2.2.2
abbrev Td {α0 α1 α2 α3 α4 α5 α6 α7 α8 α9 α10 α11 α12 α13 α14 α15:Type} (z:α0×α1×α2×α3×α4×α5×α6×α7×α8×α9×α10×α11×α12×α13×α14×α15):α14:=z.2.2.2.2.2.2.2.2.2.2.2.2.2.2.1
abbrev Ac1 {α0 α1 α2 α3 α4 α5 α6 α7 α8 α9 α10 α11 α12 α13 α14 α15:Type} (z:α0×α1×α2×α3×α4×α5×α6×α7×α8×α9×α10×α11×α12×α13×α14×α15):α15:=z.2.2.2.2.2.2.2.2.2.2.2.2.2.2.2
abbrev Aoj {α0 α1 α2 α3 α4 α5 α6 α7 α8 α9 α10 α11 α12 α13 α14 α15 α16:Type} (z:α0×α1×α2×α3×α4×α5×α6×α7×α8×α9×α10×α11×α12×α13×α14×α15×α16):α15:=z.2.2.2.2.2.2.2.2.2.2.2.2.2.2.2.1
abbrev Ac0 {α0 α1 α2 α3 α4 α5 α6 α7 α8 α9 α10 α11 α12 α13 α14 α15 α16:Type} (z:α0×α1×α2×α3×α4×α5×α6×α7×α8×α9×α10×α11×α12×α13×α14×α15×α16):α16:=z.2.2.2.2.2.2.2.2.2.2.2.2.2.2.2.2
theorem sI {α:Type} {a b:α} (h:some a=some b):a=b:=bN h
abbrev zb (b:Aa) (l:List D):List D:=I b.An::DS q70 b.Ad::DS q72 b.Ac::DS q81 b.Ae::I b.Phase::I b.Aq::l
abbrev zp (p:Ab) (l:List Res):List Res:=.sl 4 1 (p.Ag.map pB) :: .sl 93 4 (p.Ac.map q93) :: .sl 3 1 (p.Ap.map pI) :: .sl 96 2 (p.Am.map q96)::l
abbrev ze (l:List Res):List Res:=.sl 4 1 (([]:List Bool).map pB) :: .sl 93 4 (([]:List Af).map q93) :: .sl 3 1 (([]:List Int).map pI) :: .sl 96 2 (([]:List Ak).map q96)::l
abbrev zs (b:Aa) (l:List Res):List Res:=.sl 70 3 (b.Ad.map q70) :: .sl 72 3 (b.Ac.map q72) :: .sl 81 5 (b.Ae.map q81)::l
abbrev zt {α:Type} (b:Aa) (r:α):Int×List Ai×List Bh×List A7×Int×Int×α:=(b.An,b.Ad,b.Ac,b.Ae,b.Phase,b.Aq,r)
abbrev zu {α:Type} (p:Ab) (r:α):List Bool×List Af×List Int×List Ak×α:=(p.Ag,p.Ac,p.Ap,p.Am,r)
abbrev n3_:List Nat:=[0,1,2]
abbrev n4_:List Nat:=[0,1,2,3]
abbrev n5_:List Nat:=[0,1,2,3,4]
abbrev n6_:List Nat:=[0,1,2,3,4,5]
abbrev n7_:List Nat:=[0,1,2,3,4,5,6]
abbrev n8_:List Nat:=[0,1,2,3,4,5,6,7]
abbrev n9_:List Nat:=[0,1,2,3,4,5,6,7,8]
abbrev Gx:List Nat:=[0,1,2,3,4,5,6,7,8,9]
abbrev An3:List Nat:=[0,1,2,3,4,5,6,7,8,9,10]
abbrev Fo:List Nat:=[0,1,2,3,4,5,6,7,8,9,10,11]
abbrev H7:List Nat:=[0,1,2,3,4,5,6,7,8,9,10,11,12]
abbrev Eh:List Nat:=[0,1,2,3,4,5,6,7,8,9,10,11,12,13,14]
abbrev A71:List Nat:=[0,1,2,3,4,5,6,7,8,9,10,11,12,13,14,15]
abbrev A70:List Nat:=[0,1,2,3,4,5,6,7,8,9,10,11,12,13,14,15,16,17,18]
abbrev vJ:List Nat:=[0,1,2,3,4,5,6,7,8,9,10,11,12,13,14,15,16,17,18,19]
abbrev A7z:List Nat:=[0,1,2,3,4,5,6,7,8,9,10,11,12,13,14,15,16,17,18,19,20]
abbrev A7y:List Nat:=[0,1,2,3,4,5,6,7,8,9,10,11,12,13,14,15,16,17,18,19,20,21]
abbrev A7x:List Nat:=[0,1,2,3,4,5,6,7,8,9,10,11,12,13,14,15,16,17,18,19,20,21,22,23]
theorem mixed:Tryz.prog.follows .mixedOrders=true:=by kernel_rfl
abbrev PC:={c:Cl // Cl.ok Tryz.prog c}
abbrev PB:={p:Bool×Bool // p.1=p.2}
theorem okP:∀ l:List PC,Di Tryz.prog (l.map (·.1))
 | []=>trivial
 | c::l=>⟨c.2,okP l⟩
theorem okB:∀ l:List PB,Da (l.map (·.1))
 | []=>trivial
 | ⟨(_,_),h⟩::l=>⟨h,okB l⟩
def pq {a b:Bool} (h:a=b):PB:=⟨(a,b),h⟩
def pc {f:FuncId} {args:List AV} {R R2:List Res} {res:AV} (e:Fj Tryz.prog f) (k:CallOk Tryz.prog f args R res R2) (pi:List Nat):PC:=⟨.call f args R res R2 pi,e,k⟩
def pb {f:FuncId} {args:List AV} {res:AV} (e:Fj Tryz.prog f) (k:CallOk Tryz.prog f args [] res []):PC:=⟨.callB f args res [[]] 0 [],Iz ⟨e,k⟩⟩
def pw {g:List (Bool×Bool)} {f:FuncId} {args:List AV} {R R2:List Res} {res:AV} (e:Fj Tryz.prog f) (k:Da g->CallOk Tryz.prog f args R res R2) (pi:List Nat):PC:=⟨.when g (.call f args R res R2 pi),λ h=>⟨e,k h⟩⟩
def pv {g:List (Bool×Bool)} {f:FuncId} {args:List AV} {res:AV} (e:Fj Tryz.prog f) (k:Da g->CallOk Tryz.prog f args [] res []):PC:=⟨.when g (.callB f args res [[]] 0 []),λ h=>Iz ⟨e,k h⟩⟩
section
variable {α:Type}
def pl (q:α->List Pd) (l:List α):PC:=⟨.len ((l.map q).length:Int) (l.length:Int),Vv l q⟩
def pL_ (g:List (Bool×Bool)) (q:α->List Pd) (l:List α):PC:=⟨.when g (.len ((l.map q).length:Int) (l.length:Int)),λ _=>Vv l q⟩
def pr (q:α->List Pd) {l:List α} {n:Int} {x:α} (h:getI l n=some x):PC:=⟨.row (l.map q) n (q x),Vj h⟩
def pn (q:α->List Pd) {l:List α} {n:Int} {x:α} (h:getI l n=some x):PC:=⟨.row (l.map q) ((n.toNat:Nat):Int) (q x),Jt h⟩
def pt {q:α->List Pd} {l:List α} {i:Nat} {x:α} (hx:l[i]? = some x) (hl:(l.map q).length<=maxLen):PC:=⟨.row (l.map q) (cnt 0 i) (q x),A09 hx hl⟩
def pR (q:α->List Pd) {g:List (Bool×Bool)} {l:List α} {n:Int} {x d:α} (h:A3 g (getI l n) d=some x):PC:=⟨.when g (.row (l.map q) n (q x)),λ hg=>Vj (Ba h hg)⟩
def pN (q:α->List Pd) {g:List (Bool×Bool)} {l:List α} {n:Int} {x d:α} (h:A3 g (getI l n) d=some x):PC:=⟨.when g (.row (l.map q) ((n.toNat:Nat):Int) (q x)),λ hg=>Jt (Ba h hg)⟩
def pa (q:α->List Pd) (size:Nat) {B:Nat} {l m y:List α} (h:appI (B+1) l m=some y) (hs:∀ x,(q x).length=size:=by exact λ _=>rfl):PC:=⟨.app (l.map q) (m.map q) size (((l.map q).length+(m.map q).length)*(B+1)) (y.map q),H2 q size hs h⟩
def pu (q:α->List Pd) {l y:List α} {n:Int} {x x':α} (hx:getI l n=some x) (h:setI l n x'=some y):PC:=⟨.upd (l.map q) n.toNat (q x) (q x') (y.map q),Aky hx h⟩
end
theorem ws {ro:Option Nat} {n:Nat} {C:Ctx} {Q:Exit->Act->World->Prop} {st:St} {R:List Res} {items:List It} (lv:List Nat) (fuel:Nat) (ds:List Bool) (cls:List PC) (adj:List Adj) (k:Nat) (pi:List Nat) (st':St) (R':List Res) (hk:C.h.length<=k) (bs:List PB) (hW:WI ro Tryz.prog n C Q (B_ fuel items ds) st' R') (h:Gn Tryz.prog n lv fuel items st R ds (cls.map (·.1)) adj k pi (Oe st')=some (st',R',cls.map (·.1),bs.map (·.1)):=by kernel_rfl):WI ro Tryz.prog n C Q items st R:=yQ mixed lv fuel ds (cls.map (·.1)) adj k pi st' R' hk (okP cls) (okB bs) h hW
def wo (o:Option (St×List Res×List Cl×List (Bool×Bool))):St×List Res:=match o with
 | some (s,r,_,_)=>(s,r)
 | none=>([],[])
theorem wn {ro:Option Nat} {n:Nat} {C:Ctx} {Q:Exit->Act->World->Prop} {st:St} {R:List Res} {items:List It} (lv:List Nat) (fuel:Nat) (ds:List Bool) (cls:List PC) (adj:List Adj) (k:Nat) (pi:List Nat) (ks:List Nat) (hk:C.h.length<=k) (bs:List PB) (hW:WI ro Tryz.prog n C Q (B_ fuel items ds) (wo (Gn Tryz.prog n lv fuel items st R ds (cls.map (·.1)) adj k pi ks)).1 (wo (Gn Tryz.prog n lv fuel items st R ds (cls.map (·.1)) adj k pi ks)).2) (h:(Gn Tryz.prog n lv fuel items st R ds (cls.map (·.1)) adj k pi ks).map (λ x=>(Oe x.1,x.2.2.1,x.2.2.2))=some (ks,cls.map (·.1),bs.map (·.1)):=by kernel_rfl):WI ro Tryz.prog n C Q items st R:=by
 cases e:Gn Tryz.prog n lv fuel items st R ds (cls.map (·.1)) adj k pi ks with
 | none=>rw [e] at h;cases h
 | some x=>
  obtain⟨s,r,c,b⟩:=x
  rw [e] at h hW
  simp only [bU,al,aQ] at h
  obtain⟨h1,h2,h3⟩:=h
  subst h1;subst h2;subst h3
  exact yQ mixed lv fuel ds _ adj k pi s r hk (okP cls) (okB bs) e hW
theorem we {ro:Option Nat} {n:Nat} {C:Ctx} {Q:Exit->Act->World->Prop} {st:St} {R:List Res} {items:List It} {σ:Type} {φ:σ->Prop} {st':σ->St} {R':σ->List Res} (lv:List Nat) (fuel:Nat) (ds:List Bool) (cls:List PC) (adj:List Adj) (k:Nat) (pi:List Nat) (s:σ) (hk:C.h.length<=k) (bs:List PB) (h1:φ s) (hi:hdK (B_ fuel items ds)=Ex n C φ st' R':=by kernel_rfl) (h:Gn Tryz.prog n lv fuel items st R ds (cls.map (·.1)) adj k pi (Oe (st' s))=some (st' s,R' s,cls.map (·.1),bs.map (·.1)):=by kernel_rfl):WI ro Tryz.prog n C Q items st R:=Au4 mixed lv fuel ds (cls.map (·.1)) adj k pi s hk (okP cls) (okB bs) hi h h1
theorem wx {σ:Type} {τ:Type} (w:Ctl σ τ) (st':σ->St) (R':σ->List Res) {ro:Option Nat} {n:Nat} {C:Ctx} {Q:Exit->Act->World->Prop} {st:St} {R:List Res} {items:List It} (lv:List Nat) (fuel:Nat) (ds:List Bool) (cls:List PC) (adj:List Adj) (k:Nat) (pi:List Nat) (s:σ) (hk:C.h.length<=k) (bs:List PB) (h1:w = .next s) (hi:hdK (B_ fuel items ds)=Ex n C (λ s'=>w = .next s') st' R':=by kernel_rfl) (h:Gn Tryz.prog n lv fuel items st R ds (cls.map (·.1)) adj k pi (Oe (st' s))=some (st' s,R' s,cls.map (·.1),bs.map (·.1)):=by kernel_rfl):WI ro Tryz.prog n C Q items st R:=Au4 mixed lv fuel ds (cls.map (·.1)) adj k pi s hk (okP cls) (okB bs) hi h h1
theorem wc {ro:Option Nat} {n:Nat} {C:Ctx} {Q:Exit->Act->World->Prop} {st:St} {R:List Res} {items:List It} {σ τ:Type} (w:Ctl σ τ) (st':σ->St) (R':σ->List Res) (h:WI ro Tryz.prog n C Q (.c (hdC items) :: .k (Ex n C (λ s=>w = .next s) st' R')::tlI items) st R) (hK:∀ s,w = .next s->WI ro Tryz.prog n C Q (tlI items) (st' s) (R' s)) (hi:isC items=true:=by kernel_rfl):WI ro Tryz.prog n C Q items st R:=A6a hi _ st' R' h hK
theorem Bc {α β γ:Type} {o:Option α} {f:α->Option β} {g:α->β->Option γ} {r:γ} (h:(o.bind λ a=>(f a).bind λ b=>g a b)=some r):∃ a,o=some a/\∃ b,f a=some b/\g a b=some r:=by
 obtain⟨a,h1,h⟩:=Az h
 obtain⟨b,h2,h⟩:=Az h
 exact⟨a,h1,b,h2,h⟩
theorem B3 {α β γ δ:Type} {o:Option α} {f:α->Option β} {g:α->β->Option γ} {k:α->β->γ->Option δ} {r:δ} (h:(o.bind λ a=>(f a).bind λ b=>(g a b).bind λ c=>k a b c)=some r):∃ a,o=some a/\∃ b,f a=some b/\∃ c,g a b=some c/\k a b c=some r:=by
 obtain⟨a,h1,h⟩:=Az h
 obtain⟨b,h2,c,h3,h⟩:=Bc h
 exact⟨a,h1,b,h2,c,h3,h⟩
theorem Cv {α β γ δ ε:Type} {o:Option α} {f:α->Option β} {g:α->β->Option γ} {k:α->β->γ->Option δ} {l:α->β->γ->δ->Option ε} {r:ε} (h:(o.bind λ a=>(f a).bind λ b=>(g a b).bind λ c=>(k a b c).bind λ d=>l a b c d)=some r):∃ a,o=some a/\∃ b,f a=some b/\∃ c,g a b=some c/\∃ d,k a b c=some d/\l a b c d=some r:=by
 obtain⟨a,h1,h⟩:=Az h
 obtain⟨b,h2,c,h3,d,h4,h⟩:=B3 h
 exact⟨a,h1,b,h2,c,h3,d,h4,h⟩
theorem wl {ro:Option Nat} {n:Nat} {C:Ctx} {Q:Exit->Act->World->Prop} {st:St} {R:List Res} {α σ τ:Type} {items:List It} {f:Nat->α->σ->Option (Ctl σ τ)} (stF:Nat->σ->St) (RF:Nat->σ->List Res) {r:Ctl σ τ} {xs:List α} {s:σ} (hm:foldI f xs 0 s=some r) (hnil:∀ s,r = .next s->WI ro Tryz.prog n C Q (.c (lpC items) :: .k (λ _ _=>False)::tlI items) (stF xs.length s) (RF xs.length s)) (hcons:∀ i x s k,i<xs.length->xs[i]? = some x->f i x s=some k->(∀ s',k = .brk s'->r = .next s')->(∀ v,k = .ret v->r = .ret v)->WI ro Tryz.prog n C Q (.c (lpC items) :: .k (Ex n C (λ s'=>k = .next s') (stF (i+1)) (RF (i+1)))::tlI items) (stF i s) (RF i s)) (hi:isL items=true:=by kernel_rfl) (h0:st=stF 0 s:=by rfl) (h1:R=RF 0 s:=by rfl):WI ro Tryz.prog n C Q items st R:=Ay3 hi f stF RF r xs s hm h0 h1 hnil hcons
theorem ww {ro:Option Nat} {n:Nat} {C:Ctx} {Q:Exit->Act->World->Prop} {st:St} {R:List Res} {σ τ:Type} {items:List It} {f:σ->Option (Ctl σ τ)} (stF:σ->St) (RF:σ->List Res) {r:Ctl σ τ} {fuel:Nat} {s:σ} (hm:whileN f fuel s=some r) (h:∀ s k,f s=some k->(∀ s',k = .brk s'->r = .next s')->(∀ v,k = .ret v->r = .ret v)->WI ro Tryz.prog n C Q (.c (lpC items) :: .k (Ex n C (λ s'=>k = .next s') stF RF)::tlI items) (stF s) (RF s)) (hi:isL items=true:=by kernel_rfl) (h0:st=stF s:=by rfl) (h1:R=RF s:=by rfl):WI ro Tryz.prog n C Q items st R:=Ay1 hi f stF RF r fuel s hm h0 h1 h
theorem cB {α:Type} {c:Bool} {x y z:α} (h:(bif c then x else y)=z):(c=true/\x=z)\/(c=false/\y=z):=by cases c;exact .inr ⟨rfl,h⟩;exact .inl ⟨rfl,h⟩
theorem wb {ro:Option Nat} {n:Nat} {C:Ctx} {Q:Exit->Act->World->Prop} {st:St} {R:List Res} {items:List It} (h:WI ro Tryz.prog n C Q (.c (A55 items) :: .b (A54 items)::tlI items) st R) (hi:isB items=true:=by kernel_rfl):WI ro Tryz.prog n C Q items st R:=A6b hi h
theorem co {f:FuncId} {fn:Func} {c:Code} {args:List AV} {res:AV} {R R2:List Res} (n:Nat) (hf:Tryz.prog.funcs[f]? = some fn) (h:∀ C:Ctx,C.h.length<=R.length->WI none Tryz.prog n C.z (M6 Tryz.prog fn C.z res R2) [.c c] (jY 0 args) R) (hb:fn.body=some c:=by rfl) (hn:fn.ntmps=n:=by rfl) (hl:Nat.ble args.length n=true:=by rfl):CallOk Tryz.prog f args R res R2:=Aug n hf hb hn hl h
theorem wr {ro:Option Nat} {n:Nat} {C:Ctx} {st:St} {R:List Res} {fn:Func} {res:AV} {R2:List Res} {items:List It} (lv:List Nat) (fuel:Nat) (ds:List Bool) (cls:List PC) (adj:List Adj) (k:Nat) (pi:List Nat) (hk:C.h.length<=k) (bs:List PB) (h:Y5 Tryz.prog n lv fuel items st R ds (cls.map (·.1)) adj fn.results.toList k pi=some (res,R2,cls.map (·.1),bs.map (·.1)):=by kernel_rfl):WI ro Tryz.prog n C.z (M6 Tryz.prog fn C.z res R2) items st R:=jZ mixed lv fuel ds (cls.map (·.1)) adj _ k pi rfl hk (okP cls) (okB bs) h
theorem wf {ro:Option Nat} {n:Nat} {C:Ctx} {st:St} {R:List Res} {fn:Func} {res:AV} {R2:List Res} {items:List It} (lv:List Nat) (fuel:Nat) (ds:List Bool) (cls:List PC) (adj:List Adj) (k:Nat) (pi:List Nat) (hk:C.h.length<=k) (bs:List PB) (hn:Axh (B_ fuel items ds)=true:=by kernel_rfl) (h:Y6 Tryz.prog n lv fuel items st R ds (cls.map (·.1)) adj fn.results.toList k pi=some (res,R2,cls.map (·.1),bs.map (·.1)):=by kernel_rfl):WI ro Tryz.prog n C.z (M6 Tryz.prog fn C.z res R2) items st R:=A2p mixed lv fuel ds (cls.map (·.1)) adj _ k pi rfl hk (okP cls) (okB bs) hn h
theorem en {f : FuncId} {fn : Func} (hf : Tryz.prog.funcs[f]? = some fn) (hb : fn.body.isNone = false := by kernel_rfl) (hn : (fn.name == "runtime.NumGoroutine") = false := by kernel_rfl) : Fj Tryz.prog f := Go.SL.Abh hf hb hn
abbrev ln {α:Type} (l:List α):Int:=(l.length:Int)
abbrev dI (x:Int):AV:=.d (I x)
abbrev dB (x:Bool):AV:=.d (Bo x)
abbrev dO (a b:Nat):AV:=.d (.o a b)
abbrev dS (a:Nat):AV:=.d (.os a)
theorem k82 (x0:Int) (x1:Int) (x2:Int) (r:Bool) (h:F82 x0 x1 x2=r):CO 82 [.d (I x0),.d (I x1),.d (I x2)] [] (.d (Bo r)) []:=by
 unfold F82 at h
 refine co 15 Tryz.func82 λ C hC=>?_
 subst h
 exact wr [0,1,2,6] 25 [] [] [] 0 [] hC []
theorem e82:EN 82:=en Tryz.func82
def Af2:List Nat:=[0,1,2,3,6,7,8,9,11,12,13,14,37]
def Zc (x0:Aa) (x1:Int) (x2:Int) (n0:Nat) (z0:(List Int)):St:=[(1,dI x1),(2,dI x2),(6,.d (DS pI [])),(7,dS 0),(11,.d (DS q70 x0.Ad)),(12,dI (ln x0.Ad)),(13,dI (cnt 0 n0))]
def Ac9  (n0:Nat) (z0:(List Int)):List Res:=[v0_ z0]
def Arl  (z0:(List Int)):St:=[(6,.d (DS pI [])),(7,dS 0)]
def Avd  (z0:(List Int)):List Res:=[v0_ z0]
theorem k83 (x0:Aa) (x1:Int) (x2:Int) (r:(List Int)) (h:F83 x0 x1 x2=some r):CO 83 [.agg (d30 x0),.d (I x1),.d (I x2)] [] (.d (.os 0)) [v0_ r]:=by
 unfold F83 at h
 refine co 44 Tryz.func83 λ C hC=>?_
 refine ws Af2 28 [] [pl q70 x0.Ad] [.own 7 3 1] 0 [1] (Zc x0 x1 x2 0 ([]:List Int)) (Ac9 0 ([]:List Int)) hC [] ?_
 obtain⟨w0,hm0,hret0,hnext0⟩:=As h
 clear h
 refine wc w0 (Arl) (Avd) ?_ λ z0 hs0=>?_
 ·refine wb ?_
  refine Bt 11 rfl λ hl0=>?_
  refine wl (Zc x0 x1 x2) (Ac9) hm0 (λ z0 hn0=>?_) λ n0 a0 z0 w0b hi0 hx0 h hb0 hr0=>?_
  ·clear hm0
   exact wx w0 (Arl) (Avd) Af2 26 [false] [] [] 0 [0] _ hC [pq (Bf hl0)] hn0
  ·unfold Aiv at h
   rcases cB h with⟨h1,h⟩ | ⟨h1,h⟩
   ·obtain⟨y2,h3,h⟩:=Az h
    exact wx w0b (Zc x0 x1 x2 (n0+1)) (Ac9 (n0+1)) Af2 36 [true,true] [pt hx0 hl0,pa pI 1 h3] [] 0 [2] _ hC [pq (A9 hi0 hl0),pq h1] (sI h).symm
   ·exact wx w0b (Zc x0 x1 x2 (n0+1)) (Ac9 (n0+1)) Af2 36 [true,false] [pt hx0 hl0] [] 0 [0] _ hC [pq (A9 hi0 hl0),pq h1] (sI h).symm
 ·have h:=hnext0 _ hs0
  replace h:=sI h
  subst h
  exact wr Af2 23 [] [] [] 0 [0] hC []
theorem e83:EN 83:=en Tryz.func83
theorem k44 (x0:A5) (r:Bool) (h:F44 x0=r):CO 44 [.agg (d33 x0)] [] (.d (Bo r)) []:=by
 unfold F44 at h
 refine co 33 Tryz.func44 λ C hC=>?_
 subst h
 exact wr n3_ 25 [] [] [] 0 [] hC []
theorem e44:EN 44:=en Tryz.func44
theorem k91 (x0:Int) (x1:Int) (x2:Int) (r:Bool) (h:F91 x0 x1 x2=r):CO 91 [.d (I x0),.d (I x1),.d (I x2)] [] (.d (Bo r)) []:=by
 unfold F91 at h
 refine co 15 Tryz.func91 λ C hC=>?_
 subst h
 exact wr [0,1,2,6] 25 [] [] [] 0 [] hC []
theorem e91:EN 91:=en Tryz.func91
def Zx:List Nat:=[0,1,4,5,7,8,9,16]
def uO (x0:List Int) (x1:Int) (n0:Nat) (z0:Unit):St:=[(0,.d (DS pI x0)),(1,dI x1),(4,dI 0),(7,dI (ln x0)),(8,dI (cnt 0 n0))]
def Aib  (n0:Nat) (z0:Unit):List Res:=[]
def Ak8  (z0:Unit):St:=[(4,dI 0)]
def Amp  (z0:Unit):List Res:=[]
theorem A8a (x0:List Int) (x1:Int) (r:Int) (h:Aqp x0 x1=some r):CO 186 [.d (DS pI x0),.d (I x1)] [] (.d (I r)) []:=by
 unfold Aqp at h
 refine co 19 Tryz.func186 λ C hC=>?_
 refine ws Zx 26 [] [pl pI x0] [] 0 [] (uO x0 x1 0 ()) (Aib 0 ()) hC [] ?_
 obtain⟨w0,hm0,hret0,hnext0⟩:=As h
 clear h
 refine wc w0 (Ak8) (Amp) ?_ λ z0 hs0=>?_
 ·refine wb ?_
  refine Bt 0 rfl λ hl0=>?_
  refine wl (uO x0 x1) (Aib) hm0 (λ z0 hn0=>?_) λ n0 a0 z0 w0b hi0 hx0 h hb0 hr0=>?_
  ·clear hm0
   exact wx w0 (Ak8) (Amp) Zx 26 [false] [] [] 0 [] _ hC [pq (Bf hl0)] hn0
  ·unfold Anc at h
   rcases cB h with⟨h1,h⟩ | ⟨h1,h⟩
   ·have hq:=hret0 _ (hr0 _ (sI h).symm)
    replace hq:=sI hq
    subst hq
    exact wr Zx 35 [true,true] [pt hx0 hl0] [] 0 [] hC [pq (A9 hi0 hl0),pq h1]
   ·exact wx w0b (uO x0 x1 (n0+1)) (Aib (n0+1)) Zx 36 [true,false] [pt hx0 hl0] [] 0 [] _ hC [pq (A9 hi0 hl0),pq h1] (sI h).symm
 ·have h:=hnext0 _ hs0
  replace h:=sI h
  subst h
  exact wr Zx 23 [] [] [] 0 [] hC []
theorem A9b:EN 186:=en Tryz.func186
theorem A3t (x0:List Int) (r:Bool) (h:Ay8 x0=r):CO 154 [.d (DS pI x0)] [] (.d (Bo r)) []:=by
 unfold Ay8 at h
 refine co 6 Tryz.func154 λ C hC=>?_
 subst h
 exact wr [0,2] 25 [] [pl pI x0] [] 0 [] hC []
theorem A48:EN 154:=en Tryz.func154
def Z6:List Nat:=[0,1,2,4,5,6,11,16,20]
theorem A8s (x0:Aa) (x1:Int) (r:Int) (h:La x0 x1=r):CO 116 [.agg (d30 x0),.d (I x1)] [] (.d (I r)) []:=by
 unfold La at h
 refine co 25 Tryz.func116 λ C hC=>?_
 rcases cB h with⟨h1,h⟩ | ⟨h1,h⟩
 ·subst h
  exact wr Z6 32 [true] [pl q72 x0.Ac] [] 0 [] hC [pq h1]
 ·rcases cB h with⟨h2,h⟩ | ⟨h2,h⟩
  ·subst h
   exact wr Z6 35 [false,true] [pl q70 x0.Ad] [] 0 [] hC [pq h1,pq h2]
  ·rcases cB h with⟨h3,h⟩ | ⟨h3,h⟩
   ·subst h
    exact wr Z6 38 [false,false,true] [] [] 0 [] hC [pq h1,pq h2,pq h3]
   ·rcases cB h with⟨h4,h⟩ | ⟨h4,h⟩
    ·subst h
     exact wr Z6 41 [false,false,false,true] [pl q81 x0.Ae] [] 0 [] hC [pq h1,pq h2,pq h3,pq h4]
    ·subst h
     exact wr Z6 43 [false,false,false,false] [] [] 0 [] hC [pq h1,pq h2,pq h3,pq h4]
theorem A9t:EN 116:=en Tryz.func116
theorem K3 (x0:Int) (r:Bool) (h:Y1 x0=r):CO 155 [.d (I x0)] [] (.d (Bo r)) []:=by
 unfold Y1 at h
 refine co 6 Tryz.func155 λ C hC=>?_
 subst h
 exact wr [0,2] 25 [] [] [] 0 [] hC []
theorem K6:EN 155:=en Tryz.func155
def Z5:List Nat:=[0,2,3,5,6,7,8,9,14]
def uZ (x0:List Int) (n0:Nat) (z0:Unit):St:=[(2,dI 0),(3,dI 0),(6,.d (DS pI x0)),(7,dI (ln x0)),(8,dI (cnt 0 n0))]
def Ain  (n0:Nat) (z0:Unit):List Res:=[]
def Alp  (z0:Unit):St:=[(2,dI 0),(3,dI 0)]
def Am6  (z0:Unit):List Res:=[]
theorem A8r (x0:List Int) (r:Int) (h:zQ x0=some r):CO 117 [.d (DS pI x0)] [] (.d (I r)) []:=by
 unfold zQ at h
 refine co 18 Tryz.func117 λ C hC=>?_
 refine ws Z5 28 [] [pl pI x0] [] 0 [] (uZ x0 0 ()) (Ain 0 ()) hC [] ?_
 obtain⟨w0,hm0,hret0,hnext0⟩:=As h
 clear h
 refine wc w0 (Alp) (Am6) ?_ λ z0 hs0=>?_
 ·refine wb ?_
  refine Bt 6 rfl λ hl0=>?_
  refine wl (uZ x0) (Ain) hm0 (λ z0 hn0=>?_) λ n0 a0 z0 w0b hi0 hx0 h hb0 hr0=>?_
  ·clear hm0
   exact wx w0 (Alp) (Am6) Z5 26 [false] [] [] 0 [] _ hC [pq (Bf hl0)] hn0
  ·unfold Wo at h
   rcases cB h with⟨h1,h⟩ | ⟨h1,h⟩
   ·have hq:=hret0 _ (hr0 _ (sI h).symm)
    replace hq:=sI hq
    subst hq
    exact wr Z5 35 [true,true] [pt hx0 hl0] [] 0 [] hC [pq (A9 hi0 hl0),pq h1]
   ·exact wx w0b (uZ x0 (n0+1)) (Ain (n0+1)) Z5 36 [true,false] [pt hx0 hl0] [] 0 [] _ hC [pq (A9 hi0 hl0),pq h1] (sI h).symm
 ·have h:=hnext0 _ hs0
  replace h:=sI h
  subst h
  exact wr Z5 23 [] [] [] 0 [] hC []
theorem A9s:EN 117:=en Tryz.func117
def Af1:List Nat:=[0,1,2,3,4,6,7,8,9,11,12,13,14,33]
def Za (x0:Aa) (x2:Int) (n0:Nat) (z0:Int):St:=[(2,dI x2),(4,dO 0 0),(6,dI 0),(7,dI z0),(11,.d (DS q70 x0.Ad)),(12,dI (ln x0.Ad)),(13,dI (cnt 0 n0))]
def Ac7 (x1:Ab) (n0:Nat) (z0:Int):List Res:=[.box 39 (d39 x1)]
def Arf  (z0:Int):St:=[(6,dI 0),(7,dI z0)]
def Au8  (z0:Int):List Res:=[]
theorem k92 (x0:Aa) (x1:Ab) (x2:Int) (r:Int) (h:F92 x0 x1 x2=some r):CO 92 [.agg (d30 x0),.agg (d39 x1),.d (I x2)] [] (.d (I r)) []:=by
 unfold F92 at h
 refine co 38 Tryz.func92 λ C hC=>?_
 refine ws Af1 28 [] [pl q70 x0.Ad] [] 0 [1] (Za x0 x2 0 0) (Ac7 x1 0 0) hC [] ?_
 obtain⟨w0,hm0,hret0,hnext0⟩:=As h
 clear h
 refine wc w0 (Arf) (Au8) ?_ λ z0 hs0=>?_
 ·refine wb ?_
  refine Bt 11 rfl λ hl0=>?_
  refine wl (Za x0 x2) (Ac7 x1) hm0 (λ z0 hn0=>?_) λ n0 a0 z0 w0b hi0 hx0 h hb0 hr0=>?_
  ·clear hm0
   exact wx w0 (Arf) (Au8) Af1 26 [false] [] [] 0 [] _ hC [pq (Bf hl0)] hn0
  ·unfold Ais at h
   obtain⟨y1,h2,h⟩:=Az h
   rcases cB h with⟨h3,h⟩ | ⟨h3,h⟩
   ·exact wx w0b (Za x0 x2 (n0+1)) (Ac7 x1 (n0+1)) Af1 36 [true,true] [pt hx0 hl0,pR pB h2] [] 0 [0] _ hC [pq (A9 hi0 hl0),pq h3] (sI h).symm
   ·exact wx w0b (Za x0 x2 (n0+1)) (Ac7 x1 (n0+1)) Af1 36 [true,false] [pt hx0 hl0,pR pB h2] [] 0 [0] _ hC [pq (A9 hi0 hl0),pq h3] (sI h).symm
 ·have h:=hnext0 _ hs0
  replace h:=sI h
  subst h
  exact wr Af1 23 [] [] [] 0 [] hC []
theorem e92:EN 92:=en Tryz.func92
theorem k93 (x0:List Bool) (r:List Bool) (h:F93 x0=some r):CO 93 [.d (.p (.s (x0.map pB)))] [] (.d (.os 0)) [v2_ r]:=by
 unfold F93 at h
 refine co 8 Tryz.func93 λ C hC=>?_
 refine ws [0,4] 40 [] [] [] 0 [] [(0,.d (.p (.s (x0.map pB)))),(4,.d (.nq (x0.map pB)))] [] hC [] ?_
 refine V9 4 (by kernel_rfl) (by kernel_rfl) rfl (λ hn=>?_) ?_
 ·have hx:x0=[]:=by cases x0 with | nil=>rfl | cons=>cases hn
  subst hx
  have hr:r=[]:=by simpa [appI] using h.symm
  subst hr
  exact wr [2] 40 [] [] [.own 2 4 1] 0 [0] hC []
 ·exact wr [2] 40 [] [⟨.own,trivial⟩,⟨.app [] (x0.map pB) 1 ((([]:List (List Pd)).length+(x0.map pB).length)*(1+1)) (r.map pB),H2 (l:=[]) pB 1 (λ _=>rfl) h⟩] [] 0 [1] hC []
theorem e93:EN 93:=en Tryz.func93
theorem k94 (x0:List Af) (r:List Af) (h:F94 x0=some r):CO 94 [.d (.p (.s (x0.map q93)))] [] (.d (.os 0)) [v4_ r]:=by
 unfold F94 at h
 refine co 8 Tryz.func94 λ C hC=>?_
 refine ws [0,4] 40 [] [] [] 0 [] [(0,.d (.p (.s (x0.map q93)))),(4,.d (.nq (x0.map q93)))] [] hC [] ?_
 refine V9 4 (by kernel_rfl) (by kernel_rfl) rfl (λ hn=>?_) ?_
 ·have hx:x0=[]:=by cases x0 with | nil=>rfl | cons=>cases hn
  subst hx
  have hr:r=[]:=by simpa [appI] using h.symm
  subst hr
  exact wr [2] 40 [] [] [.own 2 93 4] 0 [0] hC []
 ·exact wr [2] 40 [] [⟨.own,trivial⟩,⟨.app [] (x0.map q93) 4 ((([]:List (List Pd)).length+(x0.map q93).length)*(32+1)) (r.map q93),H2 (l:=[]) q93 4 (λ _=>rfl) h⟩] [] 0 [1] hC []
theorem e94:EN 94:=en Tryz.func94
theorem k95 (x0:List Int) (r:List Int) (h:F95 x0=some r):CO 95 [.d (.p (.s (x0.map pI)))] [] (.d (.os 0)) [v0_ r]:=by
 unfold F95 at h
 refine co 8 Tryz.func95 λ C hC=>?_
 refine ws [0,4] 40 [] [] [] 0 [] [(0,.d (.p (.s (x0.map pI)))),(4,.d (.nq (x0.map pI)))] [] hC [] ?_
 refine V9 4 (by kernel_rfl) (by kernel_rfl) rfl (λ hn=>?_) ?_
 ·have hx:x0=[]:=by cases x0 with | nil=>rfl | cons=>cases hn
  subst hx
  have hr:r=[]:=by simpa [appI] using h.symm
  subst hr
  exact wr [2] 40 [] [] [.own 2 3 1] 0 [0] hC []
 ·exact wr [2] 40 [] [⟨.own,trivial⟩,⟨.app [] (x0.map pI) 1 ((([]:List (List Pd)).length+(x0.map pI).length)*(8+1)) (r.map pI),H2 (l:=[]) pI 1 (λ _=>rfl) h⟩] [] 0 [1] hC []
theorem e95:EN 95:=en Tryz.func95
theorem k96 (x0:List Ak) (r:List Ak) (h:F96 x0=some r):CO 96 [.d (.p (.s (x0.map q96)))] [] (.d (.os 0)) [v3_ r]:=by
 unfold F96 at h
 refine co 8 Tryz.func96 λ C hC=>?_
 refine ws [0,4] 40 [] [] [] 0 [] [(0,.d (.p (.s (x0.map q96)))),(4,.d (.nq (x0.map q96)))] [] hC [] ?_
 refine V9 4 (by kernel_rfl) (by kernel_rfl) rfl (λ hn=>?_) ?_
 ·have hx:x0=[]:=by cases x0 with | nil=>rfl | cons=>cases hn
  subst hx
  have hr:r=[]:=by simpa [appI] using h.symm
  subst hr
  exact wr [2] 40 [] [] [.own 2 96 2] 0 [0] hC []
 ·exact wr [2] 40 [] [⟨.own,trivial⟩,⟨.app [] (x0.map q96) 2 ((([]:List (List Pd)).length+(x0.map q96).length)*(16+1)) (r.map q96),H2 (l:=[]) q96 2 (λ _=>rfl) h⟩] [] 0 [1] hC []
theorem e96:EN 96:=en Tryz.func96
def Mm:List Nat:=[0,1,2,3,4,5,6,7,8,9,14,15,16,24,25,26,28,29,30,31,44]
def Adu (y1:List Int) (n0:Nat) (z0:(List Int)):St:=[(2,dO 0 0),(3,dO 1 0),(4,.d (DS pI [])),(5,dS 2),(14,dI (ln y1)),(15,dI (cnt 0 n0))]
def Aph (x0:Aa) (x1:Ab) (n0:Nat) (z0:(List Int)):List Res:=[.box 30 (d30 x0),.box 39 (d39 x1),v0_ z0]
def Are  (z0:(List Int)):St:=[(2,dO 0 0),(3,dO 1 0),(4,.d (DS pI [])),(5,dS 2)]
def Au7 (x0:Aa) (x1:Ab) (z0:(List Int)):List Res:=[.box 30 (d30 x0),.box 39 (d39 x1),v0_ z0]
def Adt (z0:(List Int)) (n1:Nat) (z1:(List Int)):St:=[(2,dO 0 0),(3,dO 1 0),(4,.d (DS pI [])),(5,dS 2),(24,dI (ln z0)),(25,dI (cnt 0 n1))]
def Apg (x0:Aa) (x1:Ab) (n1:Nat) (z1:(List Int)):List Res:=[.box 30 (d30 x0),.box 39 (d39 x1),v0_ z1]
def Ard  (z1:(List Int)):St:=[(4,.d (DS pI [])),(5,dS 0)]
def Au6  (z1:(List Int)):List Res:=[v0_ z1]
def Y_ (x0:Aa) (z0:(List Int)) (n1:Nat) (n2:Nat) (z2:(List Int)):St:=[(2,dO 0 0),(3,dO 1 0),(4,.d (DS pI [])),(5,dS 2),(24,dI (ln z0)),(25,dI (cnt 0 n1)),(28,.d (DS q70 x0.Ad)),(29,dI (ln x0.Ad)),(30,dI (cnt 0 n2))]
def Ac6 (x0:Aa) (x1:Ab) (n2:Nat) (z2:(List Int)):List Res:=[.box 30 (d30 x0),.box 39 (d39 x1),v0_ z2]
def Arc (z0:(List Int)) (n1:Nat) (z2:(List Int)):St:=[(2,dO 0 0),(3,dO 1 0),(4,.d (DS pI [])),(5,dS 2),(24,dI (ln z0)),(25,dI (cnt 0 n1))]
def Au5 (x0:Aa) (x1:Ab) (z2:(List Int)):List Res:=[.box 30 (d30 x0),.box 39 (d39 x1),v0_ z2]
theorem k97 (x0:Aa) (x1:Ab) (r:(List Int)) (h:F97 x0 x1=some r):CO 97 [.agg (d30 x0),.agg (d39 x1)] [] (.d (.os 0)) [v0_ r]:=by
 unfold F97 at h
 refine co 69 Tryz.func97 λ C hC=>?_
 obtain⟨y1,h2,h⟩:=Az h
 refine ws Mm 28 [] [⟨.room (x0.An*(8+1)) (List.replicate (Int.toNat x0.An) (pI 0)) (y1.map pI),Jz h2⟩,pl pI y1] [] 0 n3_ (Adu y1 0 y1) (Aph x0 x1 0 y1) hC [] ?_
 obtain⟨w0,hm0,hret0,hnext0⟩:=As h
 clear h
 refine wc w0 (Are) (Au7 x0 x1) ?_ λ z0 hs0=>?_
 ·refine wb ?_
  refine Cm 5 2 rfl rfl λ hl0=>?_
  refine wl (Adu y1) (Aph x0 x1) hm0 (λ z0 hn0=>?_) λ n0 a0 z0 w0b hi0 hx0 h hb0 hr0=>?_
  ·clear hm0
   exact wx w0 (Are) (Au7 x0 x1) Mm 26 [false] [] [] 0 n3_ _ hC [pq (Bf hl0)] hn0
  ·unfold Air at h
   obtain⟨y3,h4,y5,h6,h⟩:=Bc h
   exact wx w0b (Adu y1 (n0+1)) (Aph x0 x1 (n0+1)) Mm 33 [true] [pr pI h4,pu pI h4 h6] [] 0 n3_ _ hC [pq (A9 hi0 hl0)] (sI h).symm
 ·have h := hnext0 _ hs0
  refine ws Mm 24 [] [pl pI z0] [] 0 n3_ (Adt z0 0 z0) (Apg x0 x1 0 z0) hC [] ?_
  obtain⟨w1,hm1,hret1,hnext1⟩:=As h
  clear h
  refine wc w1 (Ard) (Au6) ?_ λ z1 hs1=>?_
  ·refine wb ?_
   refine Cm 5 2 rfl rfl λ hl1=>?_
   refine wl (Adt z0) (Apg x0 x1) hm1 (λ z1 hn1=>?_) λ n1 a1 z1 w1b hi1 hx1 h hb1 hr1=>?_
   ·clear hm1
    exact wx w1 (Ard) (Au6) Mm 26 [false] [] [] 0 [2] _ hC [pq (Bf hl1)] hn1
   ·unfold Aiq at h
    refine ws Mm 30 [true] [pl q70 x0.Ad] [] 0 n3_ (Y_ x0 z0 n1 0 z1) (Ac6 x0 x1 0 z1) hC [pq (A9 hi1 hl1)] ?_
    obtain⟨w2,hm2,hret2,hnext2⟩:=As h
    clear h
    refine wc w2 (Arc z0 n1) (Au5 x0 x1) ?_ λ z2 hs2=>?_
    ·refine wb ?_
     refine Bt 28 rfl λ hl2=>?_
     refine wl (Y_ x0 z0 n1) (Ac6 x0 x1) hm2 (λ z2 hn2=>?_) λ n2 a2 z2 w2b hi2 hx2 h hb2 hr2=>?_
     ·clear hm2
      exact wx w2 (Arc z0 n1) (Au5 x0 x1) Mm 26 [false] [] [] 0 n3_ _ hC [pq (Bf hl2)] hn2
     ·unfold qH at h
      obtain⟨y7,h8,h⟩:=Az h
      rcases cB h with⟨h9,h⟩ | ⟨h9,h⟩
      ·obtain⟨y10,h11,y12,h13,y14,h15,h⟩:=B3 h
       obtain⟨y16,h17,y18,h19,h⟩:=Bc h
       exact wx w2b (Y_ x0 z0 n1 (n2+1)) (Ac6 x0 x1 (n2+1)) Mm 38 [true,true] [pt hx2 hl2,pR pB h8,pr pI h11,pn pI h11,pr pI h13,pn pI h13,pr pI h11,pu pI h11 h15,pr pI h17,pu pI h17 h19] [] 0 n3_ _ hC [pq (A9 hi2 hl2),pq h9] (sI h).symm
      ·exact wx w2b (Y_ x0 z0 n1 (n2+1)) (Ac6 x0 x1 (n2+1)) Mm 36 [true,false] [pt hx2 hl2,pR pB h8] [] 0 n3_ _ hC [pq (A9 hi2 hl2),pq h9] (sI h).symm
    ·have h:=hnext2 _ hs2
     exact wx w1b (Adt z0 (n1+1)) (Apg x0 x1 (n1+1)) Mm 23 [] [] [] 0 n3_ _ hC [] (sI h).symm
  ·have h:=hnext1 _ hs1
   replace h:=sI h
   subst h
   exact wr Mm 23 [] [] [] 0 [0] hC []
theorem e97:EN 97:=en Tryz.func97
def Z4:List Nat:=[0,1,2,3,4,5,8,9,10,11,13,14,15,16,36]
def uY (x0:Aa) (x2:Int) (x3:Int) (n0:Nat) (z0:Unit):St:=[(2,dI x2),(3,dI x3),(5,dO 0 0),(8,dI 0),(9,dB false),(13,.d (DS q70 x0.Ad)),(14,dI (ln x0.Ad)),(15,dI (cnt 0 n0))]
def Aim (x1:Ab) (n0:Nat) (z0:Unit):List Res:=[.box 39 (d39 x1)]
def Alo  (z0:Unit):St:=[(8,dI 0),(9,dB false)]
def Am5  (z0:Unit):List Res:=[]
theorem A37 (x0:Aa) (x1:Ab) (x2:Int) (x3:Int) (r:Int×Bool) (h:zP x0 x1 x2 x3=some r):CO 120 [.agg (d30 x0),.agg (d39 x1),.d (I x2),.d (I x3)] [] (.tup [.d (I r.1),.d (Bo r.2)]) []:=by
 unfold zP at h
 refine co 40 Tryz.func120 λ C hC=>?_
 refine ws Z4 26 [] [pl q70 x0.Ad] [] 0 [1] (uY x0 x2 x3 0 ()) (Aim x1 0 ()) hC [] ?_
 obtain⟨w0,hm0,hret0,hnext0⟩:=As h
 clear h
 refine wc w0 (Alo) (Am5) ?_ λ z0 hs0=>?_
 ·refine wb ?_
  refine Bt 13 rfl λ hl0=>?_
  refine wl (uY x0 x2 x3) (Aim x1) hm0 (λ z0 hn0=>?_) λ n0 a0 z0 w0b hi0 hx0 h hb0 hr0=>?_
  ·clear hm0
   exact wx w0 (Alo) (Am5) Z4 26 [false] [] [] 0 [] _ hC [pq (Bf hl0)] hn0
  ·unfold Wn at h
   obtain⟨y1,h2,h⟩:=Az h
   rcases cB h with⟨h3,h⟩ | ⟨h3,h⟩
   ·have hq:=hret0 _ (hr0 _ (sI h).symm)
    replace hq:=sI hq
    subst hq
    exact wr Z4 35 [true,true] [pt hx0 hl0,pR pB h2] [] 0 [] hC [pq (A9 hi0 hl0),pq h3]
   ·exact wx w0b (uY x0 x2 x3 (n0+1)) (Aim x1 (n0+1)) Z4 36 [true,false] [pt hx0 hl0,pR pB h2] [] 0 [0] _ hC [pq (A9 hi0 hl0),pq h3] (sI h).symm
 ·have h:=hnext0 _ hs0
  replace h:=sI h
  subst h
  exact wr Z4 23 [] [] [] 0 [] hC []
theorem A5m:EN 120:=en Tryz.func120
theorem A4c (x0:Ah) (r:Bool) (h:Aqr x0=r):CO 101 [.agg (H9 x0)] [] (.d (Bo r)) []:=by
 unfold Aqr at h
 refine co 7 Tryz.func101 λ C hC=>?_
 subst h
 exact wr n3_ 25 [] [pl pI x0.An] [] 0 [] hC []
theorem A5r:EN 101:=en Tryz.func101
def Zt:List Nat:=[0,1,2,3,5,7,8,9,10,11]
def Xg (x1:List Int) (n0:Nat) (z0:(List Af)):St:=[(3,dO 4 0),(5,dO 5 0),(8,.d (DS pI x1)),(9,dI (ln x1)),(10,dI (cnt 0 n0))]
def yY (x0:Ab) (x2:Af) (n0:Nat) (z0:(List Af)):List Res:=[v2_ x0.Ag,v4_ z0,v0_ x0.Ap,v3_ x0.Am,.box 39 [.os 0,.os 1,.os 2,.os 3],.box 93 (d93 x2)]
def Ae4  (z0:(List Af)):St:=[]
def Ahw (x0:Ab) (z0:(List Af)):List Res:=[v2_ x0.Ag,v4_ z0,v0_ x0.Ap,v3_ x0.Am]
theorem Aob (x0:Ab) (x1:List Int) (x2:Af) (r:(List Af)) (h:Q_ x0 x1 x2=some r):CO 68 [.agg [.os 0,.os 1,.os 2,.os 3],.d (DS pI x1),.agg (d93 x2)] (zp x0 []) (.tup []) [v2_ x0.Ag,v4_ r,v0_ x0.Ap,v3_ x0.Am]:=by
 unfold Q_ at h
 refine co 29 Tryz.func68 λ C hC=>?_
 refine ws Zt 25 [] [pl pI x1] [] 4 n6_ (Xg x1 0 x0.Ac) (yY x0 x2 0 x0.Ac) hC [] ?_
 obtain⟨w0,hm0,hret0,hnext0⟩:=As h
 clear h
 refine wc w0 (Ae4) (Ahw x0) ?_ λ z0 hs0=>?_
 ·refine wb ?_
  refine Bt 8 rfl λ hl0=>?_
  refine wl (Xg x1) (yY x0 x2) hm0 (λ z0 hn0=>?_) λ n0 a0 z0 w0b hi0 hx0 h hb0 hr0=>?_
  ·clear hm0
   exact wx w0 (Ae4) (Ahw x0) Zt 26 [false] [] [] 4 n4_ _ hC [pq (Bf hl0)] hn0
  ·unfold Yy at h
   obtain⟨y1,h2,y3,h4,y5,h6,y7,h8,h⟩:=Cv h
   exact wx w0b (Xg x1 (n0+1)) (yY x0 x2 (n0+1)) Zt 33 [true] [pt hx0 hl0,pr q93 h2,pu q93 h2 h4,pr q93 h6,pu q93 h6 h8] [] 4 n6_ _ hC [pq (A9 hi0 hl0)] (sI h).symm
 ·have h:=hnext0 _ hs0
  replace h:=sI h
  subst h
  exact wf Zt 20 [] [] [] 4 n4_ hC []
theorem Aor:EN 68:=en Tryz.func68
theorem k49 (x0:A5) (r:Bool) (h:F49 x0=r):CO 49 [.agg (d33 x0)] [] (.d (Bo r)) []:=by
 unfold F49 at h
 refine co 33 Tryz.func49 λ C hC=>?_
 subst h
 exact wr n3_ 25 [] [] [] 0 [] hC []
theorem e49:EN 49:=en Tryz.func49
def vQ:List Nat:=[0,1,4,5,10,12,13,14,24]
def Ad1 (x0:List Bool) (x1:List Bool) (n0:Nat) (z0:Unit):St:=[(0,.d (DS pB x0)),(1,.d (DS pB x1)),(4,dB false),(12,dI (ln x0)),(13,dI (cnt 0 n0))]
def Apo  (n0:Nat) (z0:Unit):List Res:=[]
def Arp  (z0:Unit):St:=[(4,dB false)]
def Avh  (z0:Unit):List Res:=[]
theorem k69 (x0:List Bool) (x1:List Bool) (r:Bool) (h:F69 x0 x1=some r):CO 69 [.d (DS pB x0),.d (DS pB x1)] [] (.d (Bo r)) []:=by
 unfold F69 at h
 refine co 26 Tryz.func69 λ C hC=>?_
 rcases cB h with⟨h1,h⟩ | ⟨h1,h⟩
 ·replace h:=sI h
  subst h
  exact wr vQ 29 [true] [pl pB x0,pl pB x1] [] 0 [] hC [pq h1]
 ·refine ws vQ 31 [false] [pl pB x0,pl pB x1,pl pB x0] [] 0 [] (Ad1 x0 x1 0 ()) (Apo 0 ()) hC [pq h1] ?_
  obtain⟨w0,hm0,hret0,hnext0⟩:=As h
  clear h
  refine wc w0 (Arp) (Avh) ?_ λ z0 hs0=>?_
  ·refine wb ?_
   refine Bt 0 rfl λ hl0=>?_
   refine wl (Ad1 x0 x1) (Apo) hm0 (λ z0 hn0=>?_) λ n0 a0 z0 w0b hi0 hx0 h hb0 hr0=>?_
   ·clear hm0
    exact wx w0 (Arp) (Avh) vQ 26 [false] [] [] 0 [] _ hC [pq (Bf hl0)] hn0
   ·unfold qP at h
    obtain⟨y2,h3,h⟩:=Az h
    rcases cB h with⟨h4,h⟩ | ⟨h4,h⟩
    ·have hq:=hret0 _ (hr0 _ (sI h).symm)
     replace hq:=sI hq
     subst hq
     exact wr vQ 35 [true,true] [pt hx0 hl0,pr pB h3] [] 0 [] hC [pq (A9 hi0 hl0),pq h4]
    ·exact wx w0b (Ad1 x0 x1 (n0+1)) (Apo (n0+1)) vQ 36 [true,false] [pt hx0 hl0,pr pB h3] [] 0 [] _ hC [pq (A9 hi0 hl0),pq h4] (sI h).symm
  ·have h:=hnext0 _ hs0
   replace h:=sI h
   subst h
   exact wr vQ 23 [] [] [] 0 [] hC []
theorem e69:EN 69:=en Tryz.func69
def vP:List Nat:=[0,1,4,5,10,12,13,14,24]
def Ad0 (x0:List Af) (x1:List Af) (n0:Nat) (z0:Unit):St:=[(0,.d (DS q93 x0)),(1,.d (DS q93 x1)),(4,dB false),(12,dI (ln x0)),(13,dI (cnt 0 n0))]
def Apn  (n0:Nat) (z0:Unit):List Res:=[]
def Aro  (z0:Unit):St:=[(4,dB false)]
def Avg  (z0:Unit):List Res:=[]
theorem k70 (x0:List Af) (x1:List Af) (r:Bool) (h:F70 x0 x1=some r):CO 70 [.d (DS q93 x0),.d (DS q93 x1)] [] (.d (Bo r)) []:=by
 unfold F70 at h
 refine co 26 Tryz.func70 λ C hC=>?_
 rcases cB h with⟨h1,h⟩ | ⟨h1,h⟩
 ·replace h:=sI h
  subst h
  exact wr vP 29 [true] [pl q93 x0,pl q93 x1] [] 0 [] hC [pq h1]
 ·refine ws vP 31 [false] [pl q93 x0,pl q93 x1,pl q93 x0] [] 0 [] (Ad0 x0 x1 0 ()) (Apn 0 ()) hC [pq h1] ?_
  obtain⟨w0,hm0,hret0,hnext0⟩:=As h
  clear h
  refine wc w0 (Aro) (Avg) ?_ λ z0 hs0=>?_
  ·refine wb ?_
   refine Bt 0 rfl λ hl0=>?_
   refine wl (Ad0 x0 x1) (Apn) hm0 (λ z0 hn0=>?_) λ n0 a0 z0 w0b hi0 hx0 h hb0 hr0=>?_
   ·clear hm0
    exact wx w0 (Aro) (Avg) vP 26 [false] [] [] 0 [] _ hC [pq (Bf hl0)] hn0
   ·unfold qO at h
    obtain⟨y2,h3,h⟩:=Az h
    rcases cB h with⟨h4,h⟩ | ⟨h4,h⟩
    ·have hq:=hret0 _ (hr0 _ (sI h).symm)
     replace hq:=sI hq
     subst hq
     exact wr vP 35 [true,true] [pt hx0 hl0,pr q93 h3] [] 0 [] hC [pq (A9 hi0 hl0),pq h4]
    ·exact wx w0b (Ad0 x0 x1 (n0+1)) (Apn (n0+1)) vP 36 [true,false] [pt hx0 hl0,pr q93 h3] [] 0 [] _ hC [pq (A9 hi0 hl0),pq h4] (sI h).symm
  ·have h:=hnext0 _ hs0
   replace h:=sI h
   subst h
   exact wr vP 23 [] [] [] 0 [] hC []
theorem e70:EN 70:=en Tryz.func70
def vO:List Nat:=[0,1,4,5,10,12,13,14,24]
def Adz (x0:List Int) (x1:List Int) (n0:Nat) (z0:Unit):St:=[(0,.d (DS pI x0)),(1,.d (DS pI x1)),(4,dB false),(12,dI (ln x0)),(13,dI (cnt 0 n0))]
def Apm  (n0:Nat) (z0:Unit):List Res:=[]
def Arn  (z0:Unit):St:=[(4,dB false)]
def Avf  (z0:Unit):List Res:=[]
theorem k71 (x0:List Int) (x1:List Int) (r:Bool) (h:F71 x0 x1=some r):CO 71 [.d (DS pI x0),.d (DS pI x1)] [] (.d (Bo r)) []:=by
 unfold F71 at h
 refine co 26 Tryz.func71 λ C hC=>?_
 rcases cB h with⟨h1,h⟩ | ⟨h1,h⟩
 ·replace h:=sI h
  subst h
  exact wr vO 29 [true] [pl pI x0,pl pI x1] [] 0 [] hC [pq h1]
 ·refine ws vO 31 [false] [pl pI x0,pl pI x1,pl pI x0] [] 0 [] (Adz x0 x1 0 ()) (Apm 0 ()) hC [pq h1] ?_
  obtain⟨w0,hm0,hret0,hnext0⟩:=As h
  clear h
  refine wc w0 (Arn) (Avf) ?_ λ z0 hs0=>?_
  ·refine wb ?_
   refine Bt 0 rfl λ hl0=>?_
   refine wl (Adz x0 x1) (Apm) hm0 (λ z0 hn0=>?_) λ n0 a0 z0 w0b hi0 hx0 h hb0 hr0=>?_
   ·clear hm0
    exact wx w0 (Arn) (Avf) vO 26 [false] [] [] 0 [] _ hC [pq (Bf hl0)] hn0
   ·unfold qN at h
    obtain⟨y2,h3,h⟩:=Az h
    rcases cB h with⟨h4,h⟩ | ⟨h4,h⟩
    ·have hq:=hret0 _ (hr0 _ (sI h).symm)
     replace hq:=sI hq
     subst hq
     exact wr vO 35 [true,true] [pt hx0 hl0,pr pI h3] [] 0 [] hC [pq (A9 hi0 hl0),pq h4]
    ·exact wx w0b (Adz x0 x1 (n0+1)) (Apm (n0+1)) vO 36 [true,false] [pt hx0 hl0,pr pI h3] [] 0 [] _ hC [pq (A9 hi0 hl0),pq h4] (sI h).symm
  ·have h:=hnext0 _ hs0
   replace h:=sI h
   subst h
   exact wr vO 23 [] [] [] 0 [] hC []
theorem e71:EN 71:=en Tryz.func71
def vN:List Nat:=[0,1,4,5,10,12,13,14,24]
def Ady (x0:List Ak) (x1:List Ak) (n0:Nat) (z0:Unit):St:=[(0,.d (DS q96 x0)),(1,.d (DS q96 x1)),(4,dB false),(12,dI (ln x0)),(13,dI (cnt 0 n0))]
def Apl  (n0:Nat) (z0:Unit):List Res:=[]
def Arm  (z0:Unit):St:=[(4,dB false)]
def Ave  (z0:Unit):List Res:=[]
theorem k72 (x0:List Ak) (x1:List Ak) (r:Bool) (h:F72 x0 x1=some r):CO 72 [.d (DS q96 x0),.d (DS q96 x1)] [] (.d (Bo r)) []:=by
 unfold F72 at h
 refine co 26 Tryz.func72 λ C hC=>?_
 rcases cB h with⟨h1,h⟩ | ⟨h1,h⟩
 ·replace h:=sI h
  subst h
  exact wr vN 29 [true] [pl q96 x0,pl q96 x1] [] 0 [] hC [pq h1]
 ·refine ws vN 31 [false] [pl q96 x0,pl q96 x1,pl q96 x0] [] 0 [] (Ady x0 x1 0 ()) (Apl 0 ()) hC [pq h1] ?_
  obtain⟨w0,hm0,hret0,hnext0⟩:=As h
  clear h
  refine wc w0 (Arm) (Ave) ?_ λ z0 hs0=>?_
  ·refine wb ?_
   refine Bt 0 rfl λ hl0=>?_
   refine wl (Ady x0 x1) (Apl) hm0 (λ z0 hn0=>?_) λ n0 a0 z0 w0b hi0 hx0 h hb0 hr0=>?_
   ·clear hm0
    exact wx w0 (Arm) (Ave) vN 26 [false] [] [] 0 [] _ hC [pq (Bf hl0)] hn0
   ·unfold qM at h
    obtain⟨y2,h3,h⟩:=Az h
    rcases cB h with⟨h4,h⟩ | ⟨h4,h⟩
    ·have hq:=hret0 _ (hr0 _ (sI h).symm)
     replace hq:=sI hq
     subst hq
     exact wr vN 35 [true,true] [pt hx0 hl0,pr q96 h3] [] 0 [] hC [pq (A9 hi0 hl0),pq h4]
    ·exact wx w0b (Ady x0 x1 (n0+1)) (Apl (n0+1)) vN 36 [true,false] [pt hx0 hl0,pr q96 h3] [] 0 [] _ hC [pq (A9 hi0 hl0),pq h4] (sI h).symm
  ·have h:=hnext0 _ hs0
   replace h:=sI h
   subst h
   exact wr vN 23 [] [] [] 0 [] hC []
theorem e72:EN 72:=en Tryz.func72
theorem Azp (x0:Int) (x1:Ar) (r:Bool) (h:Ra x0 x1=r):CO 48 [.d (I x0),.d (.ip [.v (.int .i64 x1.Time),.s (x1.Power.Ag.map pB),.s (x1.Power.Ac.map q93),.s (x1.Power.Ap.map pI),.s (x1.Power.Am.map q96),.s (x1.A2.map q84),.s (x1.A8.map q65)])] [] (.d (Bo r)) []:=by
 unfold Ra at h
 refine co 12 Tryz.func48 λ C hC=>?_
 subst h
 exact wr [0,1,3] 25 [] [] [] 0 [] hC []
theorem Azu:EN 48:=en Tryz.func48
theorem k30 (x0:Ar) (r:Ar) (h:F30 x0=some r):CO 30 [.agg (d43 x0)] [] (.agg [I r.Time,.os 0,.os 1,.os 2,.os 3,.os 4,.os 5]) (zp r.Power [v5_ r.A2,v1_ r.A8]):=by
 unfold F30 at h
 refine co 36 Tryz.func30 λ C hC=>?_
 obtain⟨y1,h2,y3,h4,y5,h6,y7,h8,h⟩:=Cv h
 obtain⟨y9,h10,y11,h12,h⟩:=Bc h
 replace h:=sI h
 subst h
 exact wr n3_ 31 [] [⟨.app [] (x0.A2.map q84) 2 ((x0.A2.map q84).length*(16+1)) (y1.map q84),Fs q84 2 (λ _=>rfl) h2⟩,⟨.app [] (x0.A8.map q65) 5 ((x0.A8.map q65).length*(40+1)) (y3.map q65),Fs q65 5 (λ _=>rfl) h4⟩,⟨.app [] (x0.Power.Ag.map pB) 1 ((x0.Power.Ag.map pB).length*(1+1)) (y5.map pB),Fs pB 1 (λ _=>rfl) h6⟩,⟨.app [] (x0.Power.Ac.map q93) 4 ((x0.Power.Ac.map q93).length*(32+1)) (y7.map q93),Fs q93 4 (λ _=>rfl) h8⟩,⟨.app [] (x0.Power.Ap.map pI) 1 ((x0.Power.Ap.map pI).length*(8+1)) (y9.map pI),Fs pI 1 (λ _=>rfl) h10⟩,⟨.app [] (x0.Power.Am.map q96) 2 ((x0.Power.Am.map q96).length*(16+1)) (y11.map q96),Fs q96 2 (λ _=>rfl) h12⟩] [] 0 [7,9,11,13,3,5] hC []
theorem e30:EN 30:=en Tryz.func30
theorem A8z (x0:List Av) (r:List Av) (h:Aqq x0=some r):CO 102 [.d (.p (.s (x0.map q84)))] [] (.d (.os 0)) [v5_ r]:=by
 unfold Aqq at h
 refine co 8 Tryz.func102 λ C hC=>?_
 refine ws [0,4] 40 [] [] [] 0 [] [(0,.d (.p (.s (x0.map q84)))),(4,.d (.nq (x0.map q84)))] [] hC [] ?_
 refine V9 4 (by kernel_rfl) (by kernel_rfl) rfl (λ hn=>?_) ?_
 ·have hx:x0=[]:=by cases x0 with | nil=>rfl | cons=>cases hn
  subst hx
  have hr:r=[]:=by simpa [appI] using h.symm
  subst hr
  exact wr [2] 40 [] [] [.own 2 84 2] 0 [0] hC []
 ·exact wr [2] 40 [] [⟨.own,trivial⟩,⟨.app [] (x0.map q84) 2 ((([]:List (List Pd)).length+(x0.map q84).length)*(16+1)) (r.map q84),H2 (l:=[]) q84 2 (λ _=>rfl) h⟩] [] 0 [1] hC []
theorem A90:EN 102:=en Tryz.func102
theorem k79 (x0:List A6) (r:List A6) (h:F79 x0=some r):CO 79 [.d (.p (.s (x0.map q65)))] [] (.d (.os 0)) [v1_ r]:=by
 unfold F79 at h
 refine co 8 Tryz.func79 λ C hC=>?_
 refine ws [0,4] 40 [] [] [] 0 [] [(0,.d (.p (.s (x0.map q65)))),(4,.d (.nq (x0.map q65)))] [] hC [] ?_
 refine V9 4 (by kernel_rfl) (by kernel_rfl) rfl (λ hn=>?_) ?_
 ·have hx:x0=[]:=by cases x0 with | nil=>rfl | cons=>cases hn
  subst hx
  have hr:r=[]:=by simpa [appI] using h.symm
  subst hr
  exact wr [2] 40 [] [] [.own 2 65 5] 0 [0] hC []
 ·exact wr [2] 40 [] [⟨.own,trivial⟩,⟨.app [] (x0.map q65) 5 ((([]:List (List Pd)).length+(x0.map q65).length)*(40+1)) (r.map q65),H2 (l:=[]) q65 5 (λ _=>rfl) h⟩] [] 0 [1] hC []
theorem e79:EN 79:=en Tryz.func79
def Z2:List Nat:=[0,1,2,3,6,7,8,9,14,19,23]
theorem X2 (x0:Aa) (x1:Int) (x2:Int) (r:Bool) (h:J6 x0 x1 x2=r):CO 135 [.agg (d30 x0),.d (I x1),.d (I x2)] [] (.d (Bo r)) []:=by
 unfold J6 at h
 refine co 35 Tryz.func135 λ C hC=>?_
 rcases cB h with⟨h1,h⟩ | ⟨h1,h⟩
 ·subst h
  exact wr Z2 36 [true] [pl q72 x0.Ac] [] 0 [] hC [pq h1]
 ·rcases cB h with⟨h2,h⟩ | ⟨h2,h⟩
  ·subst h
   exact wr Z2 39 [false,true] [pl q70 x0.Ad] [] 0 [] hC [pq h1,pq h2]
  ·rcases cB h with⟨h3,h⟩ | ⟨h3,h⟩
   ·subst h
    exact wr Z2 42 [false,false,true] [] [] 0 [] hC [pq h1,pq h2,pq h3]
   ·rcases cB h with⟨h4,h⟩ | ⟨h4,h⟩
    ·subst h
     exact wr Z2 45 [false,false,false,true] [pl q81 x0.Ae] [] 0 [] hC [pq h1,pq h2,pq h3,pq h4]
    ·subst h
     exact wr Z2 45 [false,false,false,false] [] [] 0 [] hC [pq h1,pq h2,pq h3,pq h4]
theorem X8:EN 135:=en Tryz.func135
def Zu:List Nat:=[0,1,3,4,5,7,8,9,16]
def uN (x0:List Ak) (n0:Nat) (z0:Unit):St:=[(0,.d (DS q96 x0)),(3,dO 0 0),(4,dI 0),(7,dI (ln x0)),(8,dI (cnt 0 n0))]
def Ah9 (x1:Ak) (n0:Nat) (z0:Unit):List Res:=[.box 96 (d96 x1)]
def Ak7  (z0:Unit):St:=[(4,dI 0)]
def Amo  (z0:Unit):List Res:=[]
theorem A74 (x0:List Ak) (x1:Ak) (r:Int) (h:Aqm x0 x1=some r):CO 208 [.d (DS q96 x0),.agg (d96 x1)] [] (.d (I r)) []:=by
 unfold Aqm at h
 refine co 19 Tryz.func208 λ C hC=>?_
 refine ws Zu 26 [] [pl q96 x0] [] 0 [0] (uN x0 0 ()) (Ah9 x1 0 ()) hC [] ?_
 obtain⟨w0,hm0,hret0,hnext0⟩:=As h
 clear h
 refine wc w0 (Ak7) (Amo) ?_ λ z0 hs0=>?_
 ·refine wb ?_
  refine Bt 0 rfl λ hl0=>?_
  refine wl (uN x0) (Ah9 x1) hm0 (λ z0 hn0=>?_) λ n0 a0 z0 w0b hi0 hx0 h hb0 hr0=>?_
  ·clear hm0
   exact wx w0 (Ak7) (Amo) Zu 26 [false] [] [] 0 [] _ hC [pq (Bf hl0)] hn0
  ·unfold Anb at h
   rcases cB h with⟨h1,h⟩ | ⟨h1,h⟩
   ·have hq:=hret0 _ (hr0 _ (sI h).symm)
    replace hq:=sI hq
    subst hq
    exact wr Zu 35 [true,true] [pt hx0 hl0] [] 0 [] hC [pq (A9 hi0 hl0),pq h1]
   ·exact wx w0b (uN x0 (n0+1)) (Ah9 x1 (n0+1)) Zu 36 [true,false] [pt hx0 hl0] [] 0 [0] _ hC [pq (A9 hi0 hl0),pq h1] (sI h).symm
 ·have h:=hnext0 _ hs0
  replace h:=sI h
  subst h
  exact wr Zu 23 [] [] [] 0 [] hC []
theorem A85:EN 208:=en Tryz.func208
theorem Aoc (x0:Int) (r:Int) (h:Gz x0=r):CO 202 [.d (I x0)] [] (.d (I r)) []:=by
 unfold Gz at h
 refine co 10 Tryz.func202 λ C hC=>?_
 rcases cB h with⟨h1,h⟩ | ⟨h1,h⟩
 ·subst h
  exact wr [0,2,6] 32 [true] [⟨.nz 3600,Zr rfl⟩] [] 0 [] hC [pq h1]
 ·subst h
  exact wr [0,2,6] 32 [false] [⟨.nz 3600,Zr rfl⟩] [] 0 [] hC [pq h1]
theorem Aos:EN 202:=en Tryz.func202
theorem A26 (x0:Ai) (x1:Int) (r:Bool) (h:qT x0 x1=r):CO 211 [.agg (d70 x0),.d (.ip [.v (.int .i64 x1)])] [] (.d (Bo r)) []:=by
 unfold qT at h
 refine co 13 Tryz.func211 λ C hC=>?_
 subst h
 exact wr n4_ 25 [] [] [] 0 [] hC []
theorem A4l:EN 211:=en Tryz.func211
theorem A3y (x0:A1) (x1:Int) (x2:Int) (r:Int×A1) (h:Uz x0 x1 x2=some r):CO 141 [.d (.o 0 0),.d (I x1),.d (I x2)] (.box 175 (zb x0.Al [.os 1,.os 2,.os 3,.os 4,I x0.time])::zp x0.Au []) (.d (I r.1)) (.box 175 (zb r.2.Al [.os 1,.os 2,.os 3,.os 4,I r.2.time])::zp r.2.Au []):=by
 unfold Uz at h
 refine co 30 Tryz.func141 λ C hC=>?_
 obtain⟨y1,h2,h⟩:=Az h
 rcases cB h with⟨h3,h⟩ | ⟨h3,h⟩
 ·replace h:=sI h
  subst h
  exact wr [0,1,2,6,21] 29 [true] [pR q81 h2] [] 5 n5_ hC [pq h3]
 ·obtain⟨y4,h5,y6,h7,h⟩:=Bc h
  replace h:=sI h
  subst h
  exact wr [0,1,2,6,21] 32 [false] [pR q81 h2,pr pI h5,pu pI h5 h7] [] 5 n5_ hC [pq h3]
theorem A5d:EN 141:=en Tryz.func141
theorem A3g (x0:Ak) (x1:Ak) (r:Int) (h:Rj x0 x1=r):CO 178 [.agg (d96 x0),.agg (d96 x1)] [] (.d (I r)) []:=by
 unfold Rj at h
 refine co 20 Tryz.func178 λ C hC=>?_
 rcases cB h with⟨h1,h⟩ | ⟨h1,h⟩
 ·subst h
  exact wr [0,1,2,3,4,9] 29 [true] [] [] 0 [] hC [pq h1]
 ·subst h
  exact wr [0,1,2,3,4,9] 30 [false] [] [] 0 [] hC [pq h1]
theorem A4v:EN 178:=en Tryz.func178
def vX:List Nat:=[0,1,2,6,7,8,9,16,22,31,68]
theorem A3f (x0:List Ak) (x1:Int) (x2:List Ak) (r:(List Ak)) (h:Pk x0 x1 x2=some r):CO 179 [.d (.os 0),.d (I x1),.d (DS q96 x2)] [v3_ x0] (.d (.os 1)) [.non,v3_ r]:=by
 by_cases hh:((ln x2)==0)=false/\(x1==(ln x0))=false
 ·unfold Pk at h
  exact A1s (enc:=q96) (λ _=>rfl) hh.1 hh.2 h
 unfold Pk at h
 refine co 95 Tryz.func179 λ C hC=>?_
 obtain⟨u2,h1,h⟩:=Az h
 rcases cB h with⟨h3,h⟩ | ⟨h3,h⟩
 ·replace h:=sI h
  subst h
  exact wr vX 33 [true] [⟨.bnd (x0.map q96).length x1 (((x0.map q96).length:Nat):Int) (ln x0),E_ (by simp) (by simp) h1⟩,pl q96 x2] [.mv 0] 1 [0,1] hC [pq h3]
 ·refine wn vX 37 [false] [⟨.bnd (x0.map q96).length x1 (((x0.map q96).length:Nat):Int) (ln x0),E_ (by simp) (by simp) h1⟩,pl q96 x2,pl q96 x0] [] 1 [0] [0,1,2,6,7,8,22] hC [pq h3] ?_
  rcases cB h with⟨h4,h⟩ | ⟨h4,h⟩
  ·obtain⟨y5,h6,h⟩:=Az h
   replace h:=sI h
   subst h
   exact wr vX 24 [true] [pa q96 2 h6] [] 1 [0,1] hC [pq h4]
  ·exact absurd ⟨h3,h4⟩ hh
theorem A4u:EN 179:=en Tryz.func179
theorem A3e (x0:List Ak) (x1:Int) (x2:Int) (r:(List Ak)) (h:Ue x0 x1 x2=some r):CO 180 [.d (.os 0),.d (I x1),.d (I x2)] [.sl 96 2 (x0.map q96)] (.d (.os 1)) [.non,.sl 96 2 (r.map q96)]:=by
 unfold Ue at h
 refine co 33 Tryz.func180 λ C hC=>?_
 obtain⟨u2,h1,h⟩:=Az h
 rcases cB h with⟨h3,h⟩ | ⟨h3,h⟩
 ·replace h:=sI h
  subst h
  exact wr [0,1,2,6,7,16] 31 [true] [pl q96 x0,⟨.bnd3 (x0.map q96).length x1 x2 (ln x0),Aho (by simp) h1⟩] [.mv 0] 1 [0,1] hC [pq h3]
 ·obtain⟨u5,h4,u7,h6,y8,h9,u11,h10,h⟩:=Cv h
  replace h:=sI h
  subst h
  (rw [List.map_take];exact jZ (bs:=[((x1==x2),false)]) mixed [0,1,2,6,7,16] 38 [false] [.len (ln (x0.map q96)) (ln x0),.bnd3 (x0.map q96).length x1 x2 (ln x0),.len (ln (x0.map q96)) (ln x0),.bnd (x0.map q96).length 0 x1 x1,.bnd (x0.map q96).length x2 (((x0.map q96).length:Nat):Int) (ln x0),.appP (x0.map q96) (((x0.map q96).drop (Int.toNat x2)).take ((Int.toNat (ln x0))-(Int.toNat x2))) 2 ((Int.toNat x1)-0) (((Int.toNat x1)-0)+((x0.drop (Int.toNat x2)).take ((Int.toNat (ln x0))-(Int.toNat x2))).length) ((x0.map q96).take ((Int.toNat x1)-0)++((((x0.map q96).drop (Int.toNat x2)).take ((Int.toNat (ln x0))-(Int.toNat x2)))++(x0.map q96).drop (((Int.toNat x1)-0)+(((x0.map q96).drop (Int.toNat x2)).take ((Int.toNat (ln x0))-(Int.toNat x2))).length))) (y8.map q96),.len (((((Int.toNat x1)-0)+((x0.drop (Int.toNat x2)).take ((Int.toNat (ln x0))-(Int.toNat x2))).length):Nat):Int) (((((Int.toNat x1)-0)+((x0.drop (Int.toNat x2)).take ((Int.toNat (ln x0))-(Int.toNat x2))).length):Nat):Int),.bnd ((y8.map q96).length-0) (((((Int.toNat x1)-0)+((x0.drop (Int.toNat x2)).take ((Int.toNat (ln x0))-(Int.toNat x2))).length):Nat):Int) (ln x0) (ln x0),.eqr ((y8.map q96).take (0+(Int.toNat (((((Int.toNat x1)-0)+((x0.drop (Int.toNat x2)).take ((Int.toNat (ln x0))-(Int.toNat x2))).length):Nat):Int)))++(List.replicate ((Int.toNat (ln x0))-(Int.toNat (((((Int.toNat x1)-0)+((x0.drop (Int.toNat x2)).take ((Int.toNat (ln x0))-(Int.toNat x2))).length):Nat):Int))) (q96 (⟨0,0⟩:Ak))++(y8.map q96).drop ((0+(Int.toNat (((((Int.toNat x1)-0)+((x0.drop (Int.toNat x2)).take ((Int.toNat (ln x0))-(Int.toNat x2))).length):Nat):Int)))+((Int.toNat (ln x0))-(Int.toNat (((((Int.toNat x1)-0)+((x0.drop (Int.toNat x2)).take ((Int.toNat (ln x0))-(Int.toNat x2))).length):Nat):Int)))))) ((Gd y8 (0+(Int.toNat (((((Int.toNat x1)-0)+((x0.drop (Int.toNat x2)).take ((Int.toNat (ln x0))-(Int.toNat x2))).length):Nat):Int))) ((Int.toNat (ln x0))-(Int.toNat (((((Int.toNat x1)-0)+((x0.drop (Int.toNat x2)).take ((Int.toNat (ln x0))-(Int.toNat x2))).length):Nat):Int))) (⟨0,0⟩:Ak)).map q96)] [.trunc 6] [.tmp 6] 1 [0,1] rfl hC ⟨Vv _ _,Aho (by simp) h1,Vv _ _,E_ (by simp) rfl h4,E_ (by simp) (by simp) h6,Ayz q96 2 (λ _=>rfl) (Afo _ _ _ _) h9,rfl,E_ (by simp) rfl h10,yP q96 rfl,trivial⟩ ⟨h3,trivial⟩ (by kernel_rfl))
theorem A4t:EN 180:=en Tryz.func180
theorem Atd (x0:A4) (x1:Ao) (x2:Int) (r:A4) (h:Pp x0 x1 x2=some r):CO 103 [.d (.o 0 0),.agg (d63 x1),.d (I x2)] (.box 119 (I x0.A0.Time :: .os 1 :: .os 2 :: .os 3 :: .os 4 :: .os 5 :: .os 6::zb x0.Al [.os 7,.os 8])::zp x0.A0.Power [v5_ x0.A0.A2,v1_ x0.A0.A8,v1_ x0.events,v7_ x0.states]) (.tup []) (.box 119 (I r.A0.Time :: .os 1 :: .os 2 :: .os 3 :: .os 4 :: .os 5 :: .os 6::zb r.Al [.os 9,.os 8])::zp r.A0.Power [v5_ r.A0.A2,v1_ r.A0.A8,.non,v7_ r.states,v1_ r.events]):=by
 unfold Pp at h
 refine co 23 Tryz.func103 λ C hC=>?_
 obtain⟨y1,h2,h⟩:=Az h
 replace h:=sI h
 subst h
 exact wf [0,1,2,4] 23 [] [pa q65 5 h2] [] 9 [0,1,2,3,4,5,6,7,8,10] hC []
theorem At7:EN 103:=en Tryz.func103
theorem Af8 (x0:Ay) (x1:Int) (r:Ay) (h:M8 x0 x1=some r):CO 188 [.d (.o 0 0),.d (I x1)] (.box 214 (zb x0.Al [.os 1,.os 2,.os 3,.os 4,.os 5])::zp x0.Au [v6_ x0.acts]) (.tup []) (.box 214 (zb r.Al [.os 1,.os 2,.os 3,.os 4,.os 6])::zp r.Au [.non,v6_ r.acts]):=by
 unfold M8 at h
 refine co 22 Tryz.func188 λ C hC=>?_
 obtain⟨y1,h2,y3,h4,y5,h6,h⟩:=B3 h
 replace h:=sI h
 subst h
 exact wf [0,1] 23 [] [pr pB h2,pu pB h2 h4,pa q63 3 h6] [] 6 n7_ hC []
theorem Ag1:EN 188:=en Tryz.func188
theorem A29 (x0:Ai) (x1:Int) (r:Bool) (h:Uc x0 x1=r):CO 194 [.agg (d70 x0),.d (.ip [.v (.int .i64 x1)])] [] (.d (Bo r)) []:=by
 unfold Uc at h
 refine co 13 Tryz.func194 λ C hC=>?_
 subst h
 exact wr n4_ 25 [] [] [] 0 [] hC []
theorem A4o:EN 194:=en Tryz.func194
theorem A79 (x0:Int) (x1:Int) (r:Int×Int) (h:Aqo x0 x1=r):CO 196 [.d (.p (.v (.int .u64 x0))),.d (.p (.v (.int .u64 x1)))] [] (.tup [.d (.p (.v (.int .u64 r.1))),.d (.p (.v (.int .u64 r.2)))]) []:=by
 unfold Aqo at h
 refine co 51 Tryz.func196 λ C hC=>?_
 subst h
 exact wr [0,1,4,5,6,7,8,9,10,11,12,13] 45 [] [] [] 0 [] hC []
theorem A9a:EN 196:=en Tryz.func196
theorem Atb (x0:Int) (x1:Int) (r:Bool) (h:Kx x0 x1=r):CO 128 [.d (I x0),.d (.ip [.v (.int .i64 x1)])] [] (.d (Bo r)) []:=by
 unfold Kx at h
 refine co 11 Tryz.func128 λ C hC=>?_
 subst h
 exact wr [0,1,3] 25 [] [] [] 0 [] hC []
theorem At5:EN 128:=en Tryz.func128
theorem A8e (x0:List Int):CO 165 [.d (.p (.s (x0.map pI)))] [] (.d (.fn (.func 197) [] [.o 0 0])) [.box 22 [.p (.s (x0.map pI))]]:=by
 refine co 4 Tryz.func165 λ C hC=>?_
 exact wr [1,2] 40 [] [] [] 0 [0] hC []
theorem A9f:EN 165:=en Tryz.func165
theorem A3h (x0:Ai) (x1:Int) (r:Bool) (h:qX x0 x1=r):CO 173 [.agg (d70 x0),.d (.ip [.v (.int .i64 x1)])] [] (.d (Bo r)) []:=by
 unfold qX at h
 refine co 13 Tryz.func173 λ C hC=>?_
 subst h
 exact wr n4_ 25 [] [] [] 0 [] hC []
theorem A4w:EN 173:=en Tryz.func173
theorem A32 (x0:Int) (x1:Bool) (x2:Int) (r:Int) (h:Ir x0 x1 x2=r):CO 130 [.d (I x0),.d (Bo x1),.d (I x2)] [] (.d (I r)) []:=by
 unfold Ir at h
 refine co 15 Tryz.func130 λ C hC=>?_
 rcases cB h with⟨h1,h⟩ | ⟨h1,h⟩
 ·subst h
  exact wr [0,1,2,6,7,10] 30 [true] [] [] 0 [] hC [pq h1]
 ·rcases cB h with⟨h2,h⟩ | ⟨h2,h⟩
  ·subst h
   exact wr [0,1,2,6,7,10] 33 [false,true] [] [] 0 [] hC [pq h1,pq h2]
  ·subst h
   exact wr [0,1,2,6,7,10] 35 [false,false] [] [] 0 [] hC [pq h1,pq h2]
theorem A5h:EN 130:=en Tryz.func130
theorem k42  (r:Int) (h:F42  = r):CO 42 [] [] (.d (.p (.v (.int .u64 r)))) []:=by
 unfold F42 at h
 refine co 1 Tryz.func42 λ C hC=>?_
 subst h
 exact wr [0] 25 [] [] [] 0 [] hC []
theorem e42:EN 42:=en Tryz.func42
theorem k22 (x0:Ar) (r:ByteArray) (h:F22 x0=some r):CO 22 [.agg (d43 x0)] [] (.d (.p (.v (.string r)))) []:=A6n x0 r h
theorem e22:EN 22:=en Tryz.func22
def An4:List Nat:=[0,1,4,6,8,9,10,11]
def Aej (y1:List Int) (n0:Nat) (z0:Int):St:=[(0,.d (.p (.v (.int .u64 z0)))),(4,.d (.p (.v (.int .u64 0)))),(8,.d (DS (pK .u8) y1)),(9,dI (ln y1)),(10,dI (cnt 0 n0))]
def Ap6  (n0:Nat) (z0:Int):List Res:=[]
def Asd  (z0:Int):St:=[(0,.d (.p (.v (.int .u64 z0)))),(4,.d (.p (.v (.int .u64 0))))]
def Av4  (z0:Int):List Res:=[]
theorem k41 (x0:Int) (x1:ByteArray) (r:Int) (h:F41 x0 x1=some r):CO 41 [.d (.p (.v (.int .u64 x0))),.d (.p (.v (.string x1)))] [] (.d (.p (.v (.int .u64 r)))) []:=by
 unfold F41 at h
 refine co 21 Tryz.func41 λ C hC=>?_
 obtain⟨y1,h2,h⟩:=Az h
 refine ws An4 26 [] [⟨.room (x1.size:Int) (Ku x1) (y1.map (pK .u8)),Auw h2⟩,pl (pK .u8) y1] [] 0 [] (Aej y1 0 x0) (Ap6 0 x0) hC [] ?_
 obtain⟨w0,hm0,hret0,hnext0⟩:=As h
 clear h
 refine wc w0 (Asd) (Av4) ?_ λ z0 hs0=>?_
 ·refine wb ?_
  refine Bt 8 rfl λ hl0=>?_
  refine wl (Aej y1) (Ap6) hm0 (λ z0 hn0=>?_) λ n0 a0 z0 w0b hi0 hx0 h hb0 hr0=>?_
  ·clear hm0
   exact wx w0 (Asd) (Av4) An4 26 [false] [] [] 0 [] _ hC [pq (Bf hl0)] hn0
  ·unfold Awn at h
   exact wx w0b (Aej y1 (n0+1)) (Ap6 (n0+1)) An4 33 [true] [pt hx0 hl0] [] 0 [] _ hC [pq (A9 hi0 hl0)] (sI h).symm
 ·have h:=hnext0 _ hs0
  replace h:=sI h
  subst h
  exact wr An4 23 [] [] [] 0 [] hC []
theorem e41:EN 41:=en Tryz.func41
def vW:List Nat:=[0,1,4,5,10,11,12,34]
def Aeo (x0:List Int) (x1:List Int) (z0:Int):St:=[(0,.d (DS (pK .u64) x0)),(1,.d (DS (pK .u64) x1)),(4,dI 0),(10,dI (max (ln x0) (ln x1))),(11,dI z0)]
def Aqb  (z0:Int):List Res:=[]
def Asi  (z0:Int):St:=[(4,dI 0)]
def Av9  (z0:Int):List Res:=[]
theorem k25 (x0:List Int) (x1:List Int) (r:Int) (h:F25 x0 x1=some r):CO 25 [.d (DS (pK .u64) x0),.d (DS (pK .u64) x1)] [] (.d (I r)) []:=by
 unfold F25 at h
 refine co 37 Tryz.func25 λ C hC=>?_
 refine ws vW 26 [] [pl (pK .u64) x0,pl (pK .u64) x1] [] 0 [] (Aeo x0 x1 0) (Aqb 0) hC [] ?_
 obtain⟨w0,hm0,hret0,hnext0⟩:=As h
 clear h
 refine wc w0 (Asi) (Av9) ?_ λ z0 hs0=>?_
 ·refine wb ?_
  refine ww (Aeo x0 x1) (Aqb) hm0 λ z0 w0b h hb0 hr0=>?_
  unfold Awo at h
  rcases cB h with⟨h1,h⟩ | ⟨h1,h⟩
  ·obtain⟨y2,h3,y4,h5,h⟩:=Bc h
   refine wn vW 32 [true] [pl (pK .u64) x0,pL_ [(decide (z0>=(ln x0)),false)] (pK .u64) x1,pR (pK .u64) h3,pR (pK .u64) h5] [] 0 [] [0,1,4,5,10,11,34] hC [pq h1] ?_
   rcases cB h with⟨h6,h⟩ | ⟨h6,h⟩
   ·have hq:=hret0 _ (hr0 _ (sI h).symm)
    replace hq:=sI hq
    subst hq
    exact wr vW 24 [true] [] [] 0 [] hC [pq h6]
   ·exact wx w0b (Aeo x0 x1) (Aqb) vW 25 [false] [] [] 0 [] _ hC [pq h6] (sI h).symm
  ·exact wx w0 (Asi) (Av9) vW 26 [false] [] [] 0 [] z0 hC [pq h1] (hb0 _ (sI h).symm)
 ·have h:=hnext0 _ hs0
  replace h:=sI h
  subst h
  exact wr vW 23 [] [] [] 0 [] hC []
theorem e25:EN 25:=en Tryz.func25
theorem k9 (x0:List Int) (r:Aj) (h:F9 x0=some r):CO 9 [.d (DS pI x0)] [] (.d (.o 0 0)) [.box 77 (d77 r)]:=by
 unfold F9 at h
 refine co 10 Tryz.func9 λ C hC=>?_
 obtain⟨y2,h1,h⟩:=Az h
 replace h:=sI h
 subst h
 exact wr [0,2] 25 [] [pl pI x0,⟨.cut (x0.map pI) 1 0 (min (ln x0) 600) (y2.map pI),yM pI 1 (λ _=>rfl) h1⟩] [] 0 [0] hC []
theorem e9:EN 9:=en Tryz.func9
theorem k35 (x0:Int) (x1:Int) (r:Int) (h:F35 x0 x1=some r):CO 35 [.d (I x0),.d (I x1)] [] (.d (I r)) []:=by
 unfold F35 at h
 refine co 14 Tryz.func35 λ C hC=>?_
 rcases cB h with⟨h1,h⟩ | ⟨h1,h⟩
 ·replace h:=sI h
  subst h
  exact wr [0,1,4,6] 29 [true] [] [] 0 [] hC [pq h1]
 ·obtain⟨u3,h2,u5,h4,h⟩:=Bc h
  replace h:=sI h
  subst h
  exact wr [0,1,4,6] 30 [false] [⟨.nz x1,Afv h2⟩,⟨.nz x1,Afv h4⟩] [] 0 [] hC [pq h1]
theorem e35:EN 35:=en Tryz.func35
theorem k84 (x0:Ak) (x1:Ak) (r:Bool) (h:F84 x0 x1=r):CO 84 [.agg (d96 x0),.agg (d96 x1)] [] (.d (Bo r)) []:=by
 unfold F84 at h
 refine co 24 Tryz.func84 λ C hC=>?_
 subst h
 exact wr n5_ 25 [] [] [] 0 [] hC []
theorem e84:EN 84:=en Tryz.func84
theorem k37 (x0:Ab) (r:Ab) (h:F37 x0=some r):CO 37 [.agg (d39 x0)] [] (.agg [.os 0,.os 1,.os 2,.os 3]) (zp r []):=by
 unfold F37 at h
 refine co 16 Tryz.func37 λ C hC=>?_
 obtain⟨y1,h2,y3,h4,y5,h6,y7,h8,h⟩:=Cv h
 replace h:=sI h
 subst h
 exact wr n3_ 25 [] [⟨.app [] (x0.Ag.map pB) 1 ((x0.Ag.map pB).length*(1+1)) (y1.map pB),Fs pB 1 (λ _=>rfl) h2⟩,⟨.app [] (x0.Ac.map q93) 4 ((x0.Ac.map q93).length*(32+1)) (y3.map q93),Fs q93 4 (λ _=>rfl) h4⟩,⟨.app [] (x0.Ap.map pI) 1 ((x0.Ap.map pI).length*(8+1)) (y5.map pI),Fs pI 1 (λ _=>rfl) h6⟩,⟨.app [] (x0.Am.map q96) 2 ((x0.Am.map q96).length*(16+1)) (y7.map q96),Fs q96 2 (λ _=>rfl) h8⟩] [] 0 [3,5,7,9] hC []
theorem e37:EN 37:=en Tryz.func37
def Hn:List Nat:=[0,1,2,3,4,6,7,8,9,10,11,19,20,21,23,24,25,26,53,65,66,67,72]
def uT (y5:List Bool) (n0:Nat) (z0:(List Bool)):St:=[(3,dO 0 0),(4,dO 1 0),(6,.d (DS pI [])),(7,dS 2),(19,dI (ln y5)),(20,dI (cnt 0 n0))]
def Aig (x0:Aa) (x1:Ab) (n0:Nat) (z0:(List Bool)):List Res:=[.box 30 (d30 x0),.box 39 (d39 x1),v2_ z0]
def Alh  (z0:(List Bool)):St:=[(6,.d (DS pI [])),(7,dS 0)]
def Amy  (z0:(List Bool)):List Res:=[v2_ z0]
def Ve (x0:Aa) (y5:List Bool) (n0:Nat) (n1:Nat) (z1:(List Bool)):St:=[(3,dO 0 0),(4,dO 1 0),(6,.d (DS pI [])),(7,dS 2),(19,dI (ln y5)),(20,dI (cnt 0 n0)),(23,.d (DS q70 x0.Ad)),(24,dI (ln x0.Ad)),(25,dI (cnt 0 n1))]
def qE (x0:Aa) (x1:Ab) (n1:Nat) (z1:(List Bool)):List Res:=[.box 30 (d30 x0),.box 39 (d39 x1),v2_ z1]
def Alg (y5:List Bool) (n0:Nat) (z1:(List Bool)):St:=[(3,dO 0 0),(4,dO 1 0),(6,.d (DS pI [])),(7,dS 2),(19,dI (ln y5)),(20,dI (cnt 0 n0))]
def Amx (x0:Aa) (x1:Ab) (z1:(List Bool)):List Res:=[.box 30 (d30 x0),.box 39 (d39 x1),v2_ z1]
def Vd (z0:(List Bool)) (n2:Nat) (z2:(List Int)):St:=[(6,.d (DS pI [])),(7,dS 0),(10,dS 1),(65,dI (ln z0)),(66,dI (cnt 0 n2))]
def qD (z0:(List Bool)) (n2:Nat) (z2:(List Int)):List Res:=[v2_ z0,v0_ z2]
def Alf  (z2:(List Int)):St:=[(6,.d (DS pI [])),(10,dS 0)]
def Amw  (z2:(List Int)):List Res:=[v0_ z2]
theorem A8j (x0:Aa) (x1:Ab) (x2:Int) (r:(List Int)) (h:Ajx x0 x1 x2=some r):CO 148 [.agg (d30 x0),.agg (d39 x1),.d (I x2)] [] (.d (.os 0)) [v0_ r]:=by
 unfold Ajx at h
 refine co 79 Tryz.func148 λ C hC=>?_
 obtain⟨y1,h2,y3,h4,y5,h6,h⟩:=B3 h
 refine ws Hn 30 [] [⟨.room (x0.An*(1+1)) (List.replicate (Int.toNat x0.An) (pB false)) (y1.map pB),Jz h2⟩,pr pB h4,pu pB h4 h6,pl pB y5] [] 0 n3_ (uT y5 0 y5) (Aig x0 x1 0 y5) hC [] ?_
 obtain⟨w0,hm0,hret0,hnext0⟩:=As h
 clear h
 refine wc w0 (Alh) (Amy) ?_ λ z0 hs0=>?_
 ·refine wb ?_
  refine Cm 7 2 rfl rfl λ hl0=>?_
  refine wl (uT y5) (Aig x0 x1) hm0 (λ z0 hn0=>?_) λ n0 a0 z0 w0b hi0 hx0 h hb0 hr0=>?_
  ·clear hm0
   exact wx w0 (Alh) (Amy) Hn 26 [false] [] [] 0 [2] _ hC [pq (Bf hl0)] hn0
  ·unfold zM at h
   refine ws Hn 30 [true] [pl q70 x0.Ad] [] 0 n3_ (Ve x0 y5 n0 0 z0) (qE x0 x1 0 z0) hC [pq (A9 hi0 hl0)] ?_
   obtain⟨w1,hm1,hret1,hnext1⟩:=As h
   clear h
   refine wc w1 (Alg y5 n0) (Amx x0 x1) ?_ λ z1 hs1=>?_
   ·refine wb ?_
    refine Bt 23 rfl λ hl1=>?_
    refine wl (Ve x0 y5 n0) (qE x0 x1) hm1 (λ z1 hn1=>?_) λ n1 a1 z1 w1b hi1 hx1 h hb1 hr1=>?_
    ·clear hm1
     exact wx w1 (Alg y5 n0) (Amx x0 x1) Hn 26 [false] [] [] 0 n3_ _ hC [pq (Bf hl1)] hn1
    ·unfold zL at h
     obtain⟨y7,h8,y9,h10,y11,h12,h⟩:=B3 h
     refine wn Hn 32 [true] [pt hx1 hl1,pR pB h8,pR pB h10,pN pB h10,pR pB h12,pN pB h12] [] 0 n4_ [3,4,6,7,9,19,20,23,24,25,53] hC [pq (A9 hi1 hl1)] ?_
     rcases cB h with⟨h13,h⟩ | ⟨h13,h⟩
     ·obtain⟨y14,h15,y16,h17,y18,h19,y20,h21,h⟩:=Cv h
      exact wx w1b (Ve x0 y5 n0 (n1+1)) (qE x0 x1 (n1+1)) Hn 25 [true] [pr pB h15,pu pB h15 h17,pr pB h19,pu pB h19 h21] [] 0 n3_ _ hC [pq h13] (sI h).symm
     ·exact wx w1b (Ve x0 y5 n0 (n1+1)) (qE x0 x1 (n1+1)) Hn 25 [false] [] [] 0 n3_ _ hC [pq h13] (sI h).symm
   ·have h:=hnext1 _ hs1
    exact wx w0b (uT y5 (n0+1)) (Aig x0 x1 (n0+1)) Hn 23 [] [] [] 0 n3_ _ hC [] (sI h).symm
 ·have h:=hnext0 _ hs0
  refine ws Hn 26 [] [pl pB z0] [.own 10 3 1] 0 [0,1] (Vd z0 0 ([]:List Int)) (qD z0 0 ([]:List Int)) hC [] ?_
  obtain⟨w2,hm2,hret2,hnext2⟩:=As h
  clear h
  refine wc w2 (Alf) (Amw) ?_ λ z2 hs2=>?_
  ·refine wb ?_
   refine Cm 7 0 rfl rfl λ hl2=>?_
   refine wl (Vd z0) (qD z0) hm2 (λ z2 hn2=>?_) λ n2 a2 z2 w2b hi2 hx2 h hb2 hr2=>?_
   ·clear hm2
    exact wx w2 (Alf) (Amw) Hn 26 [false] [] [] 0 [1] _ hC [pq (Bf hl2)] hn2
   ·unfold zK at h
    rcases cB h with⟨h22,h⟩ | ⟨h22,h⟩
    ·obtain⟨y23,h24,h⟩:=Az h
     exact wx w2b (Vd z0 (n2+1)) (qD z0 (n2+1)) Hn 36 [true,true] [pr pB (Bp hx2 hl2),pn pB (Bp hx2 hl2),pa pI 1 h24] [] 0 [0,2] _ hC [pq (A9 hi2 hl2),pq h22] (sI h).symm
    ·exact wx w2b (Vd z0 (n2+1)) (qD z0 (n2+1)) Hn 36 [true,false] [pr pB (Bp hx2 hl2),pn pB (Bp hx2 hl2)] [] 0 [0,1] _ hC [pq (A9 hi2 hl2),pq h22] (sI h).symm
  ·have h:=hnext2 _ hs2
   replace h:=sI h
   subst h
   exact wr Hn 23 [] [] [] 0 [0] hC []
theorem A9k:EN 148:=en Tryz.func148
def Z0:List Nat:=[0,1,4,6,7,8,9,10,15]
def uS (x0:List Int) (x1:Int) (n0:Nat) (z0:Unit):St:=[(1,dI x1),(4,dB false),(7,.d (DS pI x0)),(8,dI (ln x0)),(9,dI (cnt 0 n0))]
def Aif  (n0:Nat) (z0:Unit):List Res:=[]
def Ale  (z0:Unit):St:=[(4,dB false)]
def Amv  (z0:Unit):List Res:=[]
theorem A3v (x0:List Int) (x1:Int) (r:Bool) (h:zJ x0 x1=some r):CO 150 [.d (DS pI x0),.d (I x1)] [] (.d (Bo r)) []:=by
 unfold zJ at h
 refine co 17 Tryz.func150 λ C hC=>?_
 refine ws Z0 26 [] [pl pI x0] [] 0 [] (uS x0 x1 0 ()) (Aif 0 ()) hC [] ?_
 obtain⟨w0,hm0,hret0,hnext0⟩:=As h
 clear h
 refine wc w0 (Ale) (Amv) ?_ λ z0 hs0=>?_
 ·refine wb ?_
  refine Bt 7 rfl λ hl0=>?_
  refine wl (uS x0 x1) (Aif) hm0 (λ z0 hn0=>?_) λ n0 a0 z0 w0b hi0 hx0 h hb0 hr0=>?_
  ·clear hm0
   exact wx w0 (Ale) (Amv) Z0 26 [false] [] [] 0 [] _ hC [pq (Bf hl0)] hn0
  ·unfold Wl at h
   rcases cB h with⟨h1,h⟩ | ⟨h1,h⟩
   ·have hq:=hret0 _ (hr0 _ (sI h).symm)
    replace hq:=sI hq
    subst hq
    exact wr Z0 35 [true,true] [pt hx0 hl0] [] 0 [] hC [pq (A9 hi0 hl0),pq h1]
   ·exact wx w0b (uS x0 x1 (n0+1)) (Aif (n0+1)) Z0 36 [true,false] [pt hx0 hl0] [] 0 [] _ hC [pq (A9 hi0 hl0),pq h1] (sI h).symm
 ·have h:=hnext0 _ hs0
  replace h:=sI h
  subst h
  exact wr Z0 23 [] [] [] 0 [] hC []
theorem A5a:EN 150:=en Tryz.func150
def Aen (x0:List Int) (x1:List Int) (z0:Int):St:=[(0,.d (DS (pK .u64) x0)),(1,.d (DS (pK .u64) x1)),(4,dI 0),(5,dI z0)]
def Aqa  (z0:Int):List Res:=[]
def Ash  (z0:Int):St:=[(4,dI 0)]
def Av8  (z0:Int):List Res:=[]
theorem k32 (x0:List Int) (x1:List Int) (r:Int) (h:F32 x0 x1=some r):CO 32 [.d (DS (pK .u64) x0),.d (DS (pK .u64) x1)] [] (.d (I r)) []:=by
 unfold F32 at h
 refine co 40 Tryz.func32 λ C hC=>?_
 refine ws [0,1,4,5,15,38] 26 [] [] [] 0 [] (Aen x0 x1 0) (Aqa 0) hC [] ?_
 obtain⟨w0,hm0,hret0,hnext0⟩:=As h
 clear h
 refine wc w0 (Ash) (Av8) ?_ λ z0 hs0=>?_
 ·refine wb ?_
  refine ww (Aen x0 x1) (Aqa) hm0 λ z0 w0b h hb0 hr0=>?_
  unfold Ajm at h
  rcases cB h with⟨h1,h⟩ | ⟨h1,h⟩
  ·obtain⟨y2,h3,y4,h5,h⟩:=Bc h
   refine wn [0,1,4,5,15,38] 30 [true] [pl (pK .u64) x0,pL_ [(decide (z0<(ln x0)),false)] (pK .u64) x1,pl (pK .u64) x0,pL_ [(decide (z0>=(ln x0)),false)] (pK .u64) x1,pR (pK .u64) h3,pR (pK .u64) h5] [] 0 [] [0,1,4,5,38] hC [pq h1] ?_
   rcases cB h with⟨h6,h⟩ | ⟨h6,h⟩
   ·have hq:=hret0 _ (hr0 _ (sI h).symm)
    replace hq:=sI hq
    subst hq
    exact wr [0,1,4,5,15,38] 24 [true] [] [] 0 [] hC [pq h6]
   ·exact wx w0b (Aen x0 x1) (Aqa) [0,1,4,5,15,38] 25 [false] [] [] 0 [] _ hC [pq h6] (sI h).symm
  ·exact wx w0 (Ash) (Av8) [0,1,4,5,15,38] 26 [false] [pl (pK .u64) x0,pL_ [(decide (z0<(ln x0)),false)] (pK .u64) x1] [] 0 [] z0 hC [pq h1] (hb0 _ (sI h).symm)
 ·have h:=hnext0 _ hs0
  replace h:=sI h
  subst h
  exact wr [0,1,4,5,15,38] 23 [] [] [] 0 [] hC []
theorem e32:EN 32:=en Tryz.func32
def vT:List Nat:=[0,1,4,5,10,12,13,14,24]
def Aeh (x0:List Bool) (x1:List Bool) (n0:Nat) (z0:Unit):St:=[(0,.d (DS pB x0)),(1,.d (DS pB x1)),(4,dB false),(12,dI (ln x0)),(13,dI (cnt 0 n0))]
def Ap4  (n0:Nat) (z0:Unit):List Res:=[]
def Ar9  (z0:Unit):St:=[(4,dB false)]
def Av1  (z0:Unit):List Res:=[]
theorem k54 (x0:List Bool) (x1:List Bool) (r:Bool) (h:F54 x0 x1=some r):CO 54 [.d (DS pB x0),.d (DS pB x1)] [] (.d (Bo r)) []:=by
 unfold F54 at h
 refine co 26 Tryz.func54 λ C hC=>?_
 rcases cB h with⟨h1,h⟩ | ⟨h1,h⟩
 ·replace h:=sI h
  subst h
  exact wr vT 29 [true] [pl pB x0,pl pB x1] [] 0 [] hC [pq h1]
 ·refine ws vT 31 [false] [pl pB x0,pl pB x1,pl pB x0] [] 0 [] (Aeh x0 x1 0 ()) (Ap4 0 ()) hC [pq h1] ?_
  obtain⟨w0,hm0,hret0,hnext0⟩:=As h
  clear h
  refine wc w0 (Ar9) (Av1) ?_ λ z0 hs0=>?_
  ·refine wb ?_
   refine Bt 0 rfl λ hl0=>?_
   refine wl (Aeh x0 x1) (Ap4) hm0 (λ z0 hn0=>?_) λ n0 a0 z0 w0b hi0 hx0 h hb0 hr0=>?_
   ·clear hm0
    exact wx w0 (Ar9) (Av1) vT 26 [false] [] [] 0 [] _ hC [pq (Bf hl0)] hn0
   ·unfold Ajh at h
    obtain⟨y2,h3,h⟩:=Az h
    rcases cB h with⟨h4,h⟩ | ⟨h4,h⟩
    ·have hq:=hret0 _ (hr0 _ (sI h).symm)
     replace hq:=sI hq
     subst hq
     exact wr vT 35 [true,true] [pt hx0 hl0,pr pB h3] [] 0 [] hC [pq (A9 hi0 hl0),pq h4]
    ·exact wx w0b (Aeh x0 x1 (n0+1)) (Ap4 (n0+1)) vT 36 [true,false] [pt hx0 hl0,pr pB h3] [] 0 [] _ hC [pq (A9 hi0 hl0),pq h4] (sI h).symm
  ·have h:=hnext0 _ hs0
   replace h:=sI h
   subst h
   exact wr vT 23 [] [] [] 0 [] hC []
theorem e54:EN 54:=en Tryz.func54
def vS:List Nat:=[0,1,4,5,10,12,13,14,24]
def Aeg (x0:List Int) (x1:List Int) (n0:Nat) (z0:Unit):St:=[(0,.d (DS pI x0)),(1,.d (DS pI x1)),(4,dB false),(12,dI (ln x0)),(13,dI (cnt 0 n0))]
def Ap3  (n0:Nat) (z0:Unit):List Res:=[]
def Ar8  (z0:Unit):St:=[(4,dB false)]
def Av0  (z0:Unit):List Res:=[]
theorem k55 (x0:List Int) (x1:List Int) (r:Bool) (h:F55 x0 x1=some r):CO 55 [.d (DS pI x0),.d (DS pI x1)] [] (.d (Bo r)) []:=by
 unfold F55 at h
 refine co 26 Tryz.func55 λ C hC=>?_
 rcases cB h with⟨h1,h⟩ | ⟨h1,h⟩
 ·replace h:=sI h
  subst h
  exact wr vS 29 [true] [pl pI x0,pl pI x1] [] 0 [] hC [pq h1]
 ·refine ws vS 31 [false] [pl pI x0,pl pI x1,pl pI x0] [] 0 [] (Aeg x0 x1 0 ()) (Ap3 0 ()) hC [pq h1] ?_
  obtain⟨w0,hm0,hret0,hnext0⟩:=As h
  clear h
  refine wc w0 (Ar8) (Av0) ?_ λ z0 hs0=>?_
  ·refine wb ?_
   refine Bt 0 rfl λ hl0=>?_
   refine wl (Aeg x0 x1) (Ap3) hm0 (λ z0 hn0=>?_) λ n0 a0 z0 w0b hi0 hx0 h hb0 hr0=>?_
   ·clear hm0
    exact wx w0 (Ar8) (Av0) vS 26 [false] [] [] 0 [] _ hC [pq (Bf hl0)] hn0
   ·unfold Ajg at h
    obtain⟨y2,h3,h⟩:=Az h
    rcases cB h with⟨h4,h⟩ | ⟨h4,h⟩
    ·have hq:=hret0 _ (hr0 _ (sI h).symm)
     replace hq:=sI hq
     subst hq
     exact wr vS 35 [true,true] [pt hx0 hl0,pr pI h3] [] 0 [] hC [pq (A9 hi0 hl0),pq h4]
    ·exact wx w0b (Aeg x0 x1 (n0+1)) (Ap3 (n0+1)) vS 36 [true,false] [pt hx0 hl0,pr pI h3] [] 0 [] _ hC [pq (A9 hi0 hl0),pq h4] (sI h).symm
  ·have h:=hnext0 _ hs0
   replace h:=sI h
   subst h
   exact wr vS 23 [] [] [] 0 [] hC []
theorem e55:EN 55:=en Tryz.func55
def vV:List Nat:=[0,1,4,5,10,12,13,14,24]
def Aek (x0:List A6) (x1:List A6) (n0:Nat) (z0:Unit):St:=[(0,.d (DS q65 x0)),(1,.d (DS q65 x1)),(4,dB false),(12,dI (ln x0)),(13,dI (cnt 0 n0))]
def Ap7  (n0:Nat) (z0:Unit):List Res:=[]
def Ase  (z0:Unit):St:=[(4,dB false)]
def Av5  (z0:Unit):List Res:=[]
theorem k34 (x0:List A6) (x1:List A6) (r:Bool) (h:F34 x0 x1=some r):CO 34 [.d (DS q65 x0),.d (DS q65 x1)] [] (.d (Bo r)) []:=by
 unfold F34 at h
 refine co 26 Tryz.func34 λ C hC=>?_
 rcases cB h with⟨h1,h⟩ | ⟨h1,h⟩
 ·replace h:=sI h
  subst h
  exact wr vV 29 [true] [pl q65 x0,pl q65 x1] [] 0 [] hC [pq h1]
 ·refine ws vV 31 [false] [pl q65 x0,pl q65 x1,pl q65 x0] [] 0 [] (Aek x0 x1 0 ()) (Ap7 0 ()) hC [pq h1] ?_
  obtain⟨w0,hm0,hret0,hnext0⟩:=As h
  clear h
  refine wc w0 (Ase) (Av5) ?_ λ z0 hs0=>?_
  ·refine wb ?_
   refine Bt 0 rfl λ hl0=>?_
   refine wl (Aek x0 x1) (Ap7) hm0 (λ z0 hn0=>?_) λ n0 a0 z0 w0b hi0 hx0 h hb0 hr0=>?_
   ·clear hm0
    exact wx w0 (Ase) (Av5) vV 26 [false] [] [] 0 [] _ hC [pq (Bf hl0)] hn0
   ·unfold Ajj at h
    obtain⟨y2,h3,h⟩:=Az h
    rcases cB h with⟨h4,h⟩ | ⟨h4,h⟩
    ·have hq:=hret0 _ (hr0 _ (sI h).symm)
     replace hq:=sI hq
     subst hq
     exact wr vV 35 [true,true] [pt hx0 hl0,pr q65 h3] [] 0 [] hC [pq (A9 hi0 hl0),pq h4]
    ·exact wx w0b (Aek x0 x1 (n0+1)) (Ap7 (n0+1)) vV 36 [true,false] [pt hx0 hl0,pr q65 h3] [] 0 [] _ hC [pq (A9 hi0 hl0),pq h4] (sI h).symm
  ·have h:=hnext0 _ hs0
   replace h:=sI h
   subst h
   exact wr vV 23 [] [] [] 0 [] hC []
theorem e34:EN 34:=en Tryz.func34
def Dt:List Nat:=[0,1,2,3,4,6,7,8,10,11,12,13,23,25,26,37,38,47,48,57,61,62,63,64,69,74,75,76,82,86,87,88,94]
def R7 (x0:Aa) (n0:Nat) (z0:Unit):St:=[(1,dO 0 0),(2,dB false),(10,.d (DS q70 x0.Ad)),(11,dI (ln x0.Ad)),(12,dI (cnt 0 n0))]
def qA (x0:Aa) (n0:Nat) (z0:Unit):List Res:=[.box 30 (d30 x0)]
def Ar7  (z0:Unit):St:=[(1,dO 0 0),(2,dB false)]
def Avz (x0:Aa) (z0:Unit):List Res:=[.box 30 (d30 x0)]
def Aef (x0:Aa) (n0:Nat) (y9:List Ai) (n1:Nat) (z1:Unit):St:=[(1,dO 0 0),(2,dB false),(4,dO 1 0),(10,.d (DS q70 x0.Ad)),(11,dI (ln x0.Ad)),(12,dI (cnt 0 n0)),(61,.d (DS q70 y9)),(62,dI (ln y9)),(63,dI (cnt 0 n1))]
def Ap2 (x0:Aa) (a0:Ai) (n1:Nat) (z1:Unit):List Res:=[.box 30 (d30 x0),.box 70 (d70 a0)]
def Ar6 (x0:Aa) (n0:Nat) (z1:Unit):St:=[(1,dO 0 0),(2,dB false),(10,.d (DS q70 x0.Ad)),(11,dI (ln x0.Ad)),(12,dI (cnt 0 n0))]
def Avy (x0:Aa) (z1:Unit):List Res:=[.box 30 (d30 x0)]
def Aee (x0:Aa) (z2:Int):St:=[(1,dO 0 0),(2,dB false),(74,dI (ln x0.Ac)),(75,dI z2)]
def Ap1 (x0:Aa) (z2:Int):List Res:=[.box 30 (d30 x0)]
def Ar5  (z2:Int):St:=[(1,dO 0 0),(2,dB false)]
def Avx (x0:Aa) (z2:Int):List Res:=[.box 30 (d30 x0)]
def Aed (x0:Aa) (z3:Int):St:=[(1,dO 0 0),(2,dB false),(86,dI (ln x0.Ae)),(87,dI z3)]
def Ap0 (x0:Aa) (z3:Int):List Res:=[.box 30 (d30 x0)]
def Ar4  (z3:Int):St:=[(2,dB false)]
def Avw  (z3:Int):List Res:=[]
theorem k59 (x0 : Aa) (r : Bool) (h : F59 x0 = some r) : CO 59 [.agg (d30 x0)] [] (.d (Bo r)) [] := by
 unfold F59 at h
 refine co 96 Tryz.func59 λ C hC=>?_
 refine ws Dt 26 [] [pl q70 x0.Ad] [] 0 [0] (R7 x0 0 ()) (qA x0 0 ()) hC [] ?_
 obtain⟨w0,hm0,hret0,hnext0⟩:=As h
 clear h
 refine wc w0 (Ar7) (Avz x0) ?_ λ z0 hs0=>?_
 ·refine wb ?_
  refine Bt 10 rfl λ hl0=>?_
  refine wl (R7 x0) (qA x0) hm0 (λ z0 hn0=>?_) λ n0 a0 z0 w0b hi0 hx0 h hb0 hr0=>?_
  ·clear hm0
   exact wx w0 (Ar7) (Avz x0) Dt 26 [false] [] [] 0 [0] _ hC [pq (Bf hl0)] hn0
  ·unfold Ajf at h
   refine wn Dt 33 [true] [pt hx0 hl0,pc e82 (k82 a0.A 0 (w64 (x0.An-1)) _ rfl) []] [] 0 [0,1] [1,2,3,4,10,11,12,23] hC [pq (A9 hi0 hl0)] ?_
   rcases cB h with⟨h1,h⟩ | ⟨h1,h⟩
   ·have hq:=hret0 _ (hr0 _ (sI h).symm)
    replace hq:=sI hq
    subst hq
    exact wr Dt 24 [true] [] [] 0 [] hC [pq h1]
   ·rcases cB h with ⟨h2, h⟩ | ⟨h2, h⟩
    ·rcases cB h with⟨h3,h⟩ | ⟨h3,h⟩
     ·have hq:=hret0 _ (hr0 _ (sI h).symm)
      replace hq:=sI hq
      subst hq
      exact wr Dt 34 [false,true,true] [pc e82 (k82 a0.B (w64 (a0.A+1)) (w64 (x0.An-1)) _ rfl) []] [] 0 [] hC [pq h1,pq h2,pq h3]
     ·exact wx w0b (R7 x0 (n0+1)) (qA x0 (n0+1)) Dt 36 [false,true,false] [pc e82 (k82 a0.B (w64 (a0.A+1)) (w64 (x0.An-1)) _ rfl) []] [] 0 [0] _ hC [pq h1,pq h2,pq h3] (sI h).symm
    ·rcases cB h with⟨h4,h⟩ | ⟨h4,h⟩
     ·refine wn Dt 34 [false,false,true] [pl q72 x0.Ac,pc e82 (k82 a0.B 0 (w64 ((ln x0.Ac)-1)) _ rfl) []] [] 0 [0] [1,2,10,11,12,47] hC [pq h1,pq h2,pq h4] ?_
      rcases cB h with⟨h5,h⟩ | ⟨h5,h⟩
      ·have hq:=hret0 _ (hr0 _ (sI h).symm)
       replace hq:=sI hq
       subst hq
       exact wr Dt 24 [true] [] [] 0 [] hC [pq h5]
      ·exact wx w0b (R7 x0 (n0+1)) (qA x0 (n0+1)) Dt 26 [false] [] [] 0 [0] _ hC [pq h5] (sI h).symm
     ·rcases cB h with⟨h6,h⟩ | ⟨h6,h⟩
      ·refine wn Dt 38 [false,false,false,true] [pl q81 x0.Ae,pc e82 (k82 a0.B 0 (w64 ((ln x0.Ae)-1)) _ rfl) []] [] 0 [0,1] [1,2,3,4,10,11,12,57] hC [pq h1,pq h2,pq h4,pq h6] ?_
       rcases cB h with⟨h7,h⟩ | ⟨h7,h⟩
       ·have hq:=hret0 _ (hr0 _ (sI h).symm)
        replace hq:=sI hq
        subst hq
        exact wr Dt 24 [true] [] [] 0 [] hC [pq h7]
       ·obtain⟨y9,h8,h⟩:=Az h
        refine ws Dt 25 [false] [⟨.cut (x0.Ad.map q70) 3 0 (cnt 0 n0) (y9.map q70),yM q70 3 (λ _=>rfl) h8⟩,pl q70 y9] [] 0 [0,1] (Aef x0 n0 y9 0 ()) (Ap2 x0 a0 0 ()) hC [pq h7] ?_
        obtain⟨w1,hm1,hret1,hnext1⟩:=As h
        clear h
        refine wc w1 (Ar6 x0 n0) (Avy x0) ?_ λ z1 hs1=>?_
        ·refine wb ?_
         refine Bt 61 rfl λ hl1=>?_
         refine wl (Aef x0 n0 y9) (Ap2 x0 a0) hm1 (λ z1 hn1=>?_) λ n1 a1 z1 w1b hi1 hx1 h hb1 hr1=>?_
         ·clear hm1
          exact wx w1 (Ar6 x0 n0) (Avy x0) Dt 26 [false] [] [] 0 [0] _ hC [pq (Bf hl1)] hn1
         ·unfold qQ at h
          rcases cB h with⟨h10,h⟩ | ⟨h10,h⟩
          ·have hq:=hret1 _ (hr1 _ (sI h).symm)
           replace hq:=hret0 _ (hr0 _ (sI hq).symm)
           replace hq:=sI hq
           subst hq
           exact wr Dt 35 [true,true] [pt hx1 hl1] [] 0 [] hC [pq (A9 hi1 hl1),pq h10]
          ·exact wx w1b (Aef x0 n0 y9 (n1+1)) (Ap2 x0 a0 (n1+1)) Dt 36 [true,false] [pt hx1 hl1] [] 0 [0,1] _ hC [pq (A9 hi1 hl1),pq h10] (sI h).symm
        ·have h:=hnext1 _ hs1
         exact wx w0b (R7 x0 (n0+1)) (qA x0 (n0+1)) Dt 24 [] [] [] 0 [0] _ hC [] (sI h).symm
      ·have hq:=hret0 _ (hr0 _ (sI h).symm)
       replace hq:=sI hq
       subst hq
       exact wr Dt 37 [false,false,false,false] [] [] 0 [] hC [pq h1,pq h2,pq h4,pq h6]
 ·have h:=hnext0 _ hs0
  refine ws Dt 24 [] [pl q72 x0.Ac] [] 0 [0] (Aee x0 0) (Ap1 x0 0) hC [] ?_
  obtain⟨w2,hm2,hret2,hnext2⟩:=As h
  clear h
  refine wc w2 (Ar5) (Avx x0) ?_ λ z2 hs2=>?_
  ·refine wb ?_
   refine ww (Aee x0) (Ap1 x0) hm2 λ z2 w2b h hb2 hr2=>?_
   unfold Aje at h
   rcases cB h with⟨h11,h⟩ | ⟨h11,h⟩
   ·obtain⟨y12,h13,h⟩:=Az h
    refine wn Dt 32 [true] [pc e83 (k83 x0 2 z2 _ h13) [],pl pI y12] [] 0 [0] [1,2,74,75,82] hC [pq h11] ?_
    rcases cB h with⟨h14,h⟩ | ⟨h14,h⟩
    ·have hq:=hret2 _ (hr2 _ (sI h).symm)
     replace hq:=sI hq
     subst hq
     exact wr Dt 24 [true] [] [] 0 [] hC [pq h14]
    ·exact wx w2b (Aee x0) (Ap1 x0) Dt 25 [false] [] [] 0 [0] _ hC [pq h14] (sI h).symm
   ·exact wx w2 (Ar5) (Avx x0) Dt 26 [false] [] [] 0 [0] z2 hC [pq h11] (hb2 _ (sI h).symm)
  ·have h:=hnext2 _ hs2
   refine ws Dt 24 [] [pl q81 x0.Ae] [] 0 [0] (Aed x0 0) (Ap0 x0 0) hC [] ?_
   obtain⟨w3,hm3,hret3,hnext3⟩:=As h
   clear h
   refine wc w3 (Ar4) (Avw) ?_ λ z3 hs3=>?_
   ·refine wb ?_
    refine ww (Aed x0) (Ap0 x0) hm3 λ z3 w3b h hb3 hr3=>?_
    unfold Ajd at h
    rcases cB h with⟨h15,h⟩ | ⟨h15,h⟩
    ·obtain⟨y16,h17,h⟩:=Az h
     refine wn Dt 32 [true] [pc e83 (k83 x0 3 z3 _ h17) [],pl pI y16] [] 0 [0] [1,2,86,87,94] hC [pq h15] ?_
     rcases cB h with⟨h18,h⟩ | ⟨h18,h⟩
     ·have hq:=hret3 _ (hr3 _ (sI h).symm)
      replace hq:=sI hq
      subst hq
      exact wr Dt 24 [true] [] [] 0 [] hC [pq h18]
     ·exact wx w3b (Aed x0) (Ap0 x0) Dt 25 [false] [] [] 0 [0] _ hC [pq h18] (sI h).symm
    ·exact wx w3 (Ar4) (Avw) Dt 26 [false] [] [] 0 [] z3 hC [pq h15] (hb3 _ (sI h).symm)
   ·have h:=hnext3 _ hs3
    replace h:=sI h
    subst h
    exact wr Dt 23 [] [] [] 0 [] hC []
theorem e59:EN 59:=en Tryz.func59
def vR:List Nat:=[0,1,2,4,6,7,8,9,29]
def Aec (x0:Aa) (n0:Nat) (z0:Unit):St:=[(2,dB false),(6,.d (DS q72 x0.Ac)),(7,dI (ln x0.Ac)),(8,dI (cnt 0 n0))]
def Apz  (n0:Nat) (z0:Unit):List Res:=[]
def Ar3  (z0:Unit):St:=[(2,dB false)]
def Avv  (z0:Unit):List Res:=[]
theorem k60 (x0:Aa) (r:Bool) (h:F60 x0=some r):CO 60 [.agg (d30 x0)] [] (.d (Bo r)) []:=by
 unfold F60 at h
 refine co 31 Tryz.func60 λ C hC=>?_
 refine ws vR 26 [] [pl q72 x0.Ac] [] 0 [] (Aec x0 0 ()) (Apz 0 ()) hC [] ?_
 obtain⟨w0,hm0,hret0,hnext0⟩:=As h
 clear h
 refine wc w0 (Ar3) (Avv) ?_ λ z0 hs0=>?_
 ·refine wb ?_
  refine Bt 6 rfl λ hl0=>?_
  refine wl (Aec x0) (Apz) hm0 (λ z0 hn0=>?_) λ n0 a0 z0 w0b hi0 hx0 h hb0 hr0=>?_
  ·clear hm0
   exact wx w0 (Ar3) (Avv) vR 26 [false] [] [] 0 [] _ hC [pq (Bf hl0)] hn0
  ·unfold Ajc at h
   refine wn vR 32 [true] [pt hx0 hl0,pc e82 (k82 a0.Rating 1 50000 _ rfl) [],⟨.when [(!(F82 a0.Rating 1 50000),false)] (.call 82 [dI a0.Least,dI 0,dI a0.Rating] [] (dB (F82 a0.Least 0 a0.Rating)) [] []),λ hg=>⟨e82,(k82 a0.Least 0 a0.Rating _ rfl)⟩⟩,⟨.when [(((!(F82 a0.Rating 1 50000)) || (!(F82 a0.Least 0 a0.Rating))),false)] (.call 82 [dI a0.Start,dI 0,dI 600] [] (dB (F82 a0.Start 0 600)) [] []),λ hg=>⟨e82,(k82 a0.Start 0 600 _ rfl)⟩⟩] [] 0 [] [2,6,7,8,29] hC [pq (A9 hi0 hl0)] ?_
   rcases cB h with⟨h1,h⟩ | ⟨h1,h⟩
   ·have hq:=hret0 _ (hr0 _ (sI h).symm)
    replace hq:=sI hq
    subst hq
    exact wr vR 24 [true] [] [] 0 [] hC [pq h1]
   ·exact wx w0b (Aec x0 (n0+1)) (Apz (n0+1)) vR 25 [false] [] [] 0 [] _ hC [pq h1] (sI h).symm
 ·have h:=hnext0 _ hs0
  replace h:=sI h
  subst h
  exact wr vR 23 [] [] [] 0 [] hC []
theorem e60:EN 60:=en Tryz.func60
def Mo:List Nat:=[0,1,2,3,4,5,6,8,9,10,11,44,46,47,48,49,71]
def Aeb (x0:Aa) (n0:Nat) (z0:Unit):St:=[(2,dB false),(8,.d (DS q81 x0.Ae)),(9,dI (ln x0.Ae)),(10,dI (cnt 0 n0))]
def Apy  (n0:Nat) (z0:Unit):List Res:=[]
def Ar2  (z0:Unit):St:=[(2,dB false)]
def Avu  (z0:Unit):List Res:=[]
def Aea (x0:Aa) (n0:Nat) (a0:A7) (n1:Nat) (z1:Unit):St:=[(2,dB false),(3,dI (cnt 0 n0)),(4,dO 0 0),(8,.d (DS q81 x0.Ae)),(9,dI (ln x0.Ae)),(10,dI (cnt 0 n0)),(46,.d (DS pI a0.Needs)),(47,dI (ln a0.Needs)),(48,dI (cnt 0 n1))]
def Apx (a0:A7) (n1:Nat) (z1:Unit):List Res:=[.box 81 (d81 a0)]
def Ar1 (x0:Aa) (n0:Nat) (z1:Unit):St:=[(2,dB false),(8,.d (DS q81 x0.Ae)),(9,dI (ln x0.Ae)),(10,dI (cnt 0 n0))]
def Avt  (z1:Unit):List Res:=[]
theorem k61 (x0:Aa) (r:Bool) (h:F61 x0=some r):CO 61 [.agg (d30 x0)] [] (.d (Bo r)) []:=by
 unfold F61 at h
 refine co 74 Tryz.func61 λ C hC=>?_
 refine ws Mo 26 [] [pl q81 x0.Ae] [] 0 [] (Aeb x0 0 ()) (Apy 0 ()) hC [] ?_
 obtain⟨w0,hm0,hret0,hnext0⟩:=As h
 clear h
 refine wc w0 (Ar2) (Avu) ?_ λ z0 hs0=>?_
 ·refine wb ?_
  refine Bt 8 rfl λ hl0=>?_
  refine wl (Aeb x0) (Apy) hm0 (λ z0 hn0=>?_) λ n0 a0 z0 w0b hi0 hx0 h hb0 hr0=>?_
  ·clear hm0
   exact wx w0 (Ar2) (Avu) Mo 26 [false] [] [] 0 [] _ hC [pq (Bf hl0)] hn0
  ·unfold Ajb at h
   refine wn Mo 33 [true] [pt hx0 hl0,pc e82 (k82 a0.Load 0 50000 _ rfl) [],⟨.when [(!(F82 a0.Load 0 50000),false)] (.call 82 [dI a0.Least,dI 0,dI a0.Load] [] (dB (F82 a0.Least 0 a0.Load)) [] []),λ hg=>⟨e82,(k82 a0.Least 0 a0.Load _ rfl)⟩⟩,⟨.when [(((!(F82 a0.Load 0 50000)) || (!(F82 a0.Least 0 a0.Load))),false)] (.call 82 [dI a0.Bm,dI 0,dI 15] [] (dB (F82 a0.Bm 0 15)) [] []),λ hg=>⟨e82,(k82 a0.Bm 0 15 _ rfl)⟩⟩,⟨.when [((((!(F82 a0.Load 0 50000)) || (!(F82 a0.Least 0 a0.Load))) || (!(F82 a0.Bm 0 15))),false)] (.call 82 [dI a0.Thruster,dI (-1),dI 7] [] (dB (F82 a0.Thruster (-1) 7)) [] []),λ hg=>⟨e82,(k82 a0.Thruster (-1) 7 _ rfl)⟩⟩,pL_ [(((((!(F82 a0.Load 0 50000)) || (!(F82 a0.Least 0 a0.Load))) || (!(F82 a0.Bm 0 15))) || (!(F82 a0.Thruster (-1) 7))),false)] pI a0.Needs] [] 0 [0] [2,3,4,8,9,10,44] hC [pq (A9 hi0 hl0)] ?_
   rcases cB h with⟨h1,h⟩ | ⟨h1,h⟩
   ·have hq:=hret0 _ (hr0 _ (sI h).symm)
    replace hq:=sI hq
    subst hq
    exact wr Mo 24 [true] [] [] 0 [] hC [pq h1]
   ·refine ws Mo 25 [false] [pl pI a0.Needs] [] 0 [0] (Aea x0 n0 a0 0 ()) (Apx a0 0 ()) hC [pq h1] ?_
    obtain⟨w1,hm1,hret1,hnext1⟩:=As h
    clear h
    refine wc w1 (Ar1 x0 n0) (Avt) ?_ λ z1 hs1=>?_
    ·refine wb ?_
     refine Bt 46 rfl λ hl1=>?_
     refine wl (Aea x0 n0 a0) (Apx a0) hm1 (λ z1 hn1=>?_) λ n1 a1 z1 w1b hi1 hx1 h hb1 hr1=>?_
     ·clear hm1
      exact wx w1 (Ar1 x0 n0) (Avt) Mo 26 [false] [] [] 0 [] _ hC [pq (Bf hl1)] hn1
     ·unfold Aja at h
      obtain⟨y2,h3,h⟩:=Az h
      refine wn Mo 32 [true] [pt hx1 hl1,pc e82 (k82 a1 0 (w64 ((cnt 0 n0)-1)) _ rfl) [],pR pI h3] [] 0 [0] [2,3,4,8,9,10,46,47,48,71] hC [pq (A9 hi1 hl1)] ?_
      rcases cB h with⟨h4,h⟩ | ⟨h4,h⟩
      ·have hq:=hret1 _ (hr1 _ (sI h).symm)
       replace hq:=hret0 _ (hr0 _ (sI hq).symm)
       replace hq:=sI hq
       subst hq
       exact wr Mo 24 [true] [] [] 0 [] hC [pq h4]
      ·exact wx w1b (Aea x0 n0 a0 (n1+1)) (Apx a0 (n1+1)) Mo 25 [false] [] [] 0 [0] _ hC [pq h4] (sI h).symm
    ·have h:=hnext1 _ hs1
     exact wx w0b (Aeb x0 (n0+1)) (Apy (n0+1)) Mo 23 [] [] [] 0 [] _ hC [] (sI h).symm
 ·have h:=hnext0 _ hs0
  replace h:=sI h
  subst h
  exact wr Mo 23 [] [] [] 0 [] hC []
theorem e61:EN 61:=en Tryz.func61
theorem X1 (x0:List Int) (x1:Int) (r:Bool) (h:M9 x0 x1=some r):CO 152 [.d (DS pI x0),.d (I x1)] [] (.d (Bo r)) []:=by
 unfold M9 at h
 refine co 9 Tryz.func152 λ C hC=>?_
 obtain⟨y1,h2,h⟩:=Az h
 replace h:=sI h
 subst h
 exact wr [0,1,4] 25 [] [pc A9b (A8a x0 x1 _ h2) []] [] 0 [] hC []
theorem X7:EN 152:=en Tryz.func152
def O0:List Nat:=[0,1,4,5,7,8,9,16]
def Sb (x0:List (List Int)) (n0:Nat) (z0:Unit):St:=[(0,.d (DS (pL pI) x0)),(1,.d (.fn (.func 154) [] [])),(4,dI 0),(7,dI (ln x0)),(8,dI (cnt 0 n0))]
def Ym  (n0:Nat) (z0:Unit):List Res:=[]
def Aas  (z0:Unit):St:=[(4,dI 0)]
def Abx  (z0:Unit):List Res:=[]
theorem A3d (x0:List (List Int)) (r:Int) (h:qW x0=some r):CO 187 [.d (DS (pL pI) x0),.d (.fn (.func 154) [] [])] [] (.d (I r)) []:=by
 unfold qW at h
 refine co 19 Tryz.func187 λ C hC=>?_
 refine ws O0 26 [] [pl (pL pI) x0] [] 0 [] (Sb x0 0 ()) (Ym 0 ()) hC [] ?_
 obtain⟨w0,hm0,hret0,hnext0⟩:=As h
 clear h
 refine wc w0 (Aas) (Abx) ?_ λ z0 hs0=>?_
 ·refine wb ?_
  refine Bt 0 rfl λ hl0=>?_
  refine wl (Sb x0) (Ym) hm0 (λ z0 hn0=>?_) λ n0 a0 z0 w0b hi0 hx0 h hb0 hr0=>?_
  ·clear hm0
   exact wx w0 (Aas) (Abx) O0 26 [false] [] [] 0 [] _ hC [pq (Bf hl0)] hn0
  ·unfold Acf at h
   rcases cB h with⟨h1,h⟩ | ⟨h1,h⟩
   ·have hq:=hret0 _ (hr0 _ (sI h).symm)
    replace hq:=sI hq
    subst hq
    exact wr O0 35 [true,true] [pt hx0 hl0,pc A48 (A3t a0 _ rfl) []] [] 0 [] hC [pq (A9 hi0 hl0),pq h1]
   ·exact wx w0b (Sb x0 (n0+1)) (Ym (n0+1)) O0 36 [true,false] [pt hx0 hl0,pc A48 (A3t a0 _ rfl) []] [] 0 [] _ hC [pq (A9 hi0 hl0),pq h1] (sI h).symm
 ·have h:=hnext0 _ hs0
  replace h:=sI h
  subst h
  exact wr O0 23 [] [] [] 0 [] hC []
theorem A4s:EN 187:=en Tryz.func187
theorem A8u (x0:Bh) (r:Bool) (h:zS x0=r):CO 114 [.agg (d72 x0)] [] (.d (Bo r)) []:=by
 unfold zS at h
 refine co 18 Tryz.func114 λ C hC=>?_
 subst h
 exact wr n3_ 25 [] [pc e91 (k91 x0.Rating 1 50000 _ rfl) [],⟨.when [(F91 x0.Rating 1 50000,true)] (.call 91 [dI x0.Least,dI 0,dI x0.Rating] [] (dB (F91 x0.Least 0 x0.Rating)) [] []),λ hg=>⟨e91,(k91 x0.Least 0 x0.Rating _ rfl)⟩⟩,⟨.when [(((F91 x0.Rating 1 50000)&&(F91 x0.Least 0 x0.Rating)),true)] (.call 91 [dI x0.Start,dI 0,dI 600] [] (dB (F91 x0.Start 0 600)) [] []),λ hg=>⟨e91,(k91 x0.Start 0 600 _ rfl)⟩⟩] [] 0 [] hC []
theorem A9v:EN 114:=en Tryz.func114
def Vt:List Nat:=[0,1,2,4,5,6,8,9,10,11,33]
def vA (x0:A7) (x1:Int) (n0:Nat) (z0:Unit):St:=[(1,dI x1),(2,dO 0 0),(4,dB false),(8,.d (DS pI x0.Needs)),(9,dI (ln x0.Needs)),(10,dI (cnt 0 n0))]
def Aio (x0:A7) (n0:Nat) (z0:Unit):List Res:=[.box 81 (d81 x0)]
def Alq  (z0:Unit):St:=[(2,dO 0 0),(4,dB false)]
def Am7 (x0:A7) (z0:Unit):List Res:=[.box 81 (d81 x0)]
theorem A8t (x0:A7) (x1:Int) (r:Bool) (h:zR x0 x1=some r):CO 115 [.agg (d81 x0),.d (I x1)] [] (.d (Bo r)) []:=by
 unfold zR at h
 refine co 61 Tryz.func115 λ C hC=>?_
 refine ws Vt 26 [] [pl pI x0.Needs] [] 0 [0] (vA x0 x1 0 ()) (Aio x0 0 ()) hC [] ?_
 obtain⟨w0,hm0,hret0,hnext0⟩:=As h
 clear h
 refine wc w0 (Alq) (Am7 x0) ?_ λ z0 hs0=>?_
 ·refine wb ?_
  refine Bt 8 rfl λ hl0=>?_
  refine wl (vA x0 x1) (Aio x0) hm0 (λ z0 hn0=>?_) λ n0 a0 z0 w0b hi0 hx0 h hb0 hr0=>?_
  ·clear hm0
   exact wx w0 (Alq) (Am7 x0) Vt 26 [false] [] [] 0 [0] _ hC [pq (Bf hl0)] hn0
  ·unfold Wp at h
   obtain⟨y1,h2,h⟩:=Az h
   refine wn Vt 32 [true] [pt hx0 hl0,pc e91 (k91 a0 0 (w64 (x1-1)) _ rfl) [],pR pI h2] [] 0 [0] [1,2,4,8,9,10,33] hC [pq (A9 hi0 hl0)] ?_
   rcases cB h with⟨h3,h⟩ | ⟨h3,h⟩
   ·have hq:=hret0 _ (hr0 _ (sI h).symm)
    replace hq:=sI hq
    subst hq
    exact wr Vt 24 [true] [] [] 0 [] hC [pq h3]
   ·exact wx w0b (vA x0 x1 (n0+1)) (Aio x0 (n0+1)) Vt 25 [false] [] [] 0 [0] _ hC [pq h3] (sI h).symm
 ·have h:=hnext0 _ hs0
  replace h:=sI h
  subst h
  exact wr Vt 23 [] [pc e91 (k91 x0.Load 0 50000 _ rfl) [],⟨.when [(F91 x0.Load 0 50000,true)] (.call 91 [dI x0.Least,dI 0,dI x0.Load] [] (dB (F91 x0.Least 0 x0.Load)) [] []),λ hg=>⟨e91,(k91 x0.Least 0 x0.Load _ rfl)⟩⟩,⟨.when [(((F91 x0.Load 0 50000)&&(F91 x0.Least 0 x0.Load)),true)] (.call 91 [dI x0.Bm,dI 0,dI 15] [] (dB (F91 x0.Bm 0 15)) [] []),λ hg=>⟨e91,(k91 x0.Bm 0 15 _ rfl)⟩⟩,⟨.when [((((F91 x0.Load 0 50000)&&(F91 x0.Least 0 x0.Load))&&(F91 x0.Bm 0 15)),true)] (.call 91 [dI x0.Thruster,dI (-1),dI 7] [] (dB (F91 x0.Thruster (-1) 7)) [] []),λ hg=>⟨e91,(k91 x0.Thruster (-1) 7 _ rfl)⟩⟩,pL_ [(((((F91 x0.Load 0 50000)&&(F91 x0.Least 0 x0.Load))&&(F91 x0.Bm 0 15))&&(F91 x0.Thruster (-1) 7)),true)] pI x0.Needs] [] 0 [] hC []
theorem A9u:EN 115:=en Tryz.func115
def Vs:List Nat:=[0,1,4,5,6,11,12,13,16,19]
theorem Axx (x0:Int) (x1:Int) (r:Int) (h:J7 x0 x1=r):CO 118 [.d (I x0),.d (I x1)] [] (.d (I r)) []:=by
 unfold J7 at h
 refine co 20 Tryz.func118 λ C hC=>?_
 rcases cB h with⟨h1,h⟩ | ⟨h1,h⟩
 ·rcases cB h with⟨h2,h⟩ | ⟨h2,h⟩
  ·subst h
   exact wr Vs 37 [true,true] [pc K6 (K3 x0 _ rfl) [],pc K6 (K3 x1 _ rfl) []] [] 0 [] hC [pq h1,pq h2]
  ·subst h
   exact wr Vs 38 [true,false] [pc K6 (K3 x0 _ rfl) [],pc K6 (K3 x1 _ rfl) []] [] 0 [] hC [pq h1,pq h2]
 ·rcases cB h with⟨h3,h⟩ | ⟨h3,h⟩
  ·subst h
   exact wr Vs 38 [false,true] [pc K6 (K3 x0 _ rfl) [],pc K6 (K3 x1 _ rfl) []] [] 0 [] hC [pq h1,pq h3]
  ·rcases cB h with⟨h4,h⟩ | ⟨h4,h⟩
   ·subst h
    exact wr Vs 43 [false,false,true] [pc K6 (K3 x0 _ rfl) [],pc K6 (K3 x1 _ rfl) []] [] 0 [] hC [pq h1,pq h3,pq h4]
   ·rcases cB h with⟨h5,h⟩ | ⟨h5,h⟩
    ·subst h
     exact wr Vs 48 [false,false,false,true] [pc K6 (K3 x0 _ rfl) [],pc K6 (K3 x1 _ rfl) []] [] 0 [] hC [pq h1,pq h3,pq h4,pq h5]
    ·subst h
     exact wr Vs 49 [false,false,false,false] [pc K6 (K3 x0 _ rfl) [],pc K6 (K3 x1 _ rfl) []] [] 0 [] hC [pq h1,pq h3,pq h4,pq h5]
theorem Ayg:EN 118:=en Tryz.func118
theorem k90 (x0:Af) (r:Bool) (h:F90 x0=r):CO 90 [.agg (d93 x0)] [] (.d (Bo r)) []:=by
 unfold F90 at h
 refine co 21 Tryz.func90 λ C hC=>?_
 subst h
 exact wr n3_ 25 [] [pc e91 (k91 x0.State 0 3 _ rfl) [],⟨.when [(F91 x0.State 0 3,true)] (.call 91 [dI x0.Since,dI 0,dI 2147483648] [] (dB (F91 x0.Since 0 2147483648)) [] []),λ hg=>⟨e91,(k91 x0.Since 0 2147483648 _ rfl)⟩⟩,⟨.when [(((F91 x0.State 0 3)&&(F91 x0.Since 0 2147483648)),true)] (.call 91 [dI x0.Aq,dI 0,dI 6000] [] (dB (F91 x0.Aq 0 6000)) [] []),λ hg=>⟨e91,(k91 x0.Aq 0 6000 _ rfl)⟩⟩,⟨.when [((((F91 x0.State 0 3)&&(F91 x0.Since 0 2147483648))&&(F91 x0.Aq 0 6000)),true)] (.call 91 [dI x0.Phase,dI 0,dI 3599] [] (dB (F91 x0.Phase 0 3599)) [] []),λ hg=>⟨e91,(k91 x0.Phase 0 3599 _ rfl)⟩⟩] [] 0 [] hC []
theorem e90:EN 90:=en Tryz.func90
theorem k66 (x0:Ab) (r:Ab) (h:F66 x0=some r):CO 66 [.agg (d39 x0)] [] (.agg [.os 0,.os 1,.os 2,.os 3]) (zp r []):=by
 unfold F66 at h
 refine co 16 Tryz.func66 λ C hC=>?_
 obtain⟨y1,h2,y3,h4,y5,h6,y7,h8,h⟩:=Cv h
 replace h:=sI h
 subst h
 exact wr n3_ 25 [] [pc e93 (k93 x0.Ag _ h2) [],pc e94 (k94 x0.Ac _ h4) [],pc e95 (k95 x0.Ap _ h6) [],pc e96 (k96 x0.Am _ h8) []] [] 0 [2,3,4,5] hC []
theorem e66:EN 66:=en Tryz.func66
def Axk:List Nat:=[0,1,2,3,4,6,7,23]
theorem k98 (x0:Aa) (x1:Ab) (x2:Int) (r:Int×Bool) (h:F98 x0 x1 x2=some r):CO 98 [.agg (d30 x0),.agg (d39 x1),.d (I x2)] [] (.tup [.d (I r.1),.d (Bo r.2)]) []:=by
 unfold F98 at h
 refine co 30 Tryz.func98 λ C hC=>?_
 obtain⟨y1,h2,h⟩:=Az h
 refine wn Axk 26 [] [pl q93 x1.Ac,pc e91 (k91 x2 0 (w64 ((ln x1.Ac)-1)) _ rfl) [],pR q93 h2] [] 0 [0,1] [2,3,4,6,7,23] hC [] ?_
 rcases cB h with⟨h3,h⟩ | ⟨h3,h⟩
 ·replace h:=sI h
  subst h
  exact wr Axk 24 [true] [] [] 0 [] hC [pq h3]
 ·obtain⟨y4,h5,h⟩:=Az h
  replace h:=sI h
  subst h
  exact wr Axk 25 [false] [pc A5m (A37 x0 x1 2 x2 _ h5) []] [] 0 [] hC [pq h3]
theorem e98:EN 98:=en Tryz.func98
theorem k99 (x0:Aa) (x1:Ab) (x2:Int) (r:Int×Bool) (h:F99 x0 x1 x2=some r):CO 99 [.agg (d30 x0),.agg (d39 x1),.d (I x2)] [] (.tup [.d (I r.1),.d (Bo r.2)]) []:=by
 unfold F99 at h
 refine co 14 Tryz.func99 λ C hC=>?_
 obtain⟨y1,h2,h⟩:=Az h
 replace h:=sI h
 subst h
 exact wr [0,1,2,3,4,6,7] 25 [] [pc A5m (A37 x0 x1 3 x2 _ h2) []] [] 0 [] hC []
theorem e99:EN 99:=en Tryz.func99
def Lz:List Nat:=[0,1,4,5,7,8,9,16]
def Si (x0:List Ah) (n0:Nat) (z0:Unit):St:=[(0,.d (DS Bg x0)),(1,.d (.fn (.func 101) [] [])),(4,dI 0),(7,dI (ln x0)),(8,dI (cnt 0 n0))]
def Ys  (n0:Nat) (z0:Unit):List Res:=[]
def Aa7  (z0:Unit):St:=[(4,dI 0)]
def Acc  (z0:Unit):List Res:=[]
theorem Atc (x0:List Ah) (r:Int) (h:U6 x0=some r):CO 121 [.d (DS Bg x0),.d (.fn (.func 101) [] [])] [] (.d (I r)) []:=by
 unfold U6 at h
 refine co 19 Tryz.func121 λ C hC=>?_
 refine ws Lz 26 [] [pl Bg x0] [] 0 [] (Si x0 0 ()) (Ys 0 ()) hC [] ?_
 obtain⟨w0,hm0,hret0,hnext0⟩:=As h
 clear h
 refine wc w0 (Aa7) (Acc) ?_ λ z0 hs0=>?_
 ·refine wb ?_
  refine Bt 0 rfl λ hl0=>?_
  refine wl (Si x0) (Ys) hm0 (λ z0 hn0=>?_) λ n0 a0 z0 w0b hi0 hx0 h hb0 hr0=>?_
  ·clear hm0
   exact wx w0 (Aa7) (Acc) Lz 26 [false] [] [] 0 [] _ hC [pq (Bf hl0)] hn0
  ·unfold Aci at h
   refine wn Lz 32 [true] [pt hx0 hl0,pc A5r (A4c a0 _ rfl) []] [] 0 [] [0,1,4,5,7,8,16] hC [pq (A9 hi0 hl0)] ?_
   rcases cB h with⟨h1,h⟩ | ⟨h1,h⟩
   ·have hq:=hret0 _ (hr0 _ (sI h).symm)
    replace hq:=sI hq
    subst hq
    exact wr Lz 24 [true] [] [] 0 [] hC [pq h1]
   ·exact wx w0b (Si x0 (n0+1)) (Ys (n0+1)) Lz 25 [false] [] [] 0 [] _ hC [pq h1] (sI h).symm
 ·have h:=hnext0 _ hs0
  replace h:=sI h
  subst h
  exact wr Lz 23 [] [] [] 0 [] hC []
theorem At6:EN 121:=en Tryz.func121
theorem k50 (x0:Ab) (x1:Ab) (r:Bool) (h:F50 x0 x1=some r):CO 50 [.agg (d39 x0),.agg (d39 x1)] [] (.d (Bo r)) []:=by
 unfold F50 at h
 refine co 31 Tryz.func50 λ C hC=>?_
 obtain⟨y1,h2,y3,h4,y5,h6,y7,h8,h⟩:=Cv h
 replace h:=sI h
 subst h
 exact wr n5_ 25 [] [pc e69 (k69 x0.Ag x1.Ag _ h2) [],pw e70 (λ hg=>k70 x0.Ac x1.Ac _ (Ba h4 hg)) [],pw e71 (λ hg=>k71 x0.Ap x1.Ap _ (Ba h6 hg)) [],pw e72 (λ hg=>k72 x0.Am x1.Am _ (Ba h8 hg)) []] [] 0 [] hC []
theorem e50:EN 50:=en Tryz.func50
theorem A6u (x0:Av) (x1c0:Ar) (r:Bool×Ar) (h:Gf x0 x1c0=r):CO 52 [.agg (d84 x0),.d (.o 0 0)] [.box 111 [.fn (.func 48) [] [.o 1 0]],.box 43 (d43 x1c0)] (.d (Bo r.1)) [.box 111 [.fn (.func 48) [] [.o 1 0]],.box 43 (d43 r.2)]:=by
 unfold Gf at h
 refine co 16 Tryz.func52 λ C hC=>?_
 subst h
 exact wr n4_ 25 [] [pb Azu (Azp x0.High x1c0 _ rfl),⟨.when [(!(Ra x0.High x1c0),false)] (.callB 48 [dI x0.Low,.d (.ip [.v (.int .i64 x1c0.Time),.s (x1c0.Power.Ag.map pB),.s (x1c0.Power.Ac.map q93),.s (x1c0.Power.Ap.map pI),.s (x1c0.Power.Am.map q96),.s (x1c0.A2.map q84),.s (x1c0.A8.map q65)])] (dB (Ra x0.Low x1c0)) [[]] 0 []),λ hg=>Iz ⟨Azu,(Azp x0.Low x1c0 _ rfl)⟩⟩] [] 2 [0,1] hC []
theorem A7c:EN 52:=en Tryz.func52
def Hq:List Nat:=[0,1,2,3,4,6,7,14,21,27,39]
def vD (x1:Ao) (z0:Bool):St:=[(2,dO 0 0),(3,dO 1 0),(4,dB false),(6,dI x1.Kind),(7,dB z0)]
def yV (x0:Aa) (x1:Ao) (z0:Bool):List Res:=[.box 30 (d30 x0),.box 63 (d63 x1)]
def vC (x1:Ao) (z1:Bool):St:=[(2,dO 0 0),(3,dO 1 0),(4,dB false),(6,dI x1.Kind),(14,dB z1)]
def yU (x0:Aa) (x1:Ao) (z1:Bool):List Res:=[.box 30 (d30 x0),.box 63 (d63 x1)]
theorem A4a (x0 : Aa) (x1 : Ao) (r : Bool) (h : zY x0 x1 = some r) : CO 108 [.agg (d30 x0), .agg (d63 x1)] [] (.d (Bo r)) [] := by
 unfold zY at h
 refine co 48 Tryz.func108 λ C hC=>?_
 refine wn Hq 30 [] [] [] 0 [0,1] [2,3,4,6,7] hC [] ?_
 obtain⟨w0,h,hret0,hnext0⟩:=As h
 refine wc w0 (vD x1) (yV x0 x1) ?_ λ z0 hs0=>?_
 ·unfold zX at h
  rcases cB h with⟨h1,h⟩ | ⟨h1,h⟩
  ·exact wx w0 (vD x1) (yV x0 x1) Hq 23 [true] [] [] 0 [0,1] _ hC [pq h1] (sI h).symm
  ·exact wx w0 (vD x1) (yV x0 x1) Hq 23 [false] [] [] 0 [0,1] _ hC [pq h1] (sI h).symm
 ·clear h; have h := hnext0 _ hs0
  rcases cB h with⟨h2,h⟩ | ⟨h2,h⟩
  ·replace h:=sI h
   subst h
   exact wr Hq 24 [true] [pc X8 (X2 x0 2 x1.Unit _ rfl) []] [] 0 [] hC [pq h2]
  ·refine wn Hq 25 [false] [] [] 0 [0,1] [2,3,4,6,14] hC [pq h2] ?_
   obtain⟨w1,h,hret1,hnext1⟩:=As h
   refine wc w1 (vC x1) (yU x0 x1) ?_ λ z1 hs1=>?_
   ·unfold zW at h
    rcases cB h with⟨h3,h⟩ | ⟨h3,h⟩
    ·exact wx w1 (vC x1) (yU x0 x1) Hq 23 [true] [] [] 0 [0,1] _ hC [pq h3] (sI h).symm
    ·exact wx w1 (vC x1) (yU x0 x1) Hq 23 [false] [] [] 0 [0,1] _ hC [pq h3] (sI h).symm
   ·clear h;have h:=hnext1 _ hs1
    rcases cB h with⟨h4,h⟩ | ⟨h4,h⟩
    ·replace h:=sI h
     subst h
     exact wr Hq 24 [true] [pc X8 (X2 x0 1 x1.Unit _ rfl) []] [] 0 [] hC [pq h4]
    ·rcases cB h with⟨h5,h⟩ | ⟨h5,h⟩
     ·replace h:=sI h
      subst h
      exact wr Hq 27 [false,true] [pc X8 (X2 x0 4 x1.Unit _ rfl) []] [] 0 [] hC [pq h4,pq h5]
     ·rcases cB h with⟨h6,h⟩ | ⟨h6,h⟩
      ·replace h:=sI h
       subst h
       exact wr Hq 30 [false,false,true] [pc X8 (X2 x0 1 x1.Unit _ rfl) [],⟨.when [(J6 x0 1 x1.Unit,true)] (.call 135 [.agg (d30 x0),dI 3,dI x1.Value] [] (dB (J6 x0 3 x1.Value)) [] []),λ hg=>⟨X8,(X2 x0 3 x1.Value _ rfl)⟩⟩] [] 0 [] hC [pq h4,pq h5,pq h6]
      ·rcases cB h with⟨h7,h⟩ | ⟨h7,h⟩
       ·replace h:=sI h
        subst h
        exact wr Hq 36 [false,false,false,true,true] [pc X8 (X2 x0 x1.Value x1.Unit _ rfl) []] [] 0 [] hC [pq h4,pq h5,pq h6,pq h7,pq h7]
       ·rcases cB h with⟨h8,h⟩ | ⟨h8,h⟩
        ·replace h:=sI h
         subst h
         exact wr Hq 36 [false,false,false,false,true] [pc X8 (X2 x0 x1.Value x1.Unit _ rfl) []] [] 0 [] hC [pq h4,pq h5,pq h6,pq h7,pq h8]
        ·replace h:=sI h
         subst h
         exact wr Hq 38 [false,false,false,false,false] [] [] 0 [] hC [pq h4,pq h5,pq h6,pq h7,pq h8]
theorem A5p:EN 108:=en Tryz.func108
theorem A78 (x0:List Ak) (x1:Ak) (r:Bool) (h:Aqn x0 x1=some r):CO 198 [.d (DS q96 x0),.agg (d96 x1)] [] (.d (Bo r)) []:=by
 unfold Aqn at h
 refine co 9 Tryz.func198 λ C hC=>?_
 obtain⟨y1,h2,h⟩:=Az h
 replace h:=sI h
 subst h
 exact wr [0,1,3,4] 25 [] [pc A85 (A74 x0 x1 _ h2) []] [] 0 [] hC []
theorem A89:EN 198:=en Tryz.func198
theorem A72 (x0:Int) (x1:Int) (r:Int) (h:Aqk x0 x1=r):CO 215 [.d (I x0),.d (I x1)] [] (.d (I r)) []:=by
 unfold Aqk at h
 refine co 17 Tryz.func215 λ C hC=>?_
 refine wn [0,1,4,5,13] 28 [] [pc Aos (Aoc x1 _ rfl) [],pc Aos (Aoc x0 _ rfl) [],pc Aos (Aoc (w64 ((Gz x1)-(Gz x0))) _ rfl) []] [] 0 [] [4,5,13] hC [] ?_
 rcases cB h with⟨h1,h⟩ | ⟨h1,h⟩
 ·subst h
  exact wr [0,1,4,5,13] 25 [true] [] [] 0 [] hC [pq h1]
 ·subst h
  exact wr [0,1,4,5,13] 25 [false] [] [] 0 [] hC [pq h1]
theorem A83:EN 215:=en Tryz.func215
def Lu:List Nat:=[0,1,4,5,7,8,9,16]
def Sd (x0:List Ai) (n0:Nat) (z0:Unit):St:=[(0,.d (DS q70 x0)),(1,.d (.fn (.func 211) [] [.o 0 0])),(4,dI 0),(7,dI (ln x0)),(8,dI (cnt 0 n0))]
def Yo (x1c0:Int) (n0:Nat) (z0:Unit):List Res:=[.box 3 [I x1c0]]
def Aav  (z0:Unit):St:=[(4,dI 0)]
def Ab0 (x1c0:Int) (z0:Unit):List Res:=[.box 3 [I x1c0]]
theorem A3j (x0:List Ai) (x1c0:Int) (r:Int×Int) (h:qZ x0 x1c0=some r):CO 172 [.d (DS q70 x0),.d (.fn (.func 211) [] [.o 0 0])] [.box 3 [I x1c0]] (.d (I r.1)) [.box 3 [I r.2]]:=by
 unfold qZ at h
 refine co 19 Tryz.func172 λ C hC=>?_
 refine ws Lu 26 [] [pl q70 x0] [] 1 [0] (Sd x0 0 ()) (Yo x1c0 0 ()) hC [] ?_
 obtain⟨w0,hm0,hret0,hnext0⟩:=As h
 clear h
 refine wc w0 (Aav) (Ab0 x1c0) ?_ λ z0 hs0=>?_
 ·refine wb ?_
  refine Bt 0 rfl λ hl0=>?_
  refine wl (Sd x0) (Yo x1c0) hm0 (λ z0 hn0=>?_) λ n0 a0 z0 w0b hi0 hx0 h hb0 hr0=>?_
  ·clear hm0
   exact wx w0 (Aav) (Ab0 x1c0) Lu 26 [false] [] [] 1 [0] _ hC [pq (Bf hl0)] hn0
  ·unfold N6 at h
   refine wn Lu 32 [true] [pt hx0 hl0,pb A4l (A26 a0 x1c0 _ rfl)] [] 1 [0] [0,1,4,5,7,8,16] hC [pq (A9 hi0 hl0)] ?_
   rcases cB h with⟨h1,h⟩ | ⟨h1,h⟩
   ·have hq:=hret0 _ (hr0 _ (sI h).symm)
    replace hq:=sI hq
    subst hq
    exact wr Lu 24 [true] [] [] 1 [0] hC [pq h1]
   ·exact wx w0b (Sd x0 (n0+1)) (Yo x1c0 (n0+1)) Lu 25 [false] [] [] 1 [0] _ hC [pq h1] (sI h).symm
 ·have h:=hnext0 _ hs0
  replace h:=sI h
  subst h
  exact wr Lu 23 [] [] [] 1 [0] hC []
theorem A4y:EN 172:=en Tryz.func172
def Ls:List Nat:=[0,1,2,4,6,7,8,9,10,11,17,31]
def Na (x0:List Ak) (z0:Int×Int):St:=[(0,.d (DS q96 x0)),(2,.d (.fn (.func 178) [] [])),(4,dO 0 0),(6,dI 0),(7,dB false),(8,dI (ln x0)),(9,dI z0.1),(10,dI z0.2)]
def Qx (x1:Ak) (z0:Int×Int):List Res:=[.box 96 (d96 x1)]
def Aat (x0:List Ak) (z0:Int×Int):St:=[(0,.d (DS q96 x0)),(2,.d (.fn (.func 178) [] [])),(4,dO 0 0),(6,dI 0),(7,dB false),(8,dI (ln x0)),(9,dI z0.1)]
def Aby (x1:Ak) (z0:Int×Int):List Res:=[.box 96 (d96 x1)]
theorem As9 (x0:List Ak) (x1:Ak) (r:Int×Bool) (h:Ug x0 x1=some r):CO 177 [.d (DS q96 x0),.agg (d96 x1),.d (.fn (.func 178) [] [])] [] (.tup [.d (I r.1),.d (Bo r.2)]) []:=by
 unfold Ug at h
 refine co 49 Tryz.func177 λ C hC=>?_
 refine ws Ls 28 [] [pl q96 x0] [] 0 [0] (Na x0 (0,(ln x0))) (Qx x1 (0,(ln x0))) hC [] ?_
 obtain⟨w0,hm0,hret0,hnext0⟩:=As h
 clear h
 refine wc w0 (Aat x0) (Aby x1) ?_ λ z0 hs0=>?_
 ·refine wb ?_
  refine ww (Na x0) (Qx x1) hm0 λ z0 w0b h hb0 hr0=>?_
  unfold Uf at h
  rcases cB h with⟨h1,h⟩ | ⟨h1,h⟩
  ·obtain⟨y2,h3,h⟩:=Az h
   refine wn Ls 31 [true] [pr q96 h3,pc A4v (A3g y2 x1 _ rfl) []] [] 0 [0] [0,2,4,6,7,8,9,10,11,31] hC [pq h1] ?_
   rcases cB h with⟨h4,h⟩ | ⟨h4,h⟩
   ·exact wx w0b (Na x0) (Qx x1) Ls 24 [true] [] [] 0 [0] _ hC [pq h4] (sI h).symm
   ·exact wx w0b (Na x0) (Qx x1) Ls 24 [false] [] [] 0 [0] _ hC [pq h4] (sI h).symm
  ·exact wx w0 (Aat x0) (Aby x1) Ls 26 [false] [] [] 0 [0] (z0.1,z0.2) hC [pq h1] (hb0 _ (sI h).symm)
 ·have h:=hnext0 _ hs0
  obtain⟨y5,h6,h⟩:=Az h
  replace h:=sI h
  subst h
  exact wr Ls 23 [] [pR q96 h6,⟨.when [(decide (z0.1<(ln x0)),true)] (.call 178 [.agg (d96 y5),.agg (d96 x1)] [] (dI (Rj y5 x1)) [] []),λ hg=>⟨A4v,(A3g y5 x1 _ rfl)⟩⟩] [] 0 [] hC []
theorem At3:EN 177:=en Tryz.func177
def Hi:List Nat:=[0,1,4,5,6,8,13,14,15,16,32,38,39,40,41]
def Ng (x0:Ay) (n0:Nat) (z0:(List Int)):St:=[(0,dO 0 0),(1,.d (.fn (.func 194) [] [.o 6 0])),(4,dS 7),(13,.d (DS q70 x0.Al.Ad)),(14,dI (ln x0.Al.Ad)),(15,dI (cnt 0 n0))]
def Q1 (x0:Ay) (x1c0:Int) (n0:Nat) (z0:(List Int)):List Res:=(.box 214 (zb x0.Al [.os 8,.os 9,.os 10,.os 11,.os 12]) :: .non :: .non :: .non :: .non :: .non :: .box 3 [I x1c0]::v0_ z0::zp x0.Au [v6_ x0.acts])
def Aa0  (z0:(List Int)):St:=[(0,dO 0 0),(4,dS 7)]
def Ab5 (x0:Ay) (x1c0:Int) (z0:(List Int)):List Res:=(.box 214 (zb x0.Al [.os 8,.os 9,.os 10,.os 11,.os 12]) :: .non :: .non :: .non :: .non :: .non :: .box 3 [I x1c0]::v0_ z0::zp x0.Au [v6_ x0.acts])
def Se (z0:(List Int)) (n1:Nat) (z1:Sg7):St:=[(0,dO 0 0),(38,dS 7),(39,dI (ln z0)),(40,dI (cnt 0 n1))]
def Yp (x1c0:Int) (z0:(List Int)) (n1:Nat) (z1:Sg7):List Res:=[.box 214 [I z1.1,DS q70 z1.2.1,DS q72 z1.2.2.1,DS q81 (g3_ z1),I (g4_ z1),I (g5_ z1),.os 8,.os 9,.os 10,.os 11,.os 12],.non,.non,.non,.non,.non,.box 3 [I x1c0],v0_ z0,v2_ (g6_ z1),v4_ (g7_ z1),v0_ (g8_ z1),v3_ (g9_ z1),v6_ (Fu z1)]
def Aaz  (z1:Sg7):St:=[]
def Ab4 (x1c0:Int) (z1:Sg7):List Res:=[.box 214 [I z1.1,DS q70 z1.2.1,DS q72 z1.2.2.1,DS q81 (g3_ z1),I (g4_ z1),I (g5_ z1),.os 7,.os 8,.os 9,.os 10,.os 11],.non,.non,.non,.non,.non,.box 3 [I x1c0],v2_ (g6_ z1),v4_ (g7_ z1),v0_ (g8_ z1),v3_ (g9_ z1),v6_ (Fu z1)]
theorem A3q (x0:Ay) (x1c0:Int) (r:Ay×Int) (h:Ut x0 x1c0=some r):CO 156 [.d (.o 0 0),.d (.fn (.func 194) [] [.o 6 0])] (.box 214 (zb x0.Al [.os 1,.os 2,.os 3,.os 4,.os 5])::zp x0.Au [v6_ x0.acts,.box 3 [I x1c0]]) (.tup []) (.box 214 (zb r.1.Al [.os 7,.os 8,.os 9,.os 10,.os 11]) :: .non :: .non :: .non :: .non :: .non :: .box 3 [I r.2]::zp r.1.Au [v6_ r.1.acts]):=by
 unfold Ut at h
 refine co 48 Tryz.func156 λ C hC=>?_
 refine ws Hi 26 [] [pl q70 x0.Al.Ad] [.own 4 3 1,.mv 1,.mv 2,.mv 3,.mv 4,.mv 5] 7 H7 (Ng x0 0 ([]:List Int)) (Q1 x0 x1c0 0 ([]:List Int)) hC [] ?_
 obtain⟨w0,hm0,hret0,hnext0⟩:=As h
 clear h
 refine wc w0 (Aa0) (Ab5 x0 x1c0) ?_ λ z0 hs0=>?_
 ·refine wb ?_
  refine Bt 13 rfl λ hl0=>?_
  refine wl (Ng x0) (Q1 x0 x1c0) hm0 (λ z0 hn0=>?_) λ n0 a0 z0 w0b hi0 hx0 h hb0 hr0=>?_
  ·clear hm0
   exact wx w0 (Aa0) (Ab5 x0 x1c0) Hi 26 [false] [] [] 7 H7 _ hC [pq (Bf hl0)] hn0
  ·unfold Us at h
   obtain⟨y1,h2,h⟩:=Az h
   refine wn Hi 32 [true] [pt hx0 hl0,pr pB h2,pn pB h2,⟨.when [(y1,true)] (.callB 194 [.agg (d70 a0),.d (.ip [.v (.int .i64 x1c0)])] (dB (Uc a0 x1c0)) [[]] 0 []),λ hg=>Iz ⟨A4o,(A29 a0 x1c0 _ rfl)⟩⟩] [] 7 H7 [0,1,4,5,13,14,15,32] hC [pq (A9 hi0 hl0)] ?_
   rcases cB h with⟨h3,h⟩ | ⟨h3,h⟩
   ·obtain⟨y4,h5,h⟩:=Az h
    exact wx w0b (Ng x0 (n0+1)) (Q1 x0 x1c0 (n0+1)) Hi 25 [true] [pa pI 1 h5] [] 7 [0,1,2,3,4,5,6,13,8,9,10,11,12] _ hC [pq h3] (sI h).symm
   ·exact wx w0b (Ng x0 (n0+1)) (Q1 x0 x1c0 (n0+1)) Hi 25 [false] [] [] 7 H7 _ hC [pq h3] (sI h).symm
 ·have h:=hnext0 _ hs0
  refine ws Hi 23 [] [pl pI z0] [] 7 H7 (Se z0 0 (zt x0.Al (zu x0.Au x0.acts))) (Yp x1c0 z0 0 (zt x0.Al (zu x0.Au x0.acts))) hC [] ?_
  obtain⟨w1,hm1,hret1,hnext1⟩:=As h
  clear h
  refine wc w1 (Aaz) (Ab4 x1c0) ?_ λ z1 hs1=>?_
  ·refine wb ?_
   refine Cm 38 7 rfl rfl λ hl1=>?_
   refine wl (Se z0) (Yp x1c0 z0) hm1 (λ z1 hn1=>?_) λ n1 a1 z1 w1b hi1 hx1 h hb1 hr1=>?_
   ·clear hm1
    exact wx w1 (Aaz) (Ab4 x1c0) Hi 26 [false] [] [] 7 [0,1,2,3,4,5,6,8,9,10,11,12] _ hC [pq (Bf hl1)] hn1
   ·unfold Acg at h
    obtain⟨y6,h7,h⟩:=Az h
    exact wx w1b (Se z0 (n1+1)) (Yp x1c0 z0 (n1+1)) Hi 33 [true] [pr pI (Bp hx1 hl1),pn pI (Bp hx1 hl1),pc Ag1 (Af8 (⟨(⟨z1.1,z1.2.1,z1.2.2.1,(g3_ z1),(g4_ z1),(g5_ z1)⟩:Aa),(⟨(g6_ z1),(g7_ z1),(g8_ z1),(g9_ z1)⟩:Ab),(Fu z1)⟩:Ay) a1 _ h7) [0,8,9,10,11,12]] [] 7 [0,1,2,3,4,5,6,7,8,9,10,11,13] _ hC [pq (A9 hi1 hl1)] (sI h).symm
  ·have h:=hnext1 _ hs1
   replace h:=sI h
   subst h
   exact wf Hi 20 [] [] [] 7 Fo hC []
theorem A45:EN 156:=en Tryz.func156
theorem A8f (x0:Int) (x1:Int) (r:Int×Int) (h:Uk x0 x1=r):CO 164 [.d (.p (.v (.int .u64 x0))),.d (.p (.v (.int .u64 x1)))] [] (.tup [.d (.p (.v (.int .u64 r.1))),.d (.p (.v (.int .u64 r.2)))]) []:=by
 unfold Uk at h
 refine co 30 Tryz.func164 λ C hC=>?_
 subst h
 exact wr [0,1,4,5,6,7,8,9] 30 [false] [pc A9a (A79 x0 x1 _ rfl) []] [] 0 [] hC [⟨(false,false),rfl⟩]
theorem A9g:EN 164:=en Tryz.func164
def Lt:List Nat:=[0,1,4,5,7,8,9,16]
def Sc (x0:List Ai) (n0:Nat) (z0:Unit):St:=[(0,.d (DS q70 x0)),(1,.d (.fn (.func 173) [] [.o 0 0])),(4,dI 0),(7,dI (ln x0)),(8,dI (cnt 0 n0))]
def Yn (x1c0:Int) (n0:Nat) (z0:Unit):List Res:=[.box 3 [I x1c0]]
def Aau  (z0:Unit):St:=[(4,dI 0)]
def Abz (x1c0:Int) (z0:Unit):List Res:=[.box 3 [I x1c0]]
theorem A3i (x0:List Ai) (x1c0:Int) (r:Int×Int) (h:qY x0 x1c0=some r):CO 172 [.d (DS q70 x0),.d (.fn (.func 173) [] [.o 0 0])] [.box 3 [I x1c0]] (.d (I r.1)) [.box 3 [I r.2]]:=by
 unfold qY at h
 refine co 19 Tryz.func172 λ C hC=>?_
 refine ws Lt 26 [] [pl q70 x0] [] 1 [0] (Sc x0 0 ()) (Yn x1c0 0 ()) hC [] ?_
 obtain⟨w0,hm0,hret0,hnext0⟩:=As h
 clear h
 refine wc w0 (Aau) (Abz x1c0) ?_ λ z0 hs0=>?_
 ·refine wb ?_
  refine Bt 0 rfl λ hl0=>?_
  refine wl (Sc x0) (Yn x1c0) hm0 (λ z0 hn0=>?_) λ n0 a0 z0 w0b hi0 hx0 h hb0 hr0=>?_
  ·clear hm0
   exact wx w0 (Aau) (Abz x1c0) Lt 26 [false] [] [] 1 [0] _ hC [pq (Bf hl0)] hn0
  ·unfold N5 at h
   refine wn Lt 32 [true] [pt hx0 hl0,pb A4w (A3h a0 x1c0 _ rfl)] [] 1 [0] [0,1,4,5,7,8,16] hC [pq (A9 hi0 hl0)] ?_
   rcases cB h with⟨h1,h⟩ | ⟨h1,h⟩
   ·have hq:=hret0 _ (hr0 _ (sI h).symm)
    replace hq:=sI hq
    subst hq
    exact wr Lt 24 [true] [] [] 1 [0] hC [pq h1]
   ·exact wx w0b (Sc x0 (n0+1)) (Yn x1c0 (n0+1)) Lt 25 [false] [] [] 1 [0] _ hC [pq h1] (sI h).symm
 ·have h:=hnext0 _ hs0
  replace h:=sI h
  subst h
  exact wr Lt 23 [] [] [] 1 [0] hC []
theorem A4x:EN 172:=en Tryz.func172
theorem k23 (x0:Ar) (r:Int) (h:F23 x0=some r):CO 23 [.agg (d43 x0)] [] (.d (.p (.v (.int .u64 r)))) []:=by
 unfold F23 at h
 refine co 7 Tryz.func23 λ C hC=>?_
 obtain⟨y1,h2,y3,h4,h⟩:=Bc h
 replace h:=sI h
 subst h
 exact wr n3_ 25 [] [pc e42 (k42  _ rfl) [],pc e22 (k22 x0 _ h2) [],pc e41 (k41 F42 y1 _ h4) []] [] 0 [] hC []
theorem e23:EN 23:=en Tryz.func23
theorem k19 (x0:Aj) (x1:Int) (r:Int×Aj) (h:F19 x0 x1=some r):CO 19 [.d (.o 0 0),.d (I x1)] [.box 77 (d77 x0)] (.d (I r.1)) [.box 77 (d77 r.2)]:=by
 unfold F19 at h
 refine co 35 Tryz.func19 λ C hC=>?_
 rcases cB h with⟨h1,h⟩ | ⟨h1,h⟩
 ·replace h:=sI h
  subst h
  exact wr [0,1,4,14] 29 [true] [pl pI x0.L] [] 1 [0] hC [pq h1]
 ·obtain⟨y2,h3,y4,h5,h⟩:=Bc h
  replace h:=sI h
  subst h
  exact wr [0,1,4,14] 32 [false] [pl pI x0.L,pr pI h3,pc e35 (k35 y2 x1 _ h5) []] [] 1 [0] hC [pq h1]
theorem e19:EN 19:=en Tryz.func19
def Af3:List Nat:=[0,1,2,3,4,6,7,16,25,33]
theorem k64 (x0:Aa) (x1:Ak) (r:Bool) (h:F64 x0 x1=r):CO 64 [.agg (d30 x0),.agg (d96 x1)] [] (.d (Bo r)) []:=by
 unfold F64 at h
 refine co 42 Tryz.func64 λ C hC=>?_
 rcases cB h with⟨h1,h⟩ | ⟨h1,h⟩
 ·subst h
  exact wr Af3 32 [true] [pl q72 x0.Ac,pc e82 (k82 x1.Number 0 (w64 ((ln x0.Ac)-1)) _ rfl) []] [] 0 [] hC [pq h1]
 ·rcases cB h with⟨h2,h⟩ | ⟨h2,h⟩
  ·subst h
   exact wr Af3 35 [false,true] [pl q70 x0.Ad,pc e82 (k82 x1.Number 0 (w64 ((ln x0.Ad)-1)) _ rfl) []] [] 0 [] hC [pq h1,pq h2]
  ·rcases cB h with⟨h3,h⟩ | ⟨h3,h⟩
   ·subst h
    exact wr Af3 38 [false,false,true] [pc e82 (k82 x1.Number 0 (w64 (x0.An-1)) _ rfl) []] [] 0 [] hC [pq h1,pq h2,pq h3]
   ·rcases cB h with⟨h4,h⟩ | ⟨h4,h⟩
    ·subst h
     exact wr Af3 41 [false,false,false,true] [pl q81 x0.Ae,pc e82 (k82 x1.Number 0 (w64 ((ln x0.Ae)-1)) _ rfl) []] [] 0 [] hC [pq h1,pq h2,pq h3,pq h4]
    ·subst h
     exact wr Af3 43 [false,false,false,false] [] [] 0 [] hC [pq h1,pq h2,pq h3,pq h4]
theorem e64:EN 64:=en Tryz.func64
theorem k16 (x0:List Int) (x1:List Int) (r:Bool) (h:F16 x0 x1=some r):CO 16 [.d (DS (pK .u64) x0),.d (DS (pK .u64) x1)] [] (.d (Bo r)) []:=by
 unfold F16 at h
 refine co 9 Tryz.func16 λ C hC=>?_
 obtain⟨y1,h2,h⟩:=Az h
 replace h:=sI h
 subst h
 exact wr [0,1,4] 25 [] [pc e32 (k32 x0 x1 _ h2) []] [] 0 [] hC []
theorem e16:EN 16:=en Tryz.func16
def Mp:List Nat:=[0,1,2,3,4,5,6,38,41,42,43,55,59,60,61,73]
def Aem (x0:Ab) (z0:Int):St:=[(2,dO 0 0),(3,dO 1 0),(4,dB false),(41,dI (ln x0.Ac)),(42,dI z0)]
def Ap9 (x0:Ab) (x1:Ab) (z0:Int):List Res:=[.box 39 (d39 x0),.box 39 (d39 x1)]
def Asg  (z0:Int):St:=[(2,dO 0 0),(3,dO 1 0),(4,dB false)]
def Av7 (x0:Ab) (x1:Ab) (z0:Int):List Res:=[.box 39 (d39 x0),.box 39 (d39 x1)]
def Ael (x0:Ab) (z1:Int):St:=[(2,dO 0 0),(3,dO 1 0),(4,dB false),(59,dI (ln x0.Am)),(60,dI z1)]
def Ap8 (x0:Ab) (x1:Ab) (z1:Int):List Res:=[.box 39 (d39 x0),.box 39 (d39 x1)]
def Asf  (z1:Int):St:=[(4,dB false)]
def Av6  (z1:Int):List Res:=[]
theorem k33 (x0:Ab) (x1:Ab) (r:Bool) (h:F33 x0 x1=some r):CO 33 [.agg (d39 x0),.agg (d39 x1)] [] (.d (Bo r)) []:=by
 unfold F33 at h
 refine co 75 Tryz.func33 λ C hC=>?_
 obtain⟨y1,h2,y3,h4,h⟩:=Bc h
 refine wn Mp 26 [] [pc e54 (k54 x0.Ag x1.Ag _ h2) [],pw e55 (λ hg=>k55 x0.Ap x1.Ap _ (Ba h4 hg)) [],pL_ [(((!y1) || (!y3)),false)] q93 x0.Ac,pL_ [(((!y1) || (!y3)),false)] q93 x1.Ac,pL_ [((((!y1) || (!y3)) || ((ln x0.Ac) != (ln x1.Ac))),false)] q96 x0.Am,pL_ [((((!y1) || (!y3)) || ((ln x0.Ac) != (ln x1.Ac))),false)] q96 x1.Am] [] 0 [0,1] [2,3,4,38] hC [] ?_
 rcases cB h with⟨h5,h⟩ | ⟨h5,h⟩
 ·replace h:=sI h
  subst h
  exact wr Mp 24 [true] [] [] 0 [] hC [pq h5]
 ·refine ws Mp 26 [false] [pl q93 x0.Ac] [] 0 [0,1] (Aem x0 0) (Ap9 x0 x1 0) hC [pq h5] ?_
  obtain⟨w0,hm0,hret0,hnext0⟩:=As h
  clear h
  refine wc w0 (Asg) (Av7 x0 x1) ?_ λ z0 hs0=>?_
  ·refine wb ?_
   refine ww (Aem x0) (Ap9 x0 x1) hm0 λ z0 w0b h hb0 hr0=>?_
   unfold Ajl at h
   rcases cB h with⟨h6,h⟩ | ⟨h6,h⟩
   ·obtain⟨y7,h8,y9,h10,h⟩:=Bc h
    rcases cB h with⟨h11,h⟩ | ⟨h11,h⟩
    ·have hq:=hret0 _ (hr0 _ (sI h).symm)
     replace hq:=sI hq
     subst hq
     exact wr Mp 35 [true,true] [pr q93 h8,pr q93 h10] [] 0 [] hC [pq h6,pq h11]
    ·exact wx w0b (Aem x0) (Ap9 x0 x1) Mp 36 [true,false] [pr q93 h8,pr q93 h10] [] 0 [0,1] _ hC [pq h6,pq h11] (sI h).symm
   ·exact wx w0 (Asg) (Av7 x0 x1) Mp 26 [false] [] [] 0 [0,1] z0 hC [pq h6] (hb0 _ (sI h).symm)
  ·have h:=hnext0 _ hs0
   refine ws Mp 24 [] [pl q96 x0.Am] [] 0 [0,1] (Ael x0 0) (Ap8 x0 x1 0) hC [] ?_
   obtain⟨w1,hm1,hret1,hnext1⟩:=As h
   clear h
   refine wc w1 (Asf) (Av6) ?_ λ z1 hs1=>?_
   ·refine wb ?_
    refine ww (Ael x0) (Ap8 x0 x1) hm1 λ z1 w1b h hb1 hr1=>?_
    unfold Ajk at h
    rcases cB h with⟨h12,h⟩ | ⟨h12,h⟩
    ·obtain⟨y13,h14,y15,h16,h⟩:=Bc h
     rcases cB h with⟨h17,h⟩ | ⟨h17,h⟩
     ·have hq:=hret1 _ (hr1 _ (sI h).symm)
      replace hq:=sI hq
      subst hq
      exact wr Mp 35 [true,true] [pr q96 h14,pr q96 h16] [] 0 [] hC [pq h12,pq h17]
     ·exact wx w1b (Ael x0) (Ap8 x0 x1) Mp 36 [true,false] [pr q96 h14,pr q96 h16] [] 0 [0,1] _ hC [pq h12,pq h17] (sI h).symm
    ·exact wx w1 (Asf) (Av6) Mp 26 [false] [] [] 0 [] z1 hC [pq h12] (hb1 _ (sI h).symm)
   ·have h:=hnext1 _ hs1
    replace h:=sI h
    subst h
    exact wr Mp 23 [] [] [] 0 [] hC []
theorem e33:EN 33:=en Tryz.func33
theorem k43 (x0:Aa) (r:Int) (h:F43 x0=some r):CO 43 [.agg (d30 x0)] [] (.d (I r)) []:=by
 unfold F43 at h
 refine co 62 Tryz.func43 λ C hC=>?_
 refine wn [0,1,2,28,61] 26 [] [pL_ [(((decide (x0.An<1)) || (decide (x0.An>6))),false)] q70 x0.Ad,pL_ [((((decide (x0.An<1)) || (decide (x0.An>6))) || (decide ((ln x0.Ad)>24))),false)] q72 x0.Ac,pL_ [(((((decide (x0.An<1)) || (decide (x0.An>6))) || (decide ((ln x0.Ad)>24))) || (decide ((ln x0.Ac)>8))),false)] q81 x0.Ae] [] 0 [0] [1,2,28] hC [] ?_
 rcases cB h with⟨h1,h⟩ | ⟨h1,h⟩
 ·replace h:=sI h
  subst h
  exact wr [0,1,2,28,61] 24 [true] [] [] 0 [] hC [pq h1]
 ·obtain⟨y2,h3,y4,h5,y6,h7,h⟩:=B3 h
  refine wn [0,1,2,28,61] 26 [false] [pc e59 (k59 x0 _ h3) [],pw e60 (λ hg=>k60 x0 _ (Ba h5 hg)) [],pw e61 (λ hg=>k61 x0 _ (Ba h7 hg)) []] [] 0 [] [2,61] hC [pq h1] ?_
  rcases cB h with⟨h8,h⟩ | ⟨h8,h⟩
  ·replace h:=sI h
   subst h
   exact wr [0,1,2,28,61] 24 [true] [] [] 0 [] hC [pq h8]
  ·replace h:=sI h
   subst h
   exact wr [0,1,2,28,61] 25 [false] [] [] 0 [] hC [pq h8]
theorem e43:EN 43:=en Tryz.func43
theorem A3u (x0:List (List Int)) (r:Bool) (h:Uy x0=some r):CO 153 [.d (DS (pL pI) x0),.d (.fn (.func 154) [] [])] [] (.d (Bo r)) []:=by
 unfold Uy at h
 refine co 9 Tryz.func153 λ C hC=>?_
 obtain⟨y1,h2,h⟩:=Az h
 replace h:=sI h
 subst h
 exact wr [0,1,4] 25 [] [pc A4s (A3d x0 _ h2) []] [] 0 [] hC []
theorem A49:EN 153:=en Tryz.func153
def vM:List Nat:=[0,1,2,4,5,6,7,8,9,10,49]
def Adv (x1:List Ak) (n0:Nat) (z0:Unit):St:=[(1,.d (DS q96 x1)),(2,dO 0 0),(4,dB false),(7,.d (DS q96 x1)),(8,dI (ln x1)),(9,dI (cnt 0 n0))]
def Api (x0:Aa) (n0:Nat) (z0:Unit):List Res:=[.box 30 (d30 x0)]
def Arh (x1:List Ak) (z0:Unit):St:=[(1,.d (DS q96 x1)),(4,dB false)]
def Au9  (z0:Unit):List Res:=[]
theorem k87 (x0:Aa) (x1:List Ak) (r:Bool) (h:F87 x0 x1=some r):CO 87 [.agg (d30 x0),.d (DS q96 x1)] [] (.d (Bo r)) []:=by
 unfold F87 at h
 refine co 54 Tryz.func87 λ C hC=>?_
 refine ws vM 26 [] [pl q96 x1] [] 0 [0] (Adv x1 0 ()) (Api x0 0 ()) hC [] ?_
 obtain⟨w0,hm0,hret0,hnext0⟩:=As h
 clear h
 refine wc w0 (Arh x1) (Au9) ?_ λ z0 hs0=>?_
 ·refine wb ?_
  refine Bt 7 rfl λ hl0=>?_
  refine wl (Adv x1) (Api x0) hm0 (λ z0 hn0=>?_) λ n0 a0 z0 w0b hi0 hx0 h hb0 hr0=>?_
  ·clear hm0
   exact wx w0 (Arh x1) (Au9) vM 26 [false] [] [] 0 [] _ hC [pq (Bf hl0)] hn0
  ·unfold qI at h
   obtain⟨y1,h2,y3,h4,y5,h6,h⟩:=B3 h
   refine wn vM 32 [true] [pt hx0 hl0,pc A9t (A8s x0 a0.Kind _ rfl) [],pc e91 (k91 a0.Number 0 (w64 ((La x0 a0.Kind)-1)) _ rfl) [],pR q96 h2,⟨.when [(!(F91 a0.Number 0 (w64 ((La x0 a0.Kind)-1))),false),(decide ((cnt 0 n0)>0),true)] (.call 118 [dI y1.Kind,dI a0.Kind] [] (dI (J7 y1.Kind a0.Kind)) [] []),λ hg=>⟨Ayg,(Axx y1.Kind a0.Kind _ rfl)⟩⟩,pR q96 h4,⟨.when [(!(F91 a0.Number 0 (w64 ((La x0 a0.Kind)-1))),false),(decide ((cnt 0 n0)>0),true)] (.call 118 [dI y3.Number,dI a0.Number] [] (dI (J7 y3.Number a0.Number)) [] []),λ hg=>⟨Ayg,(Axx y3.Number a0.Number _ rfl)⟩⟩,pw A9s (λ hg=>A8r [J7 y1.Kind a0.Kind,J7 y3.Number a0.Number] _ (Ba h6 hg)) []] [] 0 [0] [1,2,4,7,8,9,49] hC [pq (A9 hi0 hl0)] ?_
   rcases cB h with⟨h7,h⟩ | ⟨h7,h⟩
   ·have hq:=hret0 _ (hr0 _ (sI h).symm)
    replace hq:=sI hq
    subst hq
    exact wr vM 24 [true] [] [] 0 [] hC [pq h7]
   ·exact wx w0b (Adv x1 (n0+1)) (Api x0 (n0+1)) vM 25 [false] [] [] 0 [0] _ hC [pq h7] (sI h).symm
 ·have h:=hnext0 _ hs0
  replace h:=sI h
  subst h
  exact wr vM 23 [] [pl q96 x1] [] 0 [] hC []
theorem e87:EN 87:=en Tryz.func87
theorem k89 (x0:Af) (r:Bool) (h:F89 x0=r):CO 89 [.agg (d93 x0)] [] (.d (Bo r)) []:=by
 unfold F89 at h
 refine co 6 Tryz.func89 λ C hC=>?_
 subst h
 exact wr n3_ 25 [] [pc e90 (k90 x0 _ rfl) []] [] 0 [] hC []
theorem e89:EN 89:=en Tryz.func89
def J0:List Nat:=[0,1,4,5,6,7,12,19,29]
def Nl  (z0:Int×Int×(List Ah)):St:=[(0,dS 0),(1,.d (.fn (.func 101) [] [])),(4,.d (DS Bg [])),(5,dI z0.1),(6,dI z0.2.1)]
def Q6  (z0:Int×Int×(List Ah)):List Res:=[v8_ z0.2.2]
def Aa9  (z0:Int×Int×(List Ah)):St:=[(0,dS 0),(4,.d (DS Bg [])),(5,dI z0.1)]
def Ace  (z0:Int×Int×(List Ah)):List Res:=[v8_ z0.2.2]
theorem Ate (x0:List Ah) (r:(List Ah)) (h:Pq x0=some r):CO 100 [.d (.os 0),.d (.fn (.func 101) [] [])] [.sl 137 3 (x0.map Bg)] (.d (.os 1)) [.non,.sl 137 3 (r.map Bg)]:=by
 unfold Pq at h
 refine co 42 Tryz.func100 λ C hC=>?_
 obtain⟨y1,h2,h⟩:=Az h
 rcases cB h with⟨h3,h⟩ | ⟨h3,h⟩
 ·replace h:=sI h
  subst h
  exact wr J0 31 [true] [pb At6 (Atc x0 _ h2)] [.mv 0] 1 [0,1] hC [pq h3]
 ·refine ws J0 33 [false] [pb At6 (Atc x0 _ h2)] [] 1 [0] (Nl (y1,w64 (y1+1),x0)) (Q6 (y1,w64 (y1+1),x0)) hC [pq h3] ?_
  obtain⟨w0,hm0,hret0,hnext0⟩:=As h
  clear h
  refine wc w0 (Aa9) (Ace) ?_ λ z0 hs0=>?_
  ·refine wb ?_
   refine ww (Nl) (Q6) hm0 λ z0 w0b h hb0 hr0=>?_
   unfold U9 at h
   rcases cB h with⟨h4,h⟩ | ⟨h4,h⟩
   ·obtain⟨y5,h6,h⟩:=Az h
    refine wn J0 32 [true] [pl Bg z0.2.2,pr Bg h6,pn Bg h6,pc A5r (A4c y5 _ rfl) []] [] 1 [0,1] [0,1,4,5,6,7,29] hC [pq h4] ?_
    rcases cB h with⟨h7,h⟩ | ⟨h7,h⟩
    ·obtain⟨y8,h9,y10,h11,h⟩:=Bc h
     exact wx w0b (Nl) (Q6) J0 27 [true] [pr Bg h9,pu Bg h9 h11] [] 1 [0] _ hC [pq h7] (sI h).symm
    ·exact wx w0b (Nl) (Q6) J0 25 [false] [] [] 1 [0] _ hC [pq h7] (sI h).symm
   ·exact wx w0 (Aa9) (Ace) J0 26 [false] [pl Bg z0.2.2] [] 1 [0] (z0.1,z0.2.1,z0.2.2) hC [pq h4] (hb0 _ (sI h).symm)
  ·have h:=hnext0 _ hs0
   obtain⟨u13,h12,u15,h14,h⟩:=Bc h
   replace h:=sI h
   subst h
   (rw [List.map_take];exact jZ (bs:=[]) mixed J0 25 [] [.bnd (z0.2.2.map Bg).length z0.1 (((z0.2.2.map Bg).length:Nat):Int) (ln z0.2.2),.eqr ((z0.2.2.map Bg).take (Int.toNat z0.1)++(List.replicate ((Int.toNat (ln z0.2.2))-(Int.toNat z0.1)) (Bg (⟨([]:List Int),([]:List Int),([]:List Int)⟩:Ah))++(z0.2.2.map Bg).drop ((Int.toNat z0.1)+((Int.toNat (ln z0.2.2))-(Int.toNat z0.1))))) ((Gd z0.2.2 (Int.toNat z0.1) ((Int.toNat (ln z0.2.2))-(Int.toNat z0.1)) (⟨([]:List Int),([]:List Int),([]:List Int)⟩:Ah)).map Bg),.bnd ((Gd z0.2.2 (Int.toNat z0.1) ((Int.toNat (ln z0.2.2))-(Int.toNat z0.1)) (⟨([]:List Int),([]:List Int),([]:List Int)⟩:Ah)).map Bg).length 0 z0.1 z0.1] [.trunc 4] [.tmp 4] 1 [0,1] rfl hC ⟨E_ (by simp) (by simp) h12,yP Bg rfl,E_ (by simp) rfl h14,trivial⟩ trivial (by kernel_rfl))
theorem At8:EN 100:=en Tryz.func100
def Oz:List Nat:=[0,1,4,5,7,8,9,16]
def Xf (x0:List Av) (n0:Nat) (z0:Sg0):St:=[(0,.d (DS q84 x0)),(1,.d (.fn (.func 52) [] [.o 0 0])),(4,dI 0),(7,dI (ln x0)),(8,dI (cnt 0 n0))]
def yX  (n0:Nat) (z0:Sg0):List Res:=[.box 111 [.fn (.func 48) [] [.o 1 0]],.box 43 [I z0.1,DS pB z0.2.1,DS q93 z0.2.2.1,DS pI (g3_ z0),DS q96 (g4_ z0),DS q84 (g5_ z0),DS q65 (Ax7 z0)]]
def Ae3  (z0:Sg0):St:=[(4,dI 0)]
def Ahv  (z0:Sg0):List Res:=[.box 111 [.fn (.func 48) [] [.o 1 0]],.box 43 [I z0.1,DS pB z0.2.1,DS q93 z0.2.2.1,DS pI (g3_ z0),DS q96 (g4_ z0),DS q84 (g5_ z0),DS q65 (Ax7 z0)]]
theorem A6t (x0:List Av) (x1c0c0:Ar) (r:Int×Ar) (h:Adh x0 x1c0c0=some r):CO 73 [.d (DS q84 x0),.d (.fn (.func 52) [] [.o 0 0])] [.box 111 [.fn (.func 48) [] [.o 1 0]],.box 43 (d43 x1c0c0)] (.d (I r.1)) [.box 111 [.fn (.func 48) [] [.o 1 0]],.box 43 (d43 r.2)]:=by
 unfold Adh at h
 refine co 19 Tryz.func73 λ C hC=>?_
 refine ws Oz 26 [] [pl q84 x0] [] 2 [0,1] (Xf x0 0 (x1c0c0.Time,zu x1c0c0.Power (x1c0c0.A2,x1c0c0.A8))) (yX 0 (x1c0c0.Time,zu x1c0c0.Power (x1c0c0.A2,x1c0c0.A8))) hC [] ?_
 obtain⟨w0,hm0,hret0,hnext0⟩:=As h
 clear h
 refine wc w0 (Ae3) (Ahv) ?_ λ z0 hs0=>?_
 ·refine wb ?_
  refine Bt 0 rfl λ hl0=>?_
  refine wl (Xf x0) (yX) hm0 (λ z0 hn0=>?_) λ n0 a0 z0 w0b hi0 hx0 h hb0 hr0=>?_
  ·clear hm0
   exact wx w0 (Ae3) (Ahv) Oz 26 [false] [] [] 2 [0,1] _ hC [pq (Bf hl0)] hn0
  ·unfold Yx at h
   refine wn Oz 32 [true] [pt hx0 hl0,pc A7c (A6u a0 (⟨z0.1,(⟨z0.2.1,z0.2.2.1,(g3_ z0),(g4_ z0)⟩:Ab),(g5_ z0),(Ax7 z0)⟩:Ar) _ rfl) [0,1]] [] 2 [0,1] [0,1,4,5,7,8,16] hC [pq (A9 hi0 hl0)] ?_
   rcases cB h with⟨h1,h⟩ | ⟨h1,h⟩
   ·have hq:=hret0 _ (hr0 _ (sI h).symm)
    replace hq:=sI hq
    subst hq
    exact wr Oz 24 [true] [] [] 2 [0,1] hC [pq h1]
   ·exact wx w0b (Xf x0 (n0+1)) (yX (n0+1)) Oz 25 [false] [] [] 2 [0,1] _ hC [pq h1] (sI h).symm
 ·have h:=hnext0 _ hs0
  replace h:=sI h
  subst h
  exact wr Oz 23 [] [] [] 2 [0,1] hC []
theorem A7b:EN 73:=en Tryz.func73
theorem k74 (x0:Aa) (x1:Ar) (r:A4) (h:F74 x0 x1=some r):CO 74 [.agg (d30 x0),.agg (d43 x1)] [] (.d (.o 0 0)) (.box 119 (I r.A0.Time :: .os 1 :: .os 2 :: .os 3 :: .os 4 :: .os 5 :: .os 6::zb r.Al [.os 7,.os 8])::zp r.A0.Power [v5_ r.A0.A2,v1_ r.A0.A8,v1_ r.events,v7_ r.states]):=by
 unfold F74 at h
 refine co 21 Tryz.func74 λ C hC=>?_
 obtain⟨y1,h2,y3,h4,y5,h6,h⟩:=B3 h
 replace h:=sI h
 subst h
 exact wr n5_ 27 [] [pc e66 (k66 x1.Power _ h2) [],pc A90 (A8z x1.A2 _ h4) [],pc e79 (k79 x1.A8 _ h6) []] [.ownb 8 13 65 5,.ownb 8 14 39 4] 0 [8,2,3,4,5,6,7,9,10] hC []
theorem e74:EN 74:=en Tryz.func74
theorem A6s (x0:A4) (x1:Ab) (r:A4) (h:qL x0 x1=some r):CO 75 [.d (.o 0 0),.agg (d39 x1)] (.box 119 (I x0.A0.Time :: .os 1 :: .os 2 :: .os 3 :: .os 4 :: .os 5 :: .os 6::zb x0.Al [.os 7,.os 8])::zp x0.A0.Power [v5_ x0.A0.A2,v1_ x0.A0.A8,v1_ x0.events,v7_ x0.states]) (.tup []) (.box 119 (I r.A0.Time :: .os 1 :: .os 2 :: .os 3 :: .os 4 :: .os 5 :: .os 6::zb r.Al [.os 7,.os 9])::zp r.A0.Power [v5_ r.A0.A2,v1_ r.A0.A8,v1_ r.events,.non,v7_ r.states]):=by
 unfold qL at h
 refine co 15 Tryz.func75 λ C hC=>?_
 obtain⟨y3,h4,y5,h6,h⟩:=Bc h
 replace h:=sI h
 subst h
 exact wf [0,1,3] 23 [] [⟨.call 66 [.agg (d39 x1)] [] (.agg (d39 y3)) [.non,.non,.non,.non] [],⟨e66,(CallOk.frzAll n4_ (show CO 66 [.agg (d39 x1)] [] (.agg [.os 0,.os 1,.os 2,.os 3]) (zp y3 []) from (k66 x1 _ h4)) (by kernel_rfl))⟩⟩,pa q39 4 h6] [] 9 [0,1,2,3,4,5,6,7,8,14] hC []
theorem A7a:EN 75:=en Tryz.func75
theorem K2 (x0:Ab) (x1:Int) (x2:Int) (r:Bool) (h:H_ x0 x1 x2=some r):CO 166 [.agg (d39 x0),.d (I x1),.d (I x2)] [] (.d (Bo r)) []:=by
 unfold H_ at h
 refine co 13 Tryz.func166 λ C hC=>?_
 obtain⟨y1,h2,h⟩:=Az h
 replace h:=sI h
 subst h
 exact wr [0,1,2,3,6] 25 [] [pc A89 (A78 x0.Am (⟨x1,x2⟩:Ak) _ h2) []] [] 0 [] hC []
theorem K4:EN 166:=en Tryz.func166
theorem A27 (x0:Aa) (x1:Af) (x2:Af) (r:Bool) (h:Ajn x0 x1 x2=r):CO 210 [.agg (d30 x0),.agg (d93 x1),.agg (d93 x2)] [] (.d (Bo r)) []:=by
 unfold Ajn at h
 refine co 52 Tryz.func210 λ C hC=>?_
 rcases cB h with⟨h1,h⟩ | ⟨h1,h⟩
 ·subst h
  exact wr [0,1,2,3,4,5,6,7,8,22] 29 [true] [] [] 0 [] hC [pq h1]
 ·subst h
  exact wr [0,1,2,3,4,5,6,7,8,22] 34 [false] [pc A83 (A72 x1.Phase x2.Phase _ rfl) []] [] 0 [] hC [pq h1]
theorem A4m:EN 210:=en Tryz.func210
theorem A75 (x0:Aa) (x1:Int) (r:Int) (h:Ajo x0 x1=some r):CO 201 [.agg (d30 x0),.d (I x1)] [] (.d (I r)) []:=by
 unfold Ajo at h
 refine co 9 Tryz.func201 λ C hC=>?_
 obtain⟨y1,h2,h⟩:=Az h
 replace h:=sI h
 subst h
 exact wr n5_ 25 [] [pc A4y (A3j x0.Ad x1 _ h2) [1]] [] 0 [] hC []
theorem A86:EN 201:=en Tryz.func201
def Gs:List Nat:=[0,1,2,4,6,7,8,32,36,47,64,74]
def Sm (x2:Bool) (z0:(List Ak)):St:=[(0,dO 0 0),(2,dB x2),(4,dO 5 0),(6,dI 0)]
def T6 (x0:A1) (x1:Ak) (z0:(List Ak)):List Res:=[.box 175 (zb x0.Al [.os 6,.os 7,.os 8,.os 9,I x0.time]),.non,.non,.non,.non,.box 96 (d96 x1),v2_ x0.Au.Ag,v4_ x0.Au.Ac,v0_ x0.Au.Ap,v3_ z0]
theorem A3w (x0:A1) (x1:Ak) (x2:Bool) (r:Int×A1) (h:Hg x0 x1 x2=some r):CO 143 [.d (.o 0 0),.agg (d96 x1),.d (Bo x2)] (.box 175 (zb x0.Al [.os 1,.os 2,.os 3,.os 4,I x0.time])::zp x0.Au []) (.d (I r.1)) (.box 175 (zb r.2.Al [.os 5,.os 6,.os 7,.os 8,I r.2.time]) :: .non :: .non :: .non :: .non::zp r.2.Au []):=by
 unfold Hg at h
 refine co 84 Tryz.func143 λ C hC=>?_
 obtain⟨y1,h2,h⟩:=Az h
 rcases cB h with⟨h3,h⟩ | ⟨h3,h⟩
 ·replace h:=sI h
  subst h
  exact wr Gs 32 [true] [pb At3 (As9 x0.Au.Am x1 _ h2)] [.mv 1,.mv 2,.mv 3,.mv 4] 5 [0,1,2,3,4,6,7,8,9] hC [pq h3]
 ·refine wn Gs 32 [false] [pb At3 (As9 x0.Au.Am x1 _ h2),pL_ [(x2,true)] q96 x0.Au.Am] [.mv 1,.mv 2,.mv 3,.mv 4] 5 Gx [0,2,4,6,7,36] hC [pq h3] ?_
  rcases cB h with⟨h4,h⟩ | ⟨h4,h⟩
  ·replace h:=sI h
   subst h
   exact wr Gs 24 [true] [] [] 5 [0,1,2,3,4,6,7,8,9] hC [pq h4]
  ·refine wn Gs 24 [false] [] [] 5 Gx [0,2,4,6,7,47] hC [pq h4] ?_
   obtain⟨w0,h,hret0,hnext0⟩:=As h
   refine wc w0 (Sm x2) (T6 x0 x1) ?_ λ z0 hs0=>?_
   ·unfold N8 at h
    rcases cB h with⟨h5,h⟩ | ⟨h5,h⟩
    ·obtain⟨y6,h7,h⟩:=Az h
     exact wx w0 (Sm x2) (T6 x0 x1) Gs 23 [true] [pc A4u (A3f x0.Au.Am y1.1 [x1] _ h7) [9]] [] 5 [0,1,2,3,4,5,6,7,8,10] _ hC [pq h5] (sI h).symm
    ·obtain⟨y8,h9,h⟩:=Az h
     exact wx w0 (Sm x2) (T6 x0 x1) Gs 23 [false] [pc A4t (A3e x0.Au.Am y1.1 (w64 (y1.1+1)) _ h9) [9]] [] 5 [0,1,2,3,4,5,6,7,8,10] _ hC [pq h5] (sI h).symm
   ·clear h;have h:=hnext0 _ hs0
    rcases cB h with⟨h10,h⟩ | ⟨h10,h⟩
    ·obtain⟨y11,h12,y13,h14,h⟩:=Bc h
     refine wn Gs 30 [true] [pr q93 h12,pu q93 h12 h14] [] 5 Gx [0,4,6,74] hC [pq h10] ?_
     rcases cB h with⟨h15,h⟩ | ⟨h15,h⟩
     ·obtain⟨y16,h17,y18,h19,h⟩:=Bc h
      replace h:=sI h
      subst h
      exact wr Gs 25 [true] [pr q93 h17,pu q93 h17 h19] [] 5 [0,1,2,3,4,6,7,8,9] hC [pq h15]
     ·replace h:=sI h
      subst h
      exact wr Gs 25 [false] [] [] 5 [0,1,2,3,4,6,7,8,9] hC [pq h15]
    ·replace h:=sI h
     subst h
     exact wr Gs 29 [false] [] [] 5 [0,1,2,3,4,6,7,8,9] hC [pq h10]
theorem A5b:EN 143:=en Tryz.func143
theorem Acz (x0:A4) (x1:Ab) (r:A4) (h:N2 x0 x1=some r):CO 75 [.d (.o 0 0),.agg [.os 9,.os 10,.os 11,.os 12]] (.box 119 (I x0.A0.Time :: .os 1 :: .os 2 :: .os 3 :: .os 4 :: .os 5 :: .os 6::zb x0.Al [.os 7,.os 8])::zp x0.A0.Power (v5_ x0.A0.A2::v1_ x0.A0.A8::v1_ x0.events::v7_ x0.states::zp x1 [])) (.tup []) (.box 119 (I r.A0.Time :: .os 1 :: .os 2 :: .os 3 :: .os 4 :: .os 5 :: .os 6::zb r.Al [.os 7,.os 13])::zp r.A0.Power (v5_ r.A0.A2::v1_ r.A0.A8::v1_ r.events :: .non::zp x1 [v7_ r.states])):=by
 unfold N2 at h
 refine co 15 Tryz.func75 λ C hC=>?_
 obtain⟨y3,h4,y5,h6,h⟩:=Bc h
 replace h:=sI h
 subst h
 exact wf [0,1,3] 23 [] [⟨.call 66 [.agg [.os 0,.os 1,.os 2,.os 3]] (zp x1 []) (.agg (d39 y3)) (zp x1 [.non,.non,.non,.non]) [9,10,11,12],⟨e66,(CallOk.frzAll [4,5,6,7] (show CO 66 [.agg [.os 0,.os 1,.os 2,.os 3]] (zp x1 []) (.agg [.os 4,.os 5,.os 6,.os 7]) (zp x1 (zp y3 [])) from ((k66 x1 _ h4).lend (by kernel_rfl) (by kernel_rfl) (by kernel_rfl) ⟨Be (λ _=>rfl),Be (λ _=>rfl),Be (λ _=>rfl),Be (λ _=>rfl),trivial⟩ (by kernel_rfl) (by kernel_rfl))) (by kernel_rfl))⟩⟩,pa q39 4 h6] [] 13 [0,1,2,3,4,5,6,7,8,9,10,11,12,18] hC []
theorem Ac2:EN 75:=en Tryz.func75
theorem A3b (x0:Int) (x1:Int) (x2:Aa) (r:Int) (h:M7 x0 x1 x2=some r):CO 191 [.d (I x0),.d (I x1),.d (.ip [.v (.int .i64 x2.An),.s (x2.Ad.map q70),.s (x2.Ac.map q72),.s (x2.Ae.map q81),.v (.int .i64 x2.Phase),.v (.int .i64 x2.Aq)])] [] (.d (I r)) []:=by
 unfold M7 at h
 refine co 19 Tryz.func191 λ C hC=>?_
 obtain⟨y1,h2,y3,h4,h⟩:=Bc h
 replace h:=sI h
 subst h
 exact wr [0,1,2,5] 25 [] [pr q81 h2,pr q81 h4,pc Ayg (Axx y1.Bm y3.Bm _ rfl) []] [] 0 [] hC []
theorem A4q:EN 191:=en Tryz.func191
theorem Ata (x0:Int) (x1:Ah) (r:Bool) (h:Pn x0 x1=some r):CO 161 [.d (I x0),.d (.ip [.s (x1.An.map pI),.s (x1.Ac.map pI),.s (x1.Ae.map pI)])] [] (.d (Bo r)) []:=by
 unfold Pn at h
 refine co 9 Tryz.func161 λ C hC=>?_
 obtain⟨y1,h2,h⟩:=Az h
 replace h:=sI h
 subst h
 exact wr [0,1,3] 25 [] [pc X7 (X1 x1.Ae x0 _ h2) []] [] 0 [] hC []
theorem At4:EN 161:=en Tryz.func161
def Nw:List Nat:=[0,1,4,5,6,7,8,10,26,37]
def Aln (x0:List Av) (x1:Int) (z0:Unit):St:=[(0,.d (DS q84 x0)),(1,dI x1),(4,.d (DS q84 []))]
def Am4  (z0:Unit):List Res:=[]
def Alm (x0:List Av) (x1:Int) (z1:Unit):St:=[(0,.d (DS q84 x0)),(4,.d (DS q84 [])),(6,.d (.p (.v (.int .u64 ((Uk (IntKind.wrap .u64 (ln x0)) (IntKind.wrap .u64 x1)).2)))))]
def Am3  (z1:Unit):List Res:=[]
def uX  (z2:Int×(List Av)):St:=[(4,.d (DS q84 [])),(7,dS 0),(8,dI z2.1)]
def Ail  (z2:Int×(List Av)):List Res:=[v5_ z2.2]
def All  (z2:Int×(List Av)):St:=[(4,.d (DS q84 [])),(7,dS 0)]
def Am2  (z2:Int×(List Av)):List Res:=[v5_ z2.2]
theorem A8q (x0:List Av) (x1:Int) (r:(List Av)) (h:Ay9 x0 x1=some r):CO 126 [.d (DS q84 x0),.d (I x1)] [] (.d (.os 0)) [v5_ r]:=by
 unfold Ay9 at h
 refine co 48 Tryz.func126 λ C hC=>?_
 refine wn Nw 26 [] [] [] 0 [] [0,1,4,10] hC [] ?_
 obtain⟨w0,h,hret0,hnext0⟩:=As h
 refine wc w0 (Aln x0 x1) (Am4) ?_ λ z0 hs0=>?_
 ·unfold Ane at h
  rcases cB h with⟨h1,h⟩ | ⟨h1,h⟩
  ·cases h
  ·exact wx w0 (Aln x0 x1) (Am4) Nw 23 [false] [] [] 0 [] _ hC [pq h1] (sI h).symm
 ·clear h;have h:=hnext0 _ hs0
  refine wn Nw 26 [] [pl q84 x0,pc A9g (A8f (IntKind.wrap .u64 (ln x0)) (IntKind.wrap .u64 x1) _ rfl) []] [] 0 [] [0,4,6,26] hC [] ?_
  obtain⟨w1,h,hret1,hnext1⟩:=As h
  refine wc w1 (Alm x0 x1) (Am3) ?_ λ z1 hs1=>?_
  ·unfold And at h
   rcases cB h with⟨h2,h⟩ | ⟨h2,h⟩
   ·cases h
   ·exact wx w1 (Alm x0 x1) (Am3) Nw 23 [false] [] [] 0 [] _ hC [pq h2] (sI h).symm
  ·clear h;have h:=hnext1 _ hs1
   obtain⟨y3,h4,h⟩:=Az h
   refine ws Nw 26 [] [⟨.room ((w64 ((Uk (IntKind.wrap .u64 (ln x0)) (IntKind.wrap .u64 x1)).2))*(16+1)) (List.replicate (Int.toNat (w64 ((Uk (IntKind.wrap .u64 (ln x0)) (IntKind.wrap .u64 x1)).2))) (q84 (⟨0,0⟩:Av))) (y3.map q84),Jz h4⟩,⟨.cpy (x0.map q84) 2 ((y3.map q84).length) (Nat.min x0.length y3.length) ((y3.map q84).take 0++((x0.map q84).take (Nat.min x0.length y3.length)++(y3.map q84).drop (0+(Nat.min x0.length y3.length)))) ((Ts y3 0 y3.length x0).map q84),Amc q84 2 (λ _=>rfl) rfl (by simp)⟩] [] 0 [0] (uX (((Nat.min x0.length y3.length):Int),(Ts y3 0 y3.length x0))) (Ail (((Nat.min x0.length y3.length):Int),(Ts y3 0 y3.length x0))) hC [] ?_
   obtain⟨w2,hm2,hret2,hnext2⟩:=As h
   clear h
   refine wc w2 (All) (Am2) ?_ λ z2 hs2=>?_
   ·refine wb ?_
    refine ww (uX) (Ail) hm2 λ z2 w2b h hb2 hr2=>?_
    unfold Anf at h
    rcases cB h with⟨h5,h⟩ | ⟨h5,h⟩
    ·obtain⟨u7,h6,u9,h8,h⟩:=Bc h
     exact wx w2b (uX) (Ail) Nw 29 [true] [pl q84 z2.2,⟨.bnd (z2.2.map q84).length z2.1 (((z2.2.map q84).length:Nat):Int) (ln z2.2),E_ (by simp) (by simp) h6⟩,⟨.bnd (z2.2.map q84).length 0 z2.1 z2.1,E_ (by simp) rfl h8⟩,⟨.cpy (((z2.2.map q84).drop 0).take ((Int.toNat z2.1)-0)) 2 ((Int.toNat (ln z2.2))-(Int.toNat z2.1)) (Nat.min ((z2.2.drop 0).take ((Int.toNat z2.1)-0)).length ((Int.toNat (ln z2.2))-(Int.toNat z2.1))) ((z2.2.map q84).take (Int.toNat z2.1)++((((z2.2.map q84).drop 0).take ((Int.toNat z2.1)-0)).take (Nat.min ((z2.2.drop 0).take ((Int.toNat z2.1)-0)).length ((Int.toNat (ln z2.2))-(Int.toNat z2.1)))++(z2.2.map q84).drop ((Int.toNat z2.1)+(Nat.min ((z2.2.drop 0).take ((Int.toNat z2.1)-0)).length ((Int.toNat (ln z2.2))-(Int.toNat z2.1)))))) ((Ts z2.2 (Int.toNat z2.1) ((Int.toNat (ln z2.2))-(Int.toNat z2.1)) ((z2.2.drop 0).take ((Int.toNat z2.1)-0))).map q84),Amc q84 2 (λ _=>rfl) (Afo _ _ _ _) rfl⟩] [] 0 [0] _ hC [pq h5] (sI h).symm
    ·exact wx w2 (All) (Am2) Nw 26 [false] [pl q84 z2.2] [] 0 [0] (z2.1,z2.2) hC [pq h5] (hb2 _ (sI h).symm)
   ·have h:=hnext2 _ hs2
    replace h:=sI h
    subst h
    exact wr Nw 23 [] [] [] 0 [0] hC []
theorem A9r:EN 126:=en Tryz.func126
theorem Aoe (x0:Aa) (x1:Int) (r:Int) (h:U2 x0 x1=some r):CO 134 [.agg (d30 x0),.d (I x1)] [] (.d (I r)) []:=by
 unfold U2 at h
 refine co 9 Tryz.func134 λ C hC=>?_
 obtain⟨y1,h2,h⟩:=Az h
 replace h:=sI h
 subst h
 exact wr n5_ 25 [] [pc A4x (A3i x0.Ad x1 _ h2) [1]] [] 0 [] hC []
theorem Aou:EN 134:=en Tryz.func134
theorem A6r (x0:A4) (x1:Ab) (r:A4) (h:qK x0 x1=some r):CO 75 [.d (.o 0 0),.agg [.os 1,.os 2,.os 3,.os 4]] (.box 119 (I x0.A0.Time :: .os 1 :: .os 2 :: .os 3 :: .os 4 :: .os 5 :: .os 6::zb x0.Al [.os 7,.os 8])::zp x0.A0.Power [v5_ x0.A0.A2,v1_ x0.A0.A8,v1_ x0.events,v7_ x0.states]) (.tup []) (.box 119 (I r.A0.Time :: .os 1 :: .os 2 :: .os 3 :: .os 4 :: .os 5 :: .os 6::zb r.Al [.os 7,.os 9])::zp r.A0.Power [v5_ r.A0.A2,v1_ r.A0.A8,v1_ r.events,.non,v7_ r.states]):=by
 unfold qK at h
 refine co 15 Tryz.func75 λ C hC=>?_
 obtain⟨y3,h4,y5,h6,h⟩:=Bc h
 replace h:=sI h
 subst h
 exact wf [0,1,3] 23 [] [⟨.call 66 [.agg [.os 0,.os 1,.os 2,.os 3]] (zp x0.A0.Power []) (.agg (d39 y3)) (zp x0.A0.Power [.non,.non,.non,.non]) [1,2,3,4],⟨e66,(CallOk.frzAll [4,5,6,7] (show CO 66 [.agg [.os 0,.os 1,.os 2,.os 3]] (zp x0.A0.Power []) (.agg [.os 4,.os 5,.os 6,.os 7]) (zp x0.A0.Power (zp y3 [])) from ((k66 x0.A0.Power _ h4).lend (by kernel_rfl) (by kernel_rfl) (by kernel_rfl) ⟨Be (λ _=>rfl),Be (λ _=>rfl),Be (λ _=>rfl),Be (λ _=>rfl),trivial⟩ (by kernel_rfl) (by kernel_rfl))) (by kernel_rfl))⟩⟩,pa q39 4 h6] [] 9 [0,1,2,3,4,5,6,7,8,14] hC []
theorem A69:EN 75:=en Tryz.func75
theorem k26 (x0:Aj) (x1:Int) (x2:Int) (r:Int×Aj) (h:F26 x0 x1 x2=some r):CO 26 [.d (.o 0 0),.d (I x1),.d (I x2)] [.box 77 (d77 x0)] (.d (I r.1)) [.box 77 (d77 r.2)]:=by
 unfold F26 at h
 refine co 15 Tryz.func26 λ C hC=>?_
 obtain⟨y1,h2,h⟩:=Az h
 replace h:=sI h
 subst h
 exact wr [0,1,2,6] 25 [] [pc e19 (k19 x0 (w64 ((w64 (x2-x1))+1)) _ h2) [0]] [] 1 [0] hC []
theorem e26:EN 26:=en Tryz.func26
theorem k27 (x0:Aj) (x1:List Int) (r:Int×Aj) (h:F27 x0 x1=some r):CO 27 [.d (.o 0 0),.d (DS pI x1)] [.box 77 (d77 x0)] (.d (I r.1)) [.box 77 (d77 r.2)]:=by
 unfold F27 at h
 refine co 12 Tryz.func27 λ C hC=>?_
 obtain⟨y1,h2,y3,h4,h⟩:=Bc h
 replace h:=sI h
 subst h
 exact wr [0,1,4] 25 [] [pl pI x1,pc e19 (k19 x0 (ln x1) _ h2) [0],pr pI h4] [] 1 [0] hC []
theorem e27:EN 27:=en Tryz.func27
def Xy:List Nat:=[0,1,2,3,4,5,35,38,39,40,52]
def Aes (x0:Ar) (z0:Int):St:=[(2,dO 0 0),(3,dO 1 0),(4,dB false),(38,dI (ln x0.A2)),(39,dI z0)]
def Aqf (x0:Ar) (x1:Ar) (z0:Int):List Res:=[.box 43 (d43 x0),.box 43 (d43 x1)]
def Asn  (z0:Int):St:=[(4,dB false)]
def Awd  (z0:Int):List Res:=[]
theorem k17 (x0:Ar) (x1:Ar) (r:Bool) (h:F17 x0 x1=some r):CO 17 [.agg (d43 x0),.agg (d43 x1)] [] (.d (Bo r)) []:=by
 unfold F17 at h
 refine co 54 Tryz.func17 λ C hC=>?_
 obtain⟨y1,h2,y3,h4,h⟩:=Bc h
 refine wn Xy 26 [] [pw e33 (λ hg=>k33 x0.Power x1.Power _ (Ba h2 hg)) [],pL_ [(((x0.Time != x1.Time) || (!y1)),false)] q84 x0.A2,pL_ [(((x0.Time != x1.Time) || (!y1)),false)] q84 x1.A2,pw e34 (λ hg=>k34 x0.A8 x1.A8 _ (Ba h4 hg)) []] [] 0 [0,1] [2,3,4,35] hC [] ?_
 rcases cB h with⟨h5,h⟩ | ⟨h5,h⟩
 ·replace h:=sI h
  subst h
  exact wr Xy 24 [true] [] [] 0 [] hC [pq h5]
 ·refine ws Xy 26 [false] [pl q84 x0.A2] [] 0 [0,1] (Aes x0 0) (Aqf x0 x1 0) hC [pq h5] ?_
  obtain⟨w0,hm0,hret0,hnext0⟩:=As h
  clear h
  refine wc w0 (Asn) (Awd) ?_ λ z0 hs0=>?_
  ·refine wb ?_
   refine ww (Aes x0) (Aqf x0 x1) hm0 λ z0 w0b h hb0 hr0=>?_
   unfold Ajr at h
   rcases cB h with⟨h6,h⟩ | ⟨h6,h⟩
   ·obtain⟨y7,h8,y9,h10,h⟩:=Bc h
    rcases cB h with⟨h11,h⟩ | ⟨h11,h⟩
    ·have hq:=hret0 _ (hr0 _ (sI h).symm)
     replace hq:=sI hq
     subst hq
     exact wr Xy 35 [true,true] [pr q84 h8,pr q84 h10] [] 0 [] hC [pq h6,pq h11]
    ·exact wx w0b (Aes x0) (Aqf x0 x1) Xy 36 [true,false] [pr q84 h8,pr q84 h10] [] 0 [0,1] _ hC [pq h6,pq h11] (sI h).symm
   ·exact wx w0 (Asn) (Awd) Xy 26 [false] [] [] 0 [] z0 hC [pq h6] (hb0 _ (sI h).symm)
  ·have h:=hnext0 _ hs0
   replace h:=sI h
   subst h
   exact wr Xy 23 [] [] [] 0 [] hC []
theorem e17:EN 17:=en Tryz.func17
end Go.Proofs.YtpdbkiafikdgpaaGreatDoor
