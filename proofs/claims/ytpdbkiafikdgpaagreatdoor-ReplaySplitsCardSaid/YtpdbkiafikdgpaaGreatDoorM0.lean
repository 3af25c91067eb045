import Derived.Test.YtpdbkiafikdgpaaGreatDoorRows
import Derived.Test.YtpdbkiafikdgpaaGreatDoorMo
import Derived.Test.YtpdbkiafikdgpaaGreatDoorBw
import Derived.Test.YtpdbkiafikdgpaaGreatDoorIn
import Derived.Test.YtpdbkiafikdgpaaGreatDoorTs
set_option linter.unusedVariables false
set_option maxHeartbeats 4000000
namespace Go.Proofs.YtpdbkiafikdgpaaGreatDoor
open Go.SL
abbrev v0_ (l:List Int):Res:=.sl 3 1 (l.map pI)
abbrev v1_ (l:List A6):Res:=.sl 65 5 (l.map q65)
abbrev v2_ (l:List Bool):Res:=.sl 4 1 (l.map pB)
abbrev v3_ (l:List Ak):Res:=.sl 96 2 (l.map q96)
abbrev v4_ (l:List Av):Res:=.sl 84 2 (l.map q84)
abbrev v5_ (l:List Af):Res:=.sl 93 4 (l.map q93)
abbrev v6_ (l:List Am):Res:=.sl 63 3 (l.map q63)
abbrev v7_ (l:List Ab):Res:=.sl 39 4 (l.map q39)
abbrev v8_ (l:List Ai):Res:=.sl 137 3 (l.map Bg)
abbrev v9_ (l:List Aj):Res:=.sl 70 3 (l.map q70)
abbrev Hy (l:List Bh):Res:=.sl 72 3 (l.map q72)
abbrev Hx (l:List A7):Res:=.sl 81 5 (l.map q81)
abbrev CO:=CallOk Tryz.prog
abbrev EN:=Fh Tryz.prog
abbrev Ed {α0 α1 α2 α3:Type} (z:α0×α1×α2×α3):α3:=z.2.2.2
abbrev g3_ {α0 α1 α2 α3 α4:Type} (z:α0×α1×α2×α3×α4):α3:=z.2.2.2.1
abbrev Ih {α0 α1 α2 α3 α4:Type} (z:α0×α1×α2×α3×α4):α4:=z.2.2.2.2
abbrev g4_ {α0 α1 α2 α3 α4 α5:Type} (z:α0×α1×α2×α3×α4×α5):α4:=z.2.2.2.2.1
abbrev g5_ {α0 α1 α2 α3 α4 α5 α6:Type} (z:α0×α1×α2×α3×α4×α5×α6):α5:=z.2.2.2.2.2.1
abbrev Axz {α0 α1 α2 α3 α4 α5 α6:Type} (z:α0×α1×α2×α3×α4×α5×α6):α6:=z.2.2.2.2.2.2
abbrev g6_ {α0 α1 α2 α3 α4 α5 α6 α7:Type} (z:α0×α1×α2×α3×α4×α5×α6×α7):α6:=z.2.2.2.2.2.2.1
abbrev g7_ {α0 α1 α2 α3 α4 α5 α6 α7 α8:Type} (z:α0×α1×α2×α3×α4×α5×α6×α7×α8):α7:=z.2.2.2.2.2.2.2.1
abbrev yG {α0 α1 α2 α3 α4 α5 α6 α7 α8:Type} (z:α0×α1×α2×α3×α4×α5×α6×α7×α8):α8:=z.2.2.2.2.2.2.2.2
abbrev g8_ {α0 α1 α2 α3 α4 α5 α6 α7 α8 α9:Type} (z:α0×α1×α2×α3×α4×α5×α6×α7×α8×α9):α8:=z.2.2.2.2.2.2.2.2.1
abbrev g9_ {α0 α1 α2 α3 α4 α5 α6 α7 α8 α9 α10:Type} (z:α0×α1×α2×α3×α4×α5×α6×α7×α8×α9×α10):α9:=z.2.2.2.2.2.2.2.2.2.1
abbrev Fl {α0 α1 α2 α3 α4 α5 α6 α7 α8 α9 α10:Type} (z:α0×α1×α2×α3×α4×α5×α6×α7×α8×α9×α10):α10:=z.2.2.2.2.2.2.2.2.2.2
abbrev Dk {α0 α1 α2 α3 α4 α5 α6 α7 α8 α9 α10 α11:Type} (z:α0×α1×α2×α3×α4×α5×α6×α7×α8×α9×α10×α11):α10:=z.2.2.2.2.2.2.2.2.2.2.1
abbrev H_ {α0 α1 α2 α3 α4 α5 α6 α7 α8 α9 α10 α11:Type} (z:α0×α1×α2×α3×α4×α5×α6×α7×α8×α9×α10×α11):α11:=z.2.2.2.2.2.2.2.2.2.2.2
abbrev G_ {α0 α1 α2 α3 α4 α5 α6 α7 α8 α9 α10 α11 α12:Type} (z:α0×α1×α2×α3×α4×α5×α6×α7×α8×α9×α10×α11×α12):α11:=z.2.2.2.2.2.2.2.2.2.2.2.1
abbrev Ij {α0 α1 α2 α3 α4 α5 α6 α7 α8 α9 α10 α11 α12 α13:Type} (z:α0×α1×α2×α3×α4×α5×α6×α7×α8×α9×α10×α11×α12×α13):α12:=z.2.2.2.2.2.2.2.2.2.2.2.2.1
abbrev Ii {α0 α1 α2 α3 α4 α5 α6 α7 α8 α9 α10 α11 α12 α13 α14:Type} (z:α0×α1×α2×α3×α4×α5×α6×α7×α8×α9×α10×α11×α12×α13×α14):α13:=z.2.2.2.2.2.2.2.2.2.2.2.2.2.1
abbrev P_ {α0 α1 α2 α3 α4 α5 α6 α7 α8 α9 α10 α11 α12 α13 α14:Type} (z:α0×α1×α2×α3×α4×α5×α6×α7×α8×α9×α10×α11×α12×α13×α14):α14:=z.2.2.2.2.2.2.2.2.2.2.2.2.2.2
abbrev Sz {α0 α1 α2 α3 α4 α5 α6 α7 α8 α9 α10 α11 α12 α13 α14 α15:Type} (z:α0×α1×α2×α3×α4×α5×α6×α7×α8×α9×α10×α11×α12×α13×α14×α15):α14:=z.2.2.2.2.2.2.2.2.2.2.2.2.2.2.1
abbrev Ac2 {α0 α1 α2 α3 α4 α5 α6 α7 α8 α9 α10 α11 α12 α13 α14 α15:Type} (z:α0×α1×α2×α3×α4×α5×α6×α7×α8×α9×α10×α11×α12×α13×α14×α15):α15:=z.2.2.2.2.2.2.2.2.2.2.2.2.2.2.2
abbrev Aog {α0 α1 α2 α3 α4 α5 α6 α7 α8 α9 α10 α11 α12 α13 α14 α15 α16:Type} (z:α0×α1×α2×α3×α4×α5×α6×α7×α8×α9×α10×α11×α12×α13×α14×α15×α16):α15:=z.2.2.2.2.2.2.2.2.2.2.2.2.2.2.2.1
abbrev Ac1 {α0 α1 α2 α3 α4 α5 α6 α7 α8 α9 α10 α11 α12 α13 α14 α15 α16:Type} (z:α0×α1×α2×α3×α4×α5×α6×α7×α8×α9×α10×α11×α12×α13×α14×α15×α16):α16:=z.2.2.2.2.2.2.2.2.2.2.2.2.2.2.2.2
theorem sI {α:Type} {a b:α} (h:some a=some b):a=b:=bL h
abbrev zb (b:Aa) (l:List D):List D:=I b.An::DS q70 b.Ad::DS q72 b.Ac::DS q81 b.Ae::I b.Phase::I b.Ap::l
abbrev zp (p:Ab) (l:List Res):List Res:=.sl 4 1 (p.Ag.map pB) :: .sl 93 4 (p.Ac.map q93) :: .sl 3 1 (p.Aq.map pI) :: .sl 96 2 (p.Ao.map q96)::l
abbrev ze (l:List Res):List Res:=.sl 4 1 (([]:List Bool).map pB) :: .sl 93 4 (([]:List Af).map q93) :: .sl 3 1 (([]:List Int).map pI) :: .sl 96 2 (([]:List Ak).map q96)::l
abbrev zs (b:Aa) (l:List Res):List Res:=.sl 70 3 (b.Ad.map q70) :: .sl 72 3 (b.Ac.map q72) :: .sl 81 5 (b.Ae.map q81)::l
abbrev zt {α:Type} (b:Aa) (r:α):Int×List Aj×List Bh×List A7×Int×Int×α:=(b.An,b.Ad,b.Ac,b.Ae,b.Phase,b.Ap,r)
abbrev zu {α:Type} (p:Ab) (r:α):List Bool×List Af×List Int×List Ak×α:=(p.Ag,p.Ac,p.Aq,p.Ao,r)
abbrev n3_:List Nat:=[0,1,2]
abbrev n4_:List Nat:=[0,1,2,3]
abbrev n5_:List Nat:=[0,1,2,3,4]
abbrev n6_:List Nat:=[0,1,2,3,4,5]
abbrev n7_:List Nat:=[0,1,2,3,4,5,6]
abbrev n8_:List Nat:=[0,1,2,3,4,5,6,7]
abbrev n9_:List Nat:=[0,1,2,3,4,5,6,7,8]
abbrev Gs:List Nat:=[0,1,2,3,4,5,6,7,8,9]
abbrev An0:List Nat:=[0,1,2,3,4,5,6,7,8,9,10]
abbrev Fj:List Nat:=[0,1,2,3,4,5,6,7,8,9,10,11]
abbrev H2:List Nat:=[0,1,2,3,4,5,6,7,8,9,10,11,12]
abbrev Eb:List Nat:=[0,1,2,3,4,5,6,7,8,9,10,11,12,13,14]
abbrev A7x:List Nat:=[0,1,2,3,4,5,6,7,8,9,10,11,12,13,14,15]
abbrev A7w:List Nat:=[0,1,2,3,4,5,6,7,8,9,10,11,12,13,14,15,16,17,18]
abbrev vM:List Nat:=[0,1,2,3,4,5,6,7,8,9,10,11,12,13,14,15,16,17,18,19]
abbrev A7v:List Nat:=[0,1,2,3,4,5,6,7,8,9,10,11,12,13,14,15,16,17,18,19,20]
abbrev A7u:List Nat:=[0,1,2,3,4,5,6,7,8,9,10,11,12,13,14,15,16,17,18,19,20,21]
abbrev A7t:List Nat:=[0,1,2,3,4,5,6,7,8,9,10,11,12,13,14,15,16,17,18,19,20,21,22,23]
theorem mixed:Tryz.prog.follows .mixedOrders=true:=by kernel_rfl
abbrev PC:={c:Cl // Cl.ok Tryz.prog c}
abbrev PB:={p:Bool×Bool // p.1=p.2}
theorem okP:∀ l:List PC,Df Tryz.prog (l.map (·.1))
 | []=>trivial
 | c::l=>⟨c.2,okP l⟩
theorem okB:∀ l:List PB,C8 (l.map (·.1))
 | []=>trivial
 | ⟨(_,_),h⟩::l=>⟨h,okB l⟩
def pq {a b:Bool} (h:a=b):PB:=⟨(a,b),h⟩
def pc {f:FuncId} {args:List AV} {R R2:List Res} {res:AV} (e:Fh Tryz.prog f) (k:CallOk Tryz.prog f args R res R2) (pi:List Nat):PC:=⟨.call f args R res R2 pi,e,k⟩
def pb {f:FuncId} {args:List AV} {res:AV} (e:Fh Tryz.prog f) (k:CallOk Tryz.prog f args [] res []):PC:=⟨.callB f args res [[]] 0 [],Iv ⟨e,k⟩⟩
def pw {g:List (Bool×Bool)} {f:FuncId} {args:List AV} {R R2:List Res} {res:AV} (e:Fh Tryz.prog f) (k:C8 g->CallOk Tryz.prog f args R res R2) (pi:List Nat):PC:=⟨.when g (.call f args R res R2 pi),λ h=>⟨e,k h⟩⟩
def pv {g:List (Bool×Bool)} {f:FuncId} {args:List AV} {res:AV} (e:Fh Tryz.prog f) (k:C8 g->CallOk Tryz.prog f args [] res []):PC:=⟨.when g (.callB f args res [[]] 0 []),λ h=>Iv ⟨e,k h⟩⟩
section
variable {α:Type}
def pl (q:α->List Pd) (l:List α):PC:=⟨.len ((l.map q).length:Int) (l.length:Int),Vh l q⟩
def pL_ (g:List (Bool×Bool)) (q:α->List Pd) (l:List α):PC:=⟨.when g (.len ((l.map q).length:Int) (l.length:Int)),λ _=>Vh l q⟩
def pr (q:α->List Pd) {l:List α} {n:Int} {x:α} (h:getI l n=some x):PC:=⟨.row (l.map q) n (q x),U6 h⟩
def pn (q:α->List Pd) {l:List α} {n:Int} {x:α} (h:getI l n=some x):PC:=⟨.row (l.map q) ((n.toNat:Nat):Int) (q x),Jn h⟩
def pt {q:α->List Pd} {l:List α} {i:Nat} {x:α} (hx:l[i]? = some x) (hl:(l.map q).length<=maxLen):PC:=⟨.row (l.map q) (cnt 0 i) (q x),A00 hx hl⟩
def pR (q:α->List Pd) {g:List (Bool×Bool)} {l:List α} {n:Int} {x d:α} (h:A3 g (getI l n) d=some x):PC:=⟨.when g (.row (l.map q) n (q x)),λ hg=>U6 (Bd h hg)⟩
def pN (q:α->List Pd) {g:List (Bool×Bool)} {l:List α} {n:Int} {x d:α} (h:A3 g (getI l n) d=some x):PC:=⟨.when g (.row (l.map q) ((n.toNat:Nat):Int) (q x)),λ hg=>Jn (Bd h hg)⟩
def pa (q:α->List Pd) (size:Nat) {B:Nat} {l m y:List α} (h:appI (B+1) l m=some y) (hs:∀ x,(q x).length=size:=by exact λ _=>rfl):PC:=⟨.app (l.map q) (m.map q) size (((l.map q).length+(m.map q).length)*(B+1)) (y.map q),Gp q size hs h⟩
def pu (q:α->List Pd) {l y:List α} {n:Int} {x x':α} (hx:getI l n=some x) (h:setI l n x'=some y):PC:=⟨.upd (l.map q) n.toNat (q x) (q x') (y.map q),Aky hx h⟩
end
theorem ws {ro:Option Nat} {n:Nat} {C:Ctx} {Q:Exit->Act->World->Prop} {st:St} {R:List Res} {items:List It} (lv:List Nat) (fuel:Nat) (ds:List Bool) (cls:List PC) (adj:List Adj) (k:Nat) (pi:List Nat) (st':St) (R':List Res) (hk:C.h.length<=k) (bs:List PB) (hW:WI ro Tryz.prog n C Q (B7 fuel items ds) st' R') (h:Gh Tryz.prog n lv fuel items st R ds (cls.map (·.1)) adj k pi (N4 st')=some (st',R',cls.map (·.1),bs.map (·.1)):=by kernel_rfl):WI ro Tryz.prog n C Q items st R:=yQ mixed lv fuel ds (cls.map (·.1)) adj k pi st' R' hk (okP cls) (okB bs) h hW
def wo (o:Option (St×List Res×List Cl×List (Bool×Bool))):St×List Res:=match o with
 | some (s,r,_,_)=>(s,r)
 | none=>([],[])
theorem wn {ro:Option Nat} {n:Nat} {C:Ctx} {Q:Exit->Act->World->Prop} {st:St} {R:List Res} {items:List It} (lv:List Nat) (fuel:Nat) (ds:List Bool) (cls:List PC) (adj:List Adj) (k:Nat) (pi:List Nat) (ks:List Nat) (hk:C.h.length<=k) (bs:List PB) (hW:WI ro Tryz.prog n C Q (B7 fuel items ds) (wo (Gh Tryz.prog n lv fuel items st R ds (cls.map (·.1)) adj k pi ks)).1 (wo (Gh Tryz.prog n lv fuel items st R ds (cls.map (·.1)) adj k pi ks)).2) (h:(Gh Tryz.prog n lv fuel items st R ds (cls.map (·.1)) adj k pi ks).map (λ x=>(N4 x.1,x.2.2.1,x.2.2.2))=some (ks,cls.map (·.1),bs.map (·.1)):=by kernel_rfl):WI ro Tryz.prog n C Q items st R:=by
 cases e:Gh Tryz.prog n lv fuel items st R ds (cls.map (·.1)) adj k pi ks with
 | none=>rw [e] at h;cases h
 | some x=>
  obtain⟨s,r,c,b⟩:=x
  rw [e] at h hW
  simp only [bS,al,aQ] at h
  obtain⟨h1,h2,h3⟩:=h
  subst h1;subst h2;subst h3
  exact yQ mixed lv fuel ds _ adj k pi s r hk (okP cls) (okB bs) e hW
theorem we {ro:Option Nat} {n:Nat} {C:Ctx} {Q:Exit->Act->World->Prop} {st:St} {R:List Res} {items:List It} {σ:Type} {φ:σ->Prop} {st':σ->St} {R':σ->List Res} (lv:List Nat) (fuel:Nat) (ds:List Bool) (cls:List PC) (adj:List Adj) (k:Nat) (pi:List Nat) (s:σ) (hk:C.h.length<=k) (bs:List PB) (h1:φ s) (hi:hdK (B7 fuel items ds)=Ex n C φ st' R':=by kernel_rfl) (h:Gh Tryz.prog n lv fuel items st R ds (cls.map (·.1)) adj k pi (N4 (st' s))=some (st' s,R' s,cls.map (·.1),bs.map (·.1)):=by kernel_rfl):WI ro Tryz.prog n C Q items st R:=Aux mixed lv fuel ds (cls.map (·.1)) adj k pi s hk (okP cls) (okB bs) hi h h1
theorem wx {σ:Type} {τ:Type} (w:Ctl σ τ) (st':σ->St) (R':σ->List Res) {ro:Option Nat} {n:Nat} {C:Ctx} {Q:Exit->Act->World->Prop} {st:St} {R:List Res} {items:List It} (lv:List Nat) (fuel:Nat) (ds:List Bool) (cls:List PC) (adj:List Adj) (k:Nat) (pi:List Nat) (s:σ) (hk:C.h.length<=k) (bs:List PB) (h1:w = .next s) (hi:hdK (B7 fuel items ds)=Ex n C (λ s'=>w = .next s') st' R':=by kernel_rfl) (h:Gh Tryz.prog n lv fuel items st R ds (cls.map (·.1)) adj k pi (N4 (st' s))=some (st' s,R' s,cls.map (·.1),bs.map (·.1)):=by kernel_rfl):WI ro Tryz.prog n C Q items st R:=Aux mixed lv fuel ds (cls.map (·.1)) adj k pi s hk (okP cls) (okB bs) hi h h1
theorem wc {ro:Option Nat} {n:Nat} {C:Ctx} {Q:Exit->Act->World->Prop} {st:St} {R:List Res} {items:List It} {σ τ:Type} (w:Ctl σ τ) (st':σ->St) (R':σ->List Res) (h:WI ro Tryz.prog n C Q (.c (hdC items) :: .k (Ex n C (λ s=>w = .next s) st' R')::tlI items) st R) (hK:∀ s,w = .next s->WI ro Tryz.prog n C Q (tlI items) (st' s) (R' s)) (hi:isC items=true:=by kernel_rfl):WI ro Tryz.prog n C Q items st R:=A5y hi _ st' R' h hK
theorem Bc {α β γ:Type} {o:Option α} {f:α->Option β} {g:α->β->Option γ} {r:γ} (h:(o.bind λ a=>(f a).bind λ b=>g a b)=some r):∃ a,o=some a/\∃ b,f a=some b/\g a b=some r:=by
 obtain⟨a,h1,h⟩:=Az h
 obtain⟨b,h2,h⟩:=Az h
 exact⟨a,h1,b,h2,h⟩
theorem B0 {α β γ δ:Type} {o:Option α} {f:α->Option β} {g:α->β->Option γ} {k:α->β->γ->Option δ} {r:δ} (h:(o.bind λ a=>(f a).bind λ b=>(g a b).bind λ c=>k a b c)=some r):∃ a,o=some a/\∃ b,f a=some b/\∃ c,g a b=some c/\k a b c=some r:=by
 obtain⟨a,h1,h⟩:=Az h
 obtain⟨b,h2,c,h3,h⟩:=Bc h
 exact⟨a,h1,b,h2,c,h3,h⟩
theorem Co {α β γ δ ε:Type} {o:Option α} {f:α->Option β} {g:α->β->Option γ} {k:α->β->γ->Option δ} {l:α->β->γ->δ->Option ε} {r:ε} (h:(o.bind λ a=>(f a).bind λ b=>(g a b).bind λ c=>(k a b c).bind λ d=>l a b c d)=some r):∃ a,o=some a/\∃ b,f a=some b/\∃ c,g a b=some c/\∃ d,k a b c=some d/\l a b c d=some r:=by
 obtain⟨a,h1,h⟩:=Az h
 obtain⟨b,h2,c,h3,d,h4,h⟩:=B0 h
 exact⟨a,h1,b,h2,c,h3,d,h4,h⟩
theorem wl {ro:Option Nat} {n:Nat} {C:Ctx} {Q:Exit->Act->World->Prop} {st:St} {R:List Res} {α σ τ:Type} {items:List It} {f:Nat->α->σ->Option (Ctl σ τ)} (stF:Nat->σ->St) (RF:Nat->σ->List Res) {r:Ctl σ τ} {xs:List α} {s:σ} (hm:foldI f xs 0 s=some r) (hnil:∀ s,r = .next s->WI ro Tryz.prog n C Q (.c (lpC items) :: .k (λ _ _=>False)::tlI items) (stF xs.length s) (RF xs.length s)) (hcons:∀ i x s k,i<xs.length->xs[i]? = some x->f i x s=some k->(∀ s',k = .brk s'->r = .next s')->(∀ v,k = .ret v->r = .ret v)->WI ro Tryz.prog n C Q (.c (lpC items) :: .k (Ex n C (λ s'=>k = .next s') (stF (i+1)) (RF (i+1)))::tlI items) (stF i s) (RF i s)) (hi:isL items=true:=by kernel_rfl) (h0:st=stF 0 s:=by rfl) (h1:R=RF 0 s:=by rfl):WI ro Tryz.prog n C Q items st R:=Ayu hi f stF RF r xs s hm h0 h1 hnil hcons
theorem ww {ro:Option Nat} {n:Nat} {C:Ctx} {Q:Exit->Act->World->Prop} {st:St} {R:List Res} {σ τ:Type} {items:List It} {f:σ->Option (Ctl σ τ)} (stF:σ->St) (RF:σ->List Res) {r:Ctl σ τ} {fuel:Nat} {s:σ} (hm:whileN f fuel s=some r) (h:∀ s k,f s=some k->(∀ s',k = .brk s'->r = .next s')->(∀ v,k = .ret v->r = .ret v)->WI ro Tryz.prog n C Q (.c (lpC items) :: .k (Ex n C (λ s'=>k = .next s') stF RF)::tlI items) (stF s) (RF s)) (hi:isL items=true:=by kernel_rfl) (h0:st=stF s:=by rfl) (h1:R=RF s:=by rfl):WI ro Tryz.prog n C Q items st R:=Ays hi f stF RF r fuel s hm h0 h1 h
theorem cB {α:Type} {c:Bool} {x y z:α} (h:(bif c then x else y)=z):(c=true/\x=z)\/(c=false/\y=z):=by cases c;exact .inr ⟨rfl,h⟩;exact .inl ⟨rfl,h⟩
theorem wb {ro:Option Nat} {n:Nat} {C:Ctx} {Q:Exit->Act->World->Prop} {st:St} {R:List Res} {items:List It} (h:WI ro Tryz.prog n C Q (.c (A5t items) :: .b (A5s items)::tlI items) st R) (hi:isB items=true:=by kernel_rfl):WI ro Tryz.prog n C Q items st R:=A5z hi h
theorem co {f:FuncId} {fn:Func} {c:Code} {args:List AV} {res:AV} {R R2:List Res} (n:Nat) (hf:Tryz.prog.funcs[f]? = some fn) (h:∀ C:Ctx,C.h.length<=R.length->WI none Tryz.prog n C.z (Mw Tryz.prog fn C.z res R2) [.c c] (jY 0 args) R) (hb:fn.body=some c:=by rfl) (hn:fn.ntmps=n:=by rfl) (hl:Nat.ble args.length n=true:=by rfl):CallOk Tryz.prog f args R res R2:=Aua n hf hb hn hl h
theorem wr {ro:Option Nat} {n:Nat} {C:Ctx} {st:St} {R:List Res} {fn:Func} {res:AV} {R2:List Res} {items:List It} (lv:List Nat) (fuel:Nat) (ds:List Bool) (cls:List PC) (adj:List Adj) (k:Nat) (pi:List Nat) (hk:C.h.length<=k) (bs:List PB) (h:Y2 Tryz.prog n lv fuel items st R ds (cls.map (·.1)) adj fn.results.toList k pi=some (res,R2,cls.map (·.1),bs.map (·.1)):=by kernel_rfl):WI ro Tryz.prog n C.z (Mw Tryz.prog fn C.z res R2) items st R:=jZ mixed lv fuel ds (cls.map (·.1)) adj _ k pi rfl hk (okP cls) (okB bs) h
theorem wf {ro:Option Nat} {n:Nat} {C:Ctx} {st:St} {R:List Res} {fn:Func} {res:AV} {R2:List Res} {items:List It} (lv:List Nat) (fuel:Nat) (ds:List Bool) (cls:List PC) (adj:List Adj) (k:Nat) (pi:List Nat) (hk:C.h.length<=k) (bs:List PB) (hn:Axa (B7 fuel items ds)=true:=by kernel_rfl) (h:Y3 Tryz.prog n lv fuel items st R ds (cls.map (·.1)) adj fn.results.toList k pi=some (res,R2,cls.map (·.1),bs.map (·.1)):=by kernel_rfl):WI ro Tryz.prog n C.z (Mw Tryz.prog fn C.z res R2) items st R:=A2f mixed lv fuel ds (cls.map (·.1)) adj _ k pi rfl hk (okP cls) (okB bs) hn h
theorem en {f : FuncId} {fn : Func} (hf : Tryz.prog.funcs[f]? = some fn) (hb : fn.body.isNone = false := by kernel_rfl) (hn : (fn.name == "runtime.NumGoroutine") = false := by kernel_rfl) : Fh Tryz.prog f := Go.SL.Abj hf hb hn
abbrev ln {α:Type} (l:List α):Int:=(l.length:Int)
abbrev dI (x:Int):AV:=.d (I x)
abbrev dB (x:Bool):AV:=.d (Bo x)
abbrev dO (a b:Nat):AV:=.d (.o a b)
abbrev dS (a:Nat):AV:=.d (.os a)
theorem k82 (x0:Int) (x1:Int) (x2:Int) (r:Bool) (h:F82 x0 x1 x2=r):CO 82 [.d (I x0),.d (I x1),.d (I x2)] [] (.d (Bo r)) []:=by
 unfold F82 at h
 refine co 15 Tryz.func82 λ C hC=>?_
 subst h
 exact wr [0,1,2,6] 25 [] [] [] 0 [] hC []
theorem e82:EN 82:=en Tryz.func82
def Af2:List Nat:=[0,1,2,3,6,7,8,9,11,12,13,14,37]
def Y_ (x0:Aa) (x1:Int) (x2:Int) (n0:Nat) (z0:(List Int)):St:=[(1,dI x1),(2,dI x2),(6,.d (DS pI [])),(7,dS 0),(11,.d (DS q70 x0.Ad)),(12,dI (ln x0.Ad)),(13,dI (cnt 0 n0))]
def Ada  (n0:Nat) (z0:(List Int)):List Res:=[v0_ z0]
def Arg  (z0:(List Int)):St:=[(6,.d (DS pI [])),(7,dS 0)]
def Au6  (z0:(List Int)):List Res:=[v0_ z0]
theorem k83 (x0:Aa) (x1:Int) (x2:Int) (r:(List Int)) (h:F83 x0 x1 x2=some r):CO 83 [.agg (d30 x0),.d (I x1),.d (I x2)] [] (.d (.os 0)) [v0_ r]:=by
 unfold F83 at h
 refine co 44 Tryz.func83 λ C hC=>?_
 refine ws Af2 28 [] [pl q70 x0.Ad] [.own 7 3 1] 0 [1] (Y_ x0 x1 x2 0 ([]:List Int)) (Ada 0 ([]:List Int)) hC [] ?_
 obtain⟨w0,hm0,hret0,hnext0⟩:=Ar h
 clear h
 refine wc w0 (Arg) (Au6) ?_ λ z0 hs0=>?_
 ·refine wb ?_
  refine Bq 11 rfl λ hl0=>?_
  refine wl (Y_ x0 x1 x2) (Ada) hm0 (λ z0 hn0=>?_) λ n0 a0 z0 w0b hi0 hx0 h hb0 hr0=>?_
  ·clear hm0
   exact wx w0 (Arg) (Au6) Af2 26 [false] [] [] 0 [0] _ hC [pq (Bf hl0)] hn0
  ·unfold Aiv at h
   rcases cB h with⟨h1,h⟩ | ⟨h1,h⟩
   ·obtain⟨y2,h3,h⟩:=Az h
    exact wx w0b (Y_ x0 x1 x2 (n0+1)) (Ada (n0+1)) Af2 36 [true,true] [pt hx0 hl0,pa pI 1 h3] [] 0 [2] _ hC [pq (A_ hi0 hl0),pq h1] (sI h).symm
   ·exact wx w0b (Y_ x0 x1 x2 (n0+1)) (Ada (n0+1)) Af2 36 [true,false] [pt hx0 hl0] [] 0 [0] _ hC [pq (A_ hi0 hl0),pq h1] (sI h).symm
 ·have h:=hnext0 _ hs0
  replace h:=sI h
  subst h
  exact wr Af2 23 [] [] [] 0 [0] hC []
theorem e83:EN 83:=en Tryz.func83
theorem k44 (x0:A5) (r:Bool) (h:F44 x0=r):CO 44 [.agg (d33 x0)] [] (.d (Bo r)) []:=by
 unfold F44 at h
 refine co 33 Tryz.func44 λ C hC=>?_
 subst h
 exact wr n3_ 25 [] [] [] 0 [] hC []
theorem e44:EN 44:=en Tryz.func44
theorem k91 (x0:Int) (x1:Int) (x2:Int) (r:Bool) (h:F91 x0 x1 x2=r):CO 91 [.d (I x0),.d (I x1),.d (I x2)] [] (.d (Bo r)) []:=by
 unfold F91 at h
 refine co 15 Tryz.func91 λ C hC=>?_
 subst h
 exact wr [0,1,2,6] 25 [] [] [] 0 [] hC []
theorem e91:EN 91:=en Tryz.func91
def Zw:List Nat:=[0,1,4,5,7,8,9,16]
def uR (x0:List Int) (x1:Int) (n0:Nat) (z0:Unit):St:=[(0,.d (DS pI x0)),(1,dI x1),(4,dI 0),(7,dI (ln x0)),(8,dI (cnt 0 n0))]
def Aib  (n0:Nat) (z0:Unit):List Res:=[]
def Ak7  (z0:Unit):St:=[(4,dI 0)]
def Amn  (z0:Unit):List Res:=[]
theorem A76 (x0:List Int) (x1:Int) (r:Int) (h:Aql x0 x1=some r):CO 186 [.d (DS pI x0),.d (I x1)] [] (.d (I r)) []:=by
 unfold Aql at h
 refine co 19 Tryz.func186 λ C hC=>?_
 refine ws Zw 26 [] [pl pI x0] [] 0 [] (uR x0 x1 0 ()) (Aib 0 ()) hC [] ?_
 obtain⟨w0,hm0,hret0,hnext0⟩:=Ar h
 clear h
 refine wc w0 (Ak7) (Amn) ?_ λ z0 hs0=>?_
 ·refine wb ?_
  refine Bq 0 rfl λ hl0=>?_
  refine wl (uR x0 x1) (Aib) hm0 (λ z0 hn0=>?_) λ n0 a0 z0 w0b hi0 hx0 h hb0 hr0=>?_
  ·clear hm0
   exact wx w0 (Ak7) (Amn) Zw 26 [false] [] [] 0 [] _ hC [pq (Bf hl0)] hn0
  ·unfold Ana at h
   rcases cB h with⟨h1,h⟩ | ⟨h1,h⟩
   ·have hq:=hret0 _ (hr0 _ (sI h).symm)
    replace hq:=sI hq
    subst hq
    exact wr Zw 35 [true,true] [pt hx0 hl0] [] 0 [] hC [pq (A_ hi0 hl0),pq h1]
   ·exact wx w0b (uR x0 x1 (n0+1)) (Aib (n0+1)) Zw 36 [true,false] [pt hx0 hl0] [] 0 [] _ hC [pq (A_ hi0 hl0),pq h1] (sI h).symm
 ·have h:=hnext0 _ hs0
  replace h:=sI h
  subst h
  exact wr Zw 23 [] [] [] 0 [] hC []
theorem A87:EN 186:=en Tryz.func186
theorem A3i (x0:List Int) (r:Bool) (h:Ayz x0=r):CO 154 [.d (DS pI x0)] [] (.d (Bo r)) []:=by
 unfold Ayz at h
 refine co 6 Tryz.func154 λ C hC=>?_
 subst h
 exact wr [0,2] 25 [] [pl pI x0] [] 0 [] hC []
theorem A4x:EN 154:=en Tryz.func154
def Z6:List Nat:=[0,1,2,4,5,6,11,16,20]
theorem A8o (x0:Aa) (x1:Int) (r:Int) (h:K2 x0 x1=r):CO 116 [.agg (d30 x0),.d (I x1)] [] (.d (I r)) []:=by
 unfold K2 at h
 refine co 25 Tryz.func116 λ C hC=>?_
 rcases cB h with⟨h1,h⟩ | ⟨h1,h⟩
 ·subst h
  exact wr Z6 32 [true] [pl q72 x0.Ac] [] 0 [] hC [pq h1]
 ·rcases cB h with⟨h2,h⟩ | ⟨h2,h⟩
  ·subst h
   exact wr Z6 35 [false,true] [pl q70 x0.Ad] [] 0 [] hC [pq h1,pq h2]
  ·rcases cB h with⟨h3,h⟩ | ⟨h3,h⟩
   ·subst h
    exact wr Z6 38 [false,false,true] [] [] 0 [] hC [pq h1,pq h2,pq h3]
   ·rcases cB h with⟨h4,h⟩ | ⟨h4,h⟩
    ·subst h
     exact wr Z6 41 [false,false,false,true] [pl q81 x0.Ae] [] 0 [] hC [pq h1,pq h2,pq h3,pq h4]
    ·subst h
     exact wr Z6 43 [false,false,false,false] [] [] 0 [] hC [pq h1,pq h2,pq h3,pq h4]
theorem A9p:EN 116:=en Tryz.func116
theorem Kv (x0:Int) (r:Bool) (h:Yx x0=r):CO 155 [.d (I x0)] [] (.d (Bo r)) []:=by
 unfold Yx at h
 refine co 6 Tryz.func155 λ C hC=>?_
 subst h
 exact wr [0,2] 25 [] [] [] 0 [] hC []
theorem Kx:EN 155:=en Tryz.func155
def Z5:List Nat:=[0,2,3,5,6,7,8,9,14]
def vC (x0:List Int) (n0:Nat) (z0:Unit):St:=[(2,dI 0),(3,dI 0),(6,.d (DS pI x0)),(7,dI (ln x0)),(8,dI (cnt 0 n0))]
def Ain  (n0:Nat) (z0:Unit):List Res:=[]
def Alo  (z0:Unit):St:=[(2,dI 0),(3,dI 0)]
def Am4  (z0:Unit):List Res:=[]
theorem A8n (x0:List Int) (r:Int) (h:zS x0=some r):CO 117 [.d (DS pI x0)] [] (.d (I r)) []:=by
 unfold zS at h
 refine co 18 Tryz.func117 λ C hC=>?_
 refine ws Z5 28 [] [pl pI x0] [] 0 [] (vC x0 0 ()) (Ain 0 ()) hC [] ?_
 obtain⟨w0,hm0,hret0,hnext0⟩:=Ar h
 clear h
 refine wc w0 (Alo) (Am4) ?_ λ z0 hs0=>?_
 ·refine wb ?_
  refine Bq 6 rfl λ hl0=>?_
  refine wl (vC x0) (Ain) hm0 (λ z0 hn0=>?_) λ n0 a0 z0 w0b hi0 hx0 h hb0 hr0=>?_
  ·clear hm0
   exact wx w0 (Alo) (Am4) Z5 26 [false] [] [] 0 [] _ hC [pq (Bf hl0)] hn0
  ·unfold Wa at h
   rcases cB h with⟨h1,h⟩ | ⟨h1,h⟩
   ·have hq:=hret0 _ (hr0 _ (sI h).symm)
    replace hq:=sI hq
    subst hq
    exact wr Z5 35 [true,true] [pt hx0 hl0] [] 0 [] hC [pq (A_ hi0 hl0),pq h1]
   ·exact wx w0b (vC x0 (n0+1)) (Ain (n0+1)) Z5 36 [true,false] [pt hx0 hl0] [] 0 [] _ hC [pq (A_ hi0 hl0),pq h1] (sI h).symm
 ·have h:=hnext0 _ hs0
  replace h:=sI h
  subst h
  exact wr Z5 23 [] [] [] 0 [] hC []
theorem A9o:EN 117:=en Tryz.func117
def Af1:List Nat:=[0,1,2,3,4,6,7,8,9,11,12,13,14,33]
def Y8 (x0:Aa) (x2:Int) (n0:Nat) (z0:Int):St:=[(2,dI x2),(4,dO 0 0),(6,dI 0),(7,dI z0),(11,.d (DS q70 x0.Ad)),(12,dI (ln x0.Ad)),(13,dI (cnt 0 n0))]
def Ac8 (x1:Ab) (n0:Nat) (z0:Int):List Res:=[.box 39 (d39 x1)]
def Arb  (z0:Int):St:=[(6,dI 0),(7,dI z0)]
def Au1  (z0:Int):List Res:=[]
theorem k92 (x0:Aa) (x1:Ab) (x2:Int) (r:Int) (h:F92 x0 x1 x2=some r):CO 92 [.agg (d30 x0),.agg (d39 x1),.d (I x2)] [] (.d (I r)) []:=by
 unfold F92 at h
 refine co 38 Tryz.func92 λ C hC=>?_
 refine ws Af1 28 [] [pl q70 x0.Ad] [] 0 [1] (Y8 x0 x2 0 0) (Ac8 x1 0 0) hC [] ?_
 obtain⟨w0,hm0,hret0,hnext0⟩:=Ar h
 clear h
 refine wc w0 (Arb) (Au1) ?_ λ z0 hs0=>?_
 ·refine wb ?_
  refine Bq 11 rfl λ hl0=>?_
  refine wl (Y8 x0 x2) (Ac8 x1) hm0 (λ z0 hn0=>?_) λ n0 a0 z0 w0b hi0 hx0 h hb0 hr0=>?_
  ·clear hm0
   exact wx w0 (Arb) (Au1) Af1 26 [false] [] [] 0 [] _ hC [pq (Bf hl0)] hn0
  ·unfold Ais at h
   obtain⟨y1,h2,h⟩:=Az h
   rcases cB h with⟨h3,h⟩ | ⟨h3,h⟩
   ·exact wx w0b (Y8 x0 x2 (n0+1)) (Ac8 x1 (n0+1)) Af1 36 [true,true] [pt hx0 hl0,pR pB h2] [] 0 [0] _ hC [pq (A_ hi0 hl0),pq h3] (sI h).symm
   ·exact wx w0b (Y8 x0 x2 (n0+1)) (Ac8 x1 (n0+1)) Af1 36 [true,false] [pt hx0 hl0,pR pB h2] [] 0 [0] _ hC [pq (A_ hi0 hl0),pq h3] (sI h).symm
 ·have h:=hnext0 _ hs0
  replace h:=sI h
  subst h
  exact wr Af1 23 [] [] [] 0 [] hC []
theorem e92:EN 92:=en Tryz.func92
theorem k93 (x0:List Bool) (r:List Bool) (h:F93 x0=some r):CO 93 [.d (.p (.s (x0.map pB)))] [] (.d (.os 0)) [v2_ r]:=by
 unfold F93 at h
 refine co 8 Tryz.func93 λ C hC=>?_
 refine ws [0,4] 40 [] [] [] 0 [] [(0,.d (.p (.s (x0.map pB)))),(4,.d (.nq (x0.map pB)))] [] hC [] ?_
 refine Vv 4 (by kernel_rfl) (by kernel_rfl) rfl (λ hn=>?_) ?_
 ·have hx:x0=[]:=by cases x0 with | nil=>rfl | cons=>cases hn
  subst hx
  have hr:r=[]:=by simpa [appI] using h.symm
  subst hr
  exact wr [2] 40 [] [] [.own 2 4 1] 0 [0] hC []
 ·exact wr [2] 40 [] [⟨.own,trivial⟩,⟨.app [] (x0.map pB) 1 ((([]:List (List Pd)).length+(x0.map pB).length)*(1+1)) (r.map pB),Gp (l:=[]) pB 1 (λ _=>rfl) h⟩] [] 0 [1] hC []
theorem e93:EN 93:=en Tryz.func93
theorem k94 (x0:List Af) (r:List Af) (h:F94 x0=some r):CO 94 [.d (.p (.s (x0.map q93)))] [] (.d (.os 0)) [v5_ r]:=by
 unfold F94 at h
 refine co 8 Tryz.func94 λ C hC=>?_
 refine ws [0,4] 40 [] [] [] 0 [] [(0,.d (.p (.s (x0.map q93)))),(4,.d (.nq (x0.map q93)))] [] hC [] ?_
 refine Vv 4 (by kernel_rfl) (by kernel_rfl) rfl (λ hn=>?_) ?_
 ·have hx:x0=[]:=by cases x0 with | nil=>rfl | cons=>cases hn
  subst hx
  have hr:r=[]:=by simpa [appI] using h.symm
  subst hr
  exact wr [2] 40 [] [] [.own 2 93 4] 0 [0] hC []
 ·exact wr [2] 40 [] [⟨.own,trivial⟩,⟨.app [] (x0.map q93) 4 ((([]:List (List Pd)).length+(x0.map q93).length)*(32+1)) (r.map q93),Gp (l:=[]) q93 4 (λ _=>rfl) h⟩] [] 0 [1] hC []
theorem e94:EN 94:=en Tryz.func94
theorem k95 (x0:List Int) (r:List Int) (h:F95 x0=some r):CO 95 [.d (.p (.s (x0.map pI)))] [] (.d (.os 0)) [v0_ r]:=by
 unfold F95 at h
 refine co 8 Tryz.func95 λ C hC=>?_
 refine ws [0,4] 40 [] [] [] 0 [] [(0,.d (.p (.s (x0.map pI)))),(4,.d (.nq (x0.map pI)))] [] hC [] ?_
 refine Vv 4 (by kernel_rfl) (by kernel_rfl) rfl (λ hn=>?_) ?_
 ·have hx:x0=[]:=by cases x0 with | nil=>rfl | cons=>cases hn
  subst hx
  have hr:r=[]:=by simpa [appI] using h.symm
  subst hr
  exact wr [2] 40 [] [] [.own 2 3 1] 0 [0] hC []
 ·exact wr [2] 40 [] [⟨.own,trivial⟩,⟨.app [] (x0.map pI) 1 ((([]:List (List Pd)).length+(x0.map pI).length)*(8+1)) (r.map pI),Gp (l:=[]) pI 1 (λ _=>rfl) h⟩] [] 0 [1] hC []
theorem e95:EN 95:=en Tryz.func95
theorem k96 (x0:List Ak) (r:List Ak) (h:F96 x0=some r):CO 96 [.d (.p (.s (x0.map q96)))] [] (.d (.os 0)) [v3_ r]:=by
 unfold F96 at h
 refine co 8 Tryz.func96 λ C hC=>?_
 refine ws [0,4] 40 [] [] [] 0 [] [(0,.d (.p (.s (x0.map q96)))),(4,.d (.nq (x0.map q96)))] [] hC [] ?_
 refine Vv 4 (by kernel_rfl) (by kernel_rfl) rfl (λ hn=>?_) ?_
 ·have hx:x0=[]:=by cases x0 with | nil=>rfl | cons=>cases hn
  subst hx
  have hr:r=[]:=by simpa [appI] using h.symm
  subst hr
  exact wr [2] 40 [] [] [.own 2 96 2] 0 [0] hC []
 ·exact wr [2] 40 [] [⟨.own,trivial⟩,⟨.app [] (x0.map q96) 2 ((([]:List (List Pd)).length+(x0.map q96).length)*(16+1)) (r.map q96),Gp (l:=[]) q96 2 (λ _=>rfl) h⟩] [] 0 [1] hC []
theorem e96:EN 96:=en Tryz.func96
def Mc:List Nat:=[0,1,2,3,4,5,6,7,8,9,14,15,16,24,25,26,28,29,30,31,44]
def Adu (y1:List Int) (n0:Nat) (z0:(List Int)):St:=[(2,dO 0 0),(3,dO 1 0),(4,.d (DS pI [])),(5,dS 2),(14,dI (ln y1)),(15,dI (cnt 0 n0))]
def Apd (x0:Aa) (x1:Ab) (n0:Nat) (z0:(List Int)):List Res:=[.box 30 (d30 x0),.box 39 (d39 x1),v0_ z0]
def Ara  (z0:(List Int)):St:=[(2,dO 0 0),(3,dO 1 0),(4,.d (DS pI [])),(5,dS 2)]
def Au0 (x0:Aa) (x1:Ab) (z0:(List Int)):List Res:=[.box 30 (d30 x0),.box 39 (d39 x1),v0_ z0]
def Adt (z0:(List Int)) (n1:Nat) (z1:(List Int)):St:=[(2,dO 0 0),(3,dO 1 0),(4,.d (DS pI [])),(5,dS 2),(24,dI (ln z0)),(25,dI (cnt 0 n1))]
def Apc (x0:Aa) (x1:Ab) (n1:Nat) (z1:(List Int)):List Res:=[.box 30 (d30 x0),.box 39 (d39 x1),v0_ z1]
def Aq9  (z1:(List Int)):St:=[(4,.d (DS pI [])),(5,dS 0)]
def Auz  (z1:(List Int)):List Res:=[v0_ z1]
def Y7 (x0:Aa) (z0:(List Int)) (n1:Nat) (n2:Nat) (z2:(List Int)):St:=[(2,dO 0 0),(3,dO 1 0),(4,.d (DS pI [])),(5,dS 2),(24,dI (ln z0)),(25,dI (cnt 0 n1)),(28,.d (DS q70 x0.Ad)),(29,dI (ln x0.Ad)),(30,dI (cnt 0 n2))]
def Ac7 (x0:Aa) (x1:Ab) (n2:Nat) (z2:(List Int)):List Res:=[.box 30 (d30 x0),.box 39 (d39 x1),v0_ z2]
def Aq8 (z0:(List Int)) (n1:Nat) (z2:(List Int)):St:=[(2,dO 0 0),(3,dO 1 0),(4,.d (DS pI [])),(5,dS 2),(24,dI (ln z0)),(25,dI (cnt 0 n1))]
def Auy (x0:Aa) (x1:Ab) (z2:(List Int)):List Res:=[.box 30 (d30 x0),.box 39 (d39 x1),v0_ z2]
theorem k97 (x0:Aa) (x1:Ab) (r:(List Int)) (h:F97 x0 x1=some r):CO 97 [.agg (d30 x0),.agg (d39 x1)] [] (.d (.os 0)) [v0_ r]:=by
 unfold F97 at h
 refine co 69 Tryz.func97 λ C hC=>?_
 obtain⟨y1,h2,h⟩:=Az h
 refine ws Mc 28 [] [⟨.room (x0.An*(8+1)) (List.replicate (Int.toNat x0.An) (pI 0)) (y1.map pI),Js h2⟩,pl pI y1] [] 0 n3_ (Adu y1 0 y1) (Apd x0 x1 0 y1) hC [] ?_
 obtain⟨w0,hm0,hret0,hnext0⟩:=Ar h
 clear h
 refine wc w0 (Ara) (Au0 x0 x1) ?_ λ z0 hs0=>?_
 ·refine wb ?_
  refine Cj 5 2 rfl rfl λ hl0=>?_
  refine wl (Adu y1) (Apd x0 x1) hm0 (λ z0 hn0=>?_) λ n0 a0 z0 w0b hi0 hx0 h hb0 hr0=>?_
  ·clear hm0
   exact wx w0 (Ara) (Au0 x0 x1) Mc 26 [false] [] [] 0 n3_ _ hC [pq (Bf hl0)] hn0
  ·unfold Air at h
   obtain⟨y3,h4,y5,h6,h⟩:=Bc h
   exact wx w0b (Adu y1 (n0+1)) (Apd x0 x1 (n0+1)) Mc 33 [true] [pr pI h4,pu pI h4 h6] [] 0 n3_ _ hC [pq (A_ hi0 hl0)] (sI h).symm
 ·have h := hnext0 _ hs0
  refine ws Mc 24 [] [pl pI z0] [] 0 n3_ (Adt z0 0 z0) (Apc x0 x1 0 z0) hC [] ?_
  obtain⟨w1,hm1,hret1,hnext1⟩:=Ar h
  clear h
  refine wc w1 (Aq9) (Auz) ?_ λ z1 hs1=>?_
  ·refine wb ?_
   refine Cj 5 2 rfl rfl λ hl1=>?_
   refine wl (Adt z0) (Apc x0 x1) hm1 (λ z1 hn1=>?_) λ n1 a1 z1 w1b hi1 hx1 h hb1 hr1=>?_
   ·clear hm1
    exact wx w1 (Aq9) (Auz) Mc 26 [false] [] [] 0 [2] _ hC [pq (Bf hl1)] hn1
   ·unfold Aiq at h
    refine ws Mc 30 [true] [pl q70 x0.Ad] [] 0 n3_ (Y7 x0 z0 n1 0 z1) (Ac7 x0 x1 0 z1) hC [pq (A_ hi1 hl1)] ?_
    obtain⟨w2,hm2,hret2,hnext2⟩:=Ar h
    clear h
    refine wc w2 (Aq8 z0 n1) (Auy x0 x1) ?_ λ z2 hs2=>?_
    ·refine wb ?_
     refine Bq 28 rfl λ hl2=>?_
     refine wl (Y7 x0 z0 n1) (Ac7 x0 x1) hm2 (λ z2 hn2=>?_) λ n2 a2 z2 w2b hi2 hx2 h hb2 hr2=>?_
     ·clear hm2
      exact wx w2 (Aq8 z0 n1) (Auy x0 x1) Mc 26 [false] [] [] 0 n3_ _ hC [pq (Bf hl2)] hn2
     ·unfold qH at h
      obtain⟨y7,h8,h⟩:=Az h
      rcases cB h with⟨h9,h⟩ | ⟨h9,h⟩
      ·obtain⟨y10,h11,y12,h13,y14,h15,h⟩:=B0 h
       obtain⟨y16,h17,y18,h19,h⟩:=Bc h
       exact wx w2b (Y7 x0 z0 n1 (n2+1)) (Ac7 x0 x1 (n2+1)) Mc 38 [true,true] [pt hx2 hl2,pR pB h8,pr pI h11,pn pI h11,pr pI h13,pn pI h13,pr pI h11,pu pI h11 h15,pr pI h17,pu pI h17 h19] [] 0 n3_ _ hC [pq (A_ hi2 hl2),pq h9] (sI h).symm
      ·exact wx w2b (Y7 x0 z0 n1 (n2+1)) (Ac7 x0 x1 (n2+1)) Mc 36 [true,false] [pt hx2 hl2,pR pB h8] [] 0 n3_ _ hC [pq (A_ hi2 hl2),pq h9] (sI h).symm
    ·have h:=hnext2 _ hs2
     exact wx w1b (Adt z0 (n1+1)) (Apc x0 x1 (n1+1)) Mc 23 [] [] [] 0 n3_ _ hC [] (sI h).symm
  ·have h:=hnext1 _ hs1
   replace h:=sI h
   subst h
   exact wr Mc 23 [] [] [] 0 [0] hC []
theorem e97:EN 97:=en Tryz.func97
def Z4:List Nat:=[0,1,2,3,4,5,8,9,10,11,13,14,15,16,36]
def vB (x0:Aa) (x2:Int) (x3:Int) (n0:Nat) (z0:Unit):St:=[(2,dI x2),(3,dI x3),(5,dO 0 0),(8,dI 0),(9,dB false),(13,.d (DS q70 x0.Ad)),(14,dI (ln x0.Ad)),(15,dI (cnt 0 n0))]
def Aim (x1:Ab) (n0:Nat) (z0:Unit):List Res:=[.box 39 (d39 x1)]
def Aln  (z0:Unit):St:=[(8,dI 0),(9,dB false)]
def Am3  (z0:Unit):List Res:=[]
theorem A3w (x0:Aa) (x1:Ab) (x2:Int) (x3:Int) (r:Int×Bool) (h:zR x0 x1 x2 x3=some r):CO 120 [.agg (d30 x0),.agg (d39 x1),.d (I x2),.d (I x3)] [] (.tup [.d (I r.1),.d (Bo r.2)]) []:=by
 unfold zR at h
 refine co 40 Tryz.func120 λ C hC=>?_
 refine ws Z4 26 [] [pl q70 x0.Ad] [] 0 [1] (vB x0 x2 x3 0 ()) (Aim x1 0 ()) hC [] ?_
 obtain⟨w0,hm0,hret0,hnext0⟩:=Ar h
 clear h
 refine wc w0 (Aln) (Am3) ?_ λ z0 hs0=>?_
 ·refine wb ?_
  refine Bq 13 rfl λ hl0=>?_
  refine wl (vB x0 x2 x3) (Aim x1) hm0 (λ z0 hn0=>?_) λ n0 a0 z0 w0b hi0 hx0 h hb0 hr0=>?_
  ·clear hm0
   exact wx w0 (Aln) (Am3) Z4 26 [false] [] [] 0 [] _ hC [pq (Bf hl0)] hn0
  ·unfold V_ at h
   obtain⟨y1,h2,h⟩:=Az h
   rcases cB h with⟨h3,h⟩ | ⟨h3,h⟩
   ·have hq:=hret0 _ (hr0 _ (sI h).symm)
    replace hq:=sI hq
    subst hq
    exact wr Z4 35 [true,true] [pt hx0 hl0,pR pB h2] [] 0 [] hC [pq (A_ hi0 hl0),pq h3]
   ·exact wx w0b (vB x0 x2 x3 (n0+1)) (Aim x1 (n0+1)) Z4 36 [true,false] [pt hx0 hl0,pR pB h2] [] 0 [0] _ hC [pq (A_ hi0 hl0),pq h3] (sI h).symm
 ·have h:=hnext0 _ hs0
  replace h:=sI h
  subst h
  exact wr Z4 23 [] [] [] 0 [] hC []
theorem A5b:EN 120:=en Tryz.func120
theorem A31 (x0:Ai) (r:Bool) (h:Aqn x0=r):CO 101 [.agg (H5 x0)] [] (.d (Bo r)) []:=by
 unfold Aqn at h
 refine co 7 Tryz.func101 λ C hC=>?_
 subst h
 exact wr n3_ 25 [] [pl pI x0.An] [] 0 [] hC []
theorem A5g:EN 101:=en Tryz.func101
def Zr:List Nat:=[0,1,2,3,5,7,8,9,10,11]
def Ww (x1:List Int) (n0:Nat) (z0:(List Af)):St:=[(3,dO 4 0),(5,dO 5 0),(8,.d (DS pI x1)),(9,dI (ln x1)),(10,dI (cnt 0 n0))]
def yY (x0:Ab) (x2:Af) (n0:Nat) (z0:(List Af)):List Res:=[v2_ x0.Ag,v5_ z0,v0_ x0.Aq,v3_ x0.Ao,.box 39 [.os 0,.os 1,.os 2,.os 3],.box 93 (d93 x2)]
def Ae4  (z0:(List Af)):St:=[]
def Ahu (x0:Ab) (z0:(List Af)):List Res:=[v2_ x0.Ag,v5_ z0,v0_ x0.Aq,v3_ x0.Ao]
theorem An8 (x0:Ab) (x1:List Int) (x2:Af) (r:(List Af)) (h:Qz x0 x1 x2=some r):CO 68 [.agg [.os 0,.os 1,.os 2,.os 3],.d (DS pI x1),.agg (d93 x2)] (zp x0 []) (.tup []) [v2_ x0.Ag,v5_ r,v0_ x0.Aq,v3_ x0.Ao]:=by
 unfold Qz at h
 refine co 29 Tryz.func68 λ C hC=>?_
 refine ws Zr 25 [] [pl pI x1] [] 4 n6_ (Ww x1 0 x0.Ac) (yY x0 x2 0 x0.Ac) hC [] ?_
 obtain⟨w0,hm0,hret0,hnext0⟩:=Ar h
 clear h
 refine wc w0 (Ae4) (Ahu x0) ?_ λ z0 hs0=>?_
 ·refine wb ?_
  refine Bq 8 rfl λ hl0=>?_
  refine wl (Ww x1) (yY x0 x2) hm0 (λ z0 hn0=>?_) λ n0 a0 z0 w0b hi0 hx0 h hb0 hr0=>?_
  ·clear hm0
   exact wx w0 (Ae4) (Ahu x0) Zr 26 [false] [] [] 4 n4_ _ hC [pq (Bf hl0)] hn0
  ·unfold Yr at h
   obtain⟨y1,h2,y3,h4,y5,h6,y7,h8,h⟩:=Co h
   exact wx w0b (Ww x1 (n0+1)) (yY x0 x2 (n0+1)) Zr 33 [true] [pt hx0 hl0,pr q93 h2,pu q93 h2 h4,pr q93 h6,pu q93 h6 h8] [] 4 n6_ _ hC [pq (A_ hi0 hl0)] (sI h).symm
 ·have h:=hnext0 _ hs0
  replace h:=sI h
  subst h
  exact wf Zr 20 [] [] [] 4 n4_ hC []
theorem Aoo:EN 68:=en Tryz.func68
theorem k49 (x0:A5) (r:Bool) (h:F49 x0=r):CO 49 [.agg (d33 x0)] [] (.d (Bo r)) []:=by
 unfold F49 at h
 refine co 33 Tryz.func49 λ C hC=>?_
 subst h
 exact wr n3_ 25 [] [] [] 0 [] hC []
theorem e49:EN 49:=en Tryz.func49
def vT:List Nat:=[0,1,4,5,10,12,13,14,24]
def Ad1 (x0:List Bool) (x1:List Bool) (n0:Nat) (z0:Unit):St:=[(0,.d (DS pB x0)),(1,.d (DS pB x1)),(4,dB false),(12,dI (ln x0)),(13,dI (cnt 0 n0))]
def Apk  (n0:Nat) (z0:Unit):List Res:=[]
def Ark  (z0:Unit):St:=[(4,dB false)]
def Ava  (z0:Unit):List Res:=[]
theorem k69 (x0:List Bool) (x1:List Bool) (r:Bool) (h:F69 x0 x1=some r):CO 69 [.d (DS pB x0),.d (DS pB x1)] [] (.d (Bo r)) []:=by
 unfold F69 at h
 refine co 26 Tryz.func69 λ C hC=>?_
 rcases cB h with⟨h1,h⟩ | ⟨h1,h⟩
 ·replace h:=sI h
  subst h
  exact wr vT 29 [true] [pl pB x0,pl pB x1] [] 0 [] hC [pq h1]
 ·refine ws vT 31 [false] [pl pB x0,pl pB x1,pl pB x0] [] 0 [] (Ad1 x0 x1 0 ()) (Apk 0 ()) hC [pq h1] ?_
  obtain⟨w0,hm0,hret0,hnext0⟩:=Ar h
  clear h
  refine wc w0 (Ark) (Ava) ?_ λ z0 hs0=>?_
  ·refine wb ?_
   refine Bq 0 rfl λ hl0=>?_
   refine wl (Ad1 x0 x1) (Apk) hm0 (λ z0 hn0=>?_) λ n0 a0 z0 w0b hi0 hx0 h hb0 hr0=>?_
   ·clear hm0
    exact wx w0 (Ark) (Ava) vT 26 [false] [] [] 0 [] _ hC [pq (Bf hl0)] hn0
   ·unfold qP at h
    obtain⟨y2,h3,h⟩:=Az h
    rcases cB h with⟨h4,h⟩ | ⟨h4,h⟩
    ·have hq:=hret0 _ (hr0 _ (sI h).symm)
     replace hq:=sI hq
     subst hq
     exact wr vT 35 [true,true] [pt hx0 hl0,pr pB h3] [] 0 [] hC [pq (A_ hi0 hl0),pq h4]
    ·exact wx w0b (Ad1 x0 x1 (n0+1)) (Apk (n0+1)) vT 36 [true,false] [pt hx0 hl0,pr pB h3] [] 0 [] _ hC [pq (A_ hi0 hl0),pq h4] (sI h).symm
  ·have h:=hnext0 _ hs0
   replace h:=sI h
   subst h
   exact wr vT 23 [] [] [] 0 [] hC []
theorem e69:EN 69:=en Tryz.func69
def vS:List Nat:=[0,1,4,5,10,12,13,14,24]
def Ad0 (x0:List Af) (x1:List Af) (n0:Nat) (z0:Unit):St:=[(0,.d (DS q93 x0)),(1,.d (DS q93 x1)),(4,dB false),(12,dI (ln x0)),(13,dI (cnt 0 n0))]
def Apj  (n0:Nat) (z0:Unit):List Res:=[]
def Arj  (z0:Unit):St:=[(4,dB false)]
def Au9  (z0:Unit):List Res:=[]
theorem k70 (x0:List Af) (x1:List Af) (r:Bool) (h:F70 x0 x1=some r):CO 70 [.d (DS q93 x0),.d (DS q93 x1)] [] (.d (Bo r)) []:=by
 unfold F70 at h
 refine co 26 Tryz.func70 λ C hC=>?_
 rcases cB h with⟨h1,h⟩ | ⟨h1,h⟩
 ·replace h:=sI h
  subst h
  exact wr vS 29 [true] [pl q93 x0,pl q93 x1] [] 0 [] hC [pq h1]
 ·refine ws vS 31 [false] [pl q93 x0,pl q93 x1,pl q93 x0] [] 0 [] (Ad0 x0 x1 0 ()) (Apj 0 ()) hC [pq h1] ?_
  obtain⟨w0,hm0,hret0,hnext0⟩:=Ar h
  clear h
  refine wc w0 (Arj) (Au9) ?_ λ z0 hs0=>?_
  ·refine wb ?_
   refine Bq 0 rfl λ hl0=>?_
   refine wl (Ad0 x0 x1) (Apj) hm0 (λ z0 hn0=>?_) λ n0 a0 z0 w0b hi0 hx0 h hb0 hr0=>?_
   ·clear hm0
    exact wx w0 (Arj) (Au9) vS 26 [false] [] [] 0 [] _ hC [pq (Bf hl0)] hn0
   ·unfold qO at h
    obtain⟨y2,h3,h⟩:=Az h
    rcases cB h with⟨h4,h⟩ | ⟨h4,h⟩
    ·have hq:=hret0 _ (hr0 _ (sI h).symm)
     replace hq:=sI hq
     subst hq
     exact wr vS 35 [true,true] [pt hx0 hl0,pr q93 h3] [] 0 [] hC [pq (A_ hi0 hl0),pq h4]
    ·exact wx w0b (Ad0 x0 x1 (n0+1)) (Apj (n0+1)) vS 36 [true,false] [pt hx0 hl0,pr q93 h3] [] 0 [] _ hC [pq (A_ hi0 hl0),pq h4] (sI h).symm
  ·have h:=hnext0 _ hs0
   replace h:=sI h
   subst h
   exact wr vS 23 [] [] [] 0 [] hC []
theorem e70:EN 70:=en Tryz.func70
def vR:List Nat:=[0,1,4,5,10,12,13,14,24]
def Adz (x0:List Int) (x1:List Int) (n0:Nat) (z0:Unit):St:=[(0,.d (DS pI x0)),(1,.d (DS pI x1)),(4,dB false),(12,dI (ln x0)),(13,dI (cnt 0 n0))]
def Api  (n0:Nat) (z0:Unit):List Res:=[]
def Ari  (z0:Unit):St:=[(4,dB false)]
def Au8  (z0:Unit):List Res:=[]
theorem k71 (x0:List Int) (x1:List Int) (r:Bool) (h:F71 x0 x1=some r):CO 71 [.d (DS pI x0),.d (DS pI x1)] [] (.d (Bo r)) []:=by
 unfold F71 at h
 refine co 26 Tryz.func71 λ C hC=>?_
 rcases cB h with⟨h1,h⟩ | ⟨h1,h⟩
 ·replace h:=sI h
  subst h
  exact wr vR 29 [true] [pl pI x0,pl pI x1] [] 0 [] hC [pq h1]
 ·refine ws vR 31 [false] [pl pI x0,pl pI x1,pl pI x0] [] 0 [] (Adz x0 x1 0 ()) (Api 0 ()) hC [pq h1] ?_
  obtain⟨w0,hm0,hret0,hnext0⟩:=Ar h
  clear h
  refine wc w0 (Ari) (Au8) ?_ λ z0 hs0=>?_
  ·refine wb ?_
   refine Bq 0 rfl λ hl0=>?_
   refine wl (Adz x0 x1) (Api) hm0 (λ z0 hn0=>?_) λ n0 a0 z0 w0b hi0 hx0 h hb0 hr0=>?_
   ·clear hm0
    exact wx w0 (Ari) (Au8) vR 26 [false] [] [] 0 [] _ hC [pq (Bf hl0)] hn0
   ·unfold qN at h
    obtain⟨y2,h3,h⟩:=Az h
    rcases cB h with⟨h4,h⟩ | ⟨h4,h⟩
    ·have hq:=hret0 _ (hr0 _ (sI h).symm)
     replace hq:=sI hq
     subst hq
     exact wr vR 35 [true,true] [pt hx0 hl0,pr pI h3] [] 0 [] hC [pq (A_ hi0 hl0),pq h4]
    ·exact wx w0b (Adz x0 x1 (n0+1)) (Api (n0+1)) vR 36 [true,false] [pt hx0 hl0,pr pI h3] [] 0 [] _ hC [pq (A_ hi0 hl0),pq h4] (sI h).symm
  ·have h:=hnext0 _ hs0
   replace h:=sI h
   subst h
   exact wr vR 23 [] [] [] 0 [] hC []
theorem e71:EN 71:=en Tryz.func71
def vQ:List Nat:=[0,1,4,5,10,12,13,14,24]
def Ady (x0:List Ak) (x1:List Ak) (n0:Nat) (z0:Unit):St:=[(0,.d (DS q96 x0)),(1,.d (DS q96 x1)),(4,dB false),(12,dI (ln x0)),(13,dI (cnt 0 n0))]
def Aph  (n0:Nat) (z0:Unit):List Res:=[]
def Arh  (z0:Unit):St:=[(4,dB false)]
def Au7  (z0:Unit):List Res:=[]
theorem k72 (x0:List Ak) (x1:List Ak) (r:Bool) (h:F72 x0 x1=some r):CO 72 [.d (DS q96 x0),.d (DS q96 x1)] [] (.d (Bo r)) []:=by
 unfold F72 at h
 refine co 26 Tryz.func72 λ C hC=>?_
 rcases cB h with⟨h1,h⟩ | ⟨h1,h⟩
 ·replace h:=sI h
  subst h
  exact wr vQ 29 [true] [pl q96 x0,pl q96 x1] [] 0 [] hC [pq h1]
 ·refine ws vQ 31 [false] [pl q96 x0,pl q96 x1,pl q96 x0] [] 0 [] (Ady x0 x1 0 ()) (Aph 0 ()) hC [pq h1] ?_
  obtain⟨w0,hm0,hret0,hnext0⟩:=Ar h
  clear h
  refine wc w0 (Arh) (Au7) ?_ λ z0 hs0=>?_
  ·refine wb ?_
   refine Bq 0 rfl λ hl0=>?_
   refine wl (Ady x0 x1) (Aph) hm0 (λ z0 hn0=>?_) λ n0 a0 z0 w0b hi0 hx0 h hb0 hr0=>?_
   ·clear hm0
    exact wx w0 (Arh) (Au7) vQ 26 [false] [] [] 0 [] _ hC [pq (Bf hl0)] hn0
   ·unfold qM at h
    obtain⟨y2,h3,h⟩:=Az h
    rcases cB h with⟨h4,h⟩ | ⟨h4,h⟩
    ·have hq:=hret0 _ (hr0 _ (sI h).symm)
     replace hq:=sI hq
     subst hq
     exact wr vQ 35 [true,true] [pt hx0 hl0,pr q96 h3] [] 0 [] hC [pq (A_ hi0 hl0),pq h4]
    ·exact wx w0b (Ady x0 x1 (n0+1)) (Aph (n0+1)) vQ 36 [true,false] [pt hx0 hl0,pr q96 h3] [] 0 [] _ hC [pq (A_ hi0 hl0),pq h4] (sI h).symm
  ·have h:=hnext0 _ hs0
   replace h:=sI h
   subst h
   exact wr vQ 23 [] [] [] 0 [] hC []
theorem e72:EN 72:=en Tryz.func72
theorem Azg (x0:Int) (x1:As) (r:Bool) (h:Q0 x0 x1=r):CO 48 [.d (I x0),.d (.ip [.v (.int .i64 x1.Time),.s (x1.Power.Ag.map pB),.s (x1.Power.Ac.map q93),.s (x1.Power.Aq.map pI),.s (x1.Power.Ao.map q96),.s (x1.A1.map q84),.s (x1.A8.map q65)])] [] (.d (Bo r)) []:=by
 unfold Q0 at h
 refine co 12 Tryz.func48 λ C hC=>?_
 subst h
 exact wr [0,1,3] 25 [] [] [] 0 [] hC []
theorem Azl:EN 48:=en Tryz.func48
theorem k30 (x0:As) (r:As) (h:F30 x0=some r):CO 30 [.agg (d43 x0)] [] (.agg [I r.Time,.os 0,.os 1,.os 2,.os 3,.os 4,.os 5]) (zp r.Power [v4_ r.A1,v1_ r.A8]):=by
 unfold F30 at h
 refine co 36 Tryz.func30 λ C hC=>?_
 obtain⟨y1,h2,y3,h4,y5,h6,y7,h8,h⟩:=Co h
 obtain⟨y9,h10,y11,h12,h⟩:=Bc h
 replace h:=sI h
 subst h
 exact wr n3_ 31 [] [⟨.app [] (x0.A1.map q84) 2 ((x0.A1.map q84).length*(16+1)) (y1.map q84),E0 q84 2 (λ _=>rfl) h2⟩,⟨.app [] (x0.A8.map q65) 5 ((x0.A8.map q65).length*(40+1)) (y3.map q65),E0 q65 5 (λ _=>rfl) h4⟩,⟨.app [] (x0.Power.Ag.map pB) 1 ((x0.Power.Ag.map pB).length*(1+1)) (y5.map pB),E0 pB 1 (λ _=>rfl) h6⟩,⟨.app [] (x0.Power.Ac.map q93) 4 ((x0.Power.Ac.map q93).length*(32+1)) (y7.map q93),E0 q93 4 (λ _=>rfl) h8⟩,⟨.app [] (x0.Power.Aq.map pI) 1 ((x0.Power.Aq.map pI).length*(8+1)) (y9.map pI),E0 pI 1 (λ _=>rfl) h10⟩,⟨.app [] (x0.Power.Ao.map q96) 2 ((x0.Power.Ao.map q96).length*(16+1)) (y11.map q96),E0 q96 2 (λ _=>rfl) h12⟩] [] 0 [7,9,11,13,3,5] hC []
theorem e30:EN 30:=en Tryz.func30
theorem A8v (x0:List Av) (r:List Av) (h:Aqm x0=some r):CO 102 [.d (.p (.s (x0.map q84)))] [] (.d (.os 0)) [v4_ r]:=by
 unfold Aqm at h
 refine co 8 Tryz.func102 λ C hC=>?_
 refine ws [0,4] 40 [] [] [] 0 [] [(0,.d (.p (.s (x0.map q84)))),(4,.d (.nq (x0.map q84)))] [] hC [] ?_
 refine Vv 4 (by kernel_rfl) (by kernel_rfl) rfl (λ hn=>?_) ?_
 ·have hx:x0=[]:=by cases x0 with | nil=>rfl | cons=>cases hn
  subst hx
  have hr:r=[]:=by simpa [appI] using h.symm
  subst hr
  exact wr [2] 40 [] [] [.own 2 84 2] 0 [0] hC []
 ·exact wr [2] 40 [] [⟨.own,trivial⟩,⟨.app [] (x0.map q84) 2 ((([]:List (List Pd)).length+(x0.map q84).length)*(16+1)) (r.map q84),Gp (l:=[]) q84 2 (λ _=>rfl) h⟩] [] 0 [1] hC []
theorem A9w:EN 102:=en Tryz.func102
theorem k79 (x0:List A6) (r:List A6) (h:F79 x0=some r):CO 79 [.d (.p (.s (x0.map q65)))] [] (.d (.os 0)) [v1_ r]:=by
 unfold F79 at h
 refine co 8 Tryz.func79 λ C hC=>?_
 refine ws [0,4] 40 [] [] [] 0 [] [(0,.d (.p (.s (x0.map q65)))),(4,.d (.nq (x0.map q65)))] [] hC [] ?_
 refine Vv 4 (by kernel_rfl) (by kernel_rfl) rfl (λ hn=>?_) ?_
 ·have hx:x0=[]:=by cases x0 with | nil=>rfl | cons=>cases hn
  subst hx
  have hr:r=[]:=by simpa [appI] using h.symm
  subst hr
  exact wr [2] 40 [] [] [.own 2 65 5] 0 [0] hC []
 ·exact wr [2] 40 [] [⟨.own,trivial⟩,⟨.app [] (x0.map q65) 5 ((([]:List (List Pd)).length+(x0.map q65).length)*(40+1)) (r.map q65),Gp (l:=[]) q65 5 (λ _=>rfl) h⟩] [] 0 [1] hC []
theorem e79:EN 79:=en Tryz.func79
def Z2:List Nat:=[0,1,2,3,6,7,8,9,14,19,23]
theorem Xs (x0:Aa) (x1:Int) (x2:Int) (r:Bool) (h:J0 x0 x1 x2=r):CO 135 [.agg (d30 x0),.d (I x1),.d (I x2)] [] (.d (Bo r)) []:=by
 unfold J0 at h
 refine co 35 Tryz.func135 λ C hC=>?_
 rcases cB h with⟨h1,h⟩ | ⟨h1,h⟩
 ·subst h
  exact wr Z2 36 [true] [pl q72 x0.Ac] [] 0 [] hC [pq h1]
 ·rcases cB h with⟨h2,h⟩ | ⟨h2,h⟩
  ·subst h
   exact wr Z2 39 [false,true] [pl q70 x0.Ad] [] 0 [] hC [pq h1,pq h2]
  ·rcases cB h with⟨h3,h⟩ | ⟨h3,h⟩
   ·subst h
    exact wr Z2 42 [false,false,true] [] [] 0 [] hC [pq h1,pq h2,pq h3]
   ·rcases cB h with⟨h4,h⟩ | ⟨h4,h⟩
    ·subst h
     exact wr Z2 45 [false,false,false,true] [pl q81 x0.Ae] [] 0 [] hC [pq h1,pq h2,pq h3,pq h4]
    ·subst h
     exact wr Z2 45 [false,false,false,false] [] [] 0 [] hC [pq h1,pq h2,pq h3,pq h4]
theorem Xy:EN 135:=en Tryz.func135
def Zt:List Nat:=[0,1,3,4,5,7,8,9,16]
def uQ (x0:List Ak) (n0:Nat) (z0:Unit):St:=[(0,.d (DS q96 x0)),(3,dO 0 0),(4,dI 0),(7,dI (ln x0)),(8,dI (cnt 0 n0))]
def Ah9 (x1:Ak) (n0:Nat) (z0:Unit):List Res:=[.box 96 (d96 x1)]
def Ak6  (z0:Unit):St:=[(4,dI 0)]
def Amm  (z0:Unit):List Res:=[]
theorem A70 (x0:List Ak) (x1:Ak) (r:Int) (h:Aqi x0 x1=some r):CO 208 [.d (DS q96 x0),.agg (d96 x1)] [] (.d (I r)) []:=by
 unfold Aqi at h
 refine co 19 Tryz.func208 λ C hC=>?_
 refine ws Zt 26 [] [pl q96 x0] [] 0 [0] (uQ x0 0 ()) (Ah9 x1 0 ()) hC [] ?_
 obtain⟨w0,hm0,hret0,hnext0⟩:=Ar h
 clear h
 refine wc w0 (Ak6) (Amm) ?_ λ z0 hs0=>?_
 ·refine wb ?_
  refine Bq 0 rfl λ hl0=>?_
  refine wl (uQ x0) (Ah9 x1) hm0 (λ z0 hn0=>?_) λ n0 a0 z0 w0b hi0 hx0 h hb0 hr0=>?_
  ·clear hm0
   exact wx w0 (Ak6) (Amm) Zt 26 [false] [] [] 0 [] _ hC [pq (Bf hl0)] hn0
  ·unfold Am9 at h
   rcases cB h with⟨h1,h⟩ | ⟨h1,h⟩
   ·have hq:=hret0 _ (hr0 _ (sI h).symm)
    replace hq:=sI hq
    subst hq
    exact wr Zt 35 [true,true] [pt hx0 hl0] [] 0 [] hC [pq (A_ hi0 hl0),pq h1]
   ·exact wx w0b (uQ x0 (n0+1)) (Ah9 x1 (n0+1)) Zt 36 [true,false] [pt hx0 hl0] [] 0 [0] _ hC [pq (A_ hi0 hl0),pq h1] (sI h).symm
 ·have h:=hnext0 _ hs0
  replace h:=sI h
  subst h
  exact wr Zt 23 [] [] [] 0 [] hC []
theorem A81:EN 208:=en Tryz.func208
theorem An9 (x0:Int) (r:Int) (h:Gu x0=r):CO 202 [.d (I x0)] [] (.d (I r)) []:=by
 unfold Gu at h
 refine co 10 Tryz.func202 λ C hC=>?_
 rcases cB h with⟨h1,h⟩ | ⟨h1,h⟩
 ·subst h
  exact wr [0,2,6] 32 [true] [⟨.nz 3600,Zo rfl⟩] [] 0 [] hC [pq h1]
 ·subst h
  exact wr [0,2,6] 32 [false] [⟨.nz 3600,Zo rfl⟩] [] 0 [] hC [pq h1]
theorem Aop:EN 202:=en Tryz.func202
theorem A2v (x0:Aj) (x1:Int) (r:Bool) (h:qU x0 x1=r):CO 211 [.agg (d70 x0),.d (.ip [.v (.int .i64 x1)])] [] (.d (Bo r)) []:=by
 unfold qU at h
 refine co 13 Tryz.func211 λ C hC=>?_
 subst h
 exact wr n4_ 25 [] [] [] 0 [] hC []
theorem A4a:EN 211:=en Tryz.func211
theorem A3n (x0:A2) (x1:Int) (x2:Int) (r:Int×A2) (h:Ul x0 x1 x2=some r):CO 141 [.d (.o 0 0),.d (I x1),.d (I x2)] (.box 175 (zb x0.Al [.os 1,.os 2,.os 3,.os 4,I x0.time])::zp x0.Au []) (.d (I r.1)) (.box 175 (zb r.2.Al [.os 1,.os 2,.os 3,.os 4,I r.2.time])::zp r.2.Au []):=by
 unfold Ul at h
 refine co 30 Tryz.func141 λ C hC=>?_
 obtain⟨y1,h2,h⟩:=Az h
 rcases cB h with⟨h3,h⟩ | ⟨h3,h⟩
 ·replace h:=sI h
  subst h
  exact wr [0,1,2,6,21] 29 [true] [pR q81 h2] [] 5 n5_ hC [pq h3]
 ·obtain⟨y4,h5,y6,h7,h⟩:=Bc h
  replace h:=sI h
  subst h
  exact wr [0,1,2,6,21] 32 [false] [pR q81 h2,pr pI h5,pu pI h5 h7] [] 5 n5_ hC [pq h3]
theorem A42:EN 141:=en Tryz.func141
theorem A25 (x0:Ak) (x1:Ak) (r:Int) (h:Q7 x0 x1=r):CO 178 [.agg (d96 x0),.agg (d96 x1)] [] (.d (I r)) []:=by
 unfold Q7 at h
 refine co 20 Tryz.func178 λ C hC=>?_
 rcases cB h with⟨h1,h⟩ | ⟨h1,h⟩
 ·subst h
  exact wr [0,1,2,3,4,9] 29 [true] [] [] 0 [] hC [pq h1]
 ·subst h
  exact wr [0,1,2,3,4,9] 30 [false] [] [] 0 [] hC [pq h1]
theorem A4k:EN 178:=en Tryz.func178
def yA:List Nat:=[0,1,2,6,7,8,9,16,22,31,68]
theorem A24 (x0:List Ak) (x1:Int) (x2:List Ak) (r:(List Ak)) (h:O7 x0 x1 x2=some r):CO 179 [.d (.os 0),.d (I x1),.d (DS q96 x2)] [v3_ x0] (.d (.os 1)) [.non,v3_ r]:=by
 by_cases hh:((ln x2)==0)=false/\(x1==(ln x0))=false
 ·unfold O7 at h
  exact A1i (enc:=q96) (λ _=>rfl) hh.1 hh.2 h
 unfold O7 at h
 refine co 95 Tryz.func179 λ C hC=>?_
 obtain⟨u2,h1,h⟩:=Az h
 rcases cB h with⟨h3,h⟩ | ⟨h3,h⟩
 ·replace h:=sI h
  subst h
  exact wr yA 33 [true] [⟨.bnd (x0.map q96).length x1 (((x0.map q96).length:Nat):Int) (ln x0),E_ (by simp) (by simp) h1⟩,pl q96 x2] [.mv 0] 1 [0,1] hC [pq h3]
 ·refine wn yA 37 [false] [⟨.bnd (x0.map q96).length x1 (((x0.map q96).length:Nat):Int) (ln x0),E_ (by simp) (by simp) h1⟩,pl q96 x2,pl q96 x0] [] 1 [0] [0,1,2,6,7,8,22] hC [pq h3] ?_
  rcases cB h with⟨h4,h⟩ | ⟨h4,h⟩
  ·obtain⟨y5,h6,h⟩:=Az h
   replace h:=sI h
   subst h
   exact wr yA 24 [true] [pa q96 2 h6] [] 1 [0,1] hC [pq h4]
  ·exact absurd ⟨h3,h4⟩ hh
theorem A4j:EN 179:=en Tryz.func179
theorem A23 (x0:List Ak) (x1:Int) (x2:Int) (r:(List Ak)) (h:T2 x0 x1 x2=some r):CO 180 [.d (.os 0),.d (I x1),.d (I x2)] [.sl 96 2 (x0.map q96)] (.d (.os 1)) [.non,.sl 96 2 (r.map q96)]:=by
 unfold T2 at h
 refine co 33 Tryz.func180 λ C hC=>?_
 obtain⟨u2,h1,h⟩:=Az h
 rcases cB h with⟨h3,h⟩ | ⟨h3,h⟩
 ·replace h:=sI h
  subst h
  exact wr [0,1,2,6,7,16] 31 [true] [pl q96 x0,⟨.bnd3 (x0.map q96).length x1 x2 (ln x0),Ahm (by simp) h1⟩] [.mv 0] 1 [0,1] hC [pq h3]
 ·obtain⟨u5,h4,u7,h6,y8,h9,u11,h10,h⟩:=Co h
  replace h:=sI h
  subst h
  (rw [List.map_take];exact jZ (bs:=[((x1==x2),false)]) mixed [0,1,2,6,7,16] 38 [false] [.len (ln (x0.map q96)) (ln x0),.bnd3 (x0.map q96).length x1 x2 (ln x0),.len (ln (x0.map q96)) (ln x0),.bnd (x0.map q96).length 0 x1 x1,.bnd (x0.map q96).length x2 (((x0.map q96).length:Nat):Int) (ln x0),.appP (x0.map q96) (((x0.map q96).drop (Int.toNat x2)).take ((Int.toNat (ln x0))-(Int.toNat x2))) 2 ((Int.toNat x1)-0) (((Int.toNat x1)-0)+((x0.drop (Int.toNat x2)).take ((Int.toNat (ln x0))-(Int.toNat x2))).length) ((x0.map q96).take ((Int.toNat x1)-0)++((((x0.map q96).drop (Int.toNat x2)).take ((Int.toNat (ln x0))-(Int.toNat x2)))++(x0.map q96).drop (((Int.toNat x1)-0)+(((x0.map q96).drop (Int.toNat x2)).take ((Int.toNat (ln x0))-(Int.toNat x2))).length))) (y8.map q96),.len (((((Int.toNat x1)-0)+((x0.drop (Int.toNat x2)).take ((Int.toNat (ln x0))-(Int.toNat x2))).length):Nat):Int) (((((Int.toNat x1)-0)+((x0.drop (Int.toNat x2)).take ((Int.toNat (ln x0))-(Int.toNat x2))).length):Nat):Int),.bnd ((y8.map q96).length-0) (((((Int.toNat x1)-0)+((x0.drop (Int.toNat x2)).take ((Int.toNat (ln x0))-(Int.toNat x2))).length):Nat):Int) (ln x0) (ln x0),.eqr ((y8.map q96).take (0+(Int.toNat (((((Int.toNat x1)-0)+((x0.drop (Int.toNat x2)).take ((Int.toNat (ln x0))-(Int.toNat x2))).length):Nat):Int)))++(List.replicate ((Int.toNat (ln x0))-(Int.toNat (((((Int.toNat x1)-0)+((x0.drop (Int.toNat x2)).take ((Int.toNat (ln x0))-(Int.toNat x2))).length):Nat):Int))) (q96 (⟨0,0⟩:Ak))++(y8.map q96).drop ((0+(Int.toNat (((((Int.toNat x1)-0)+((x0.drop (Int.toNat x2)).take ((Int.toNat (ln x0))-(Int.toNat x2))).length):Nat):Int)))+((Int.toNat (ln x0))-(Int.toNat (((((Int.toNat x1)-0)+((x0.drop (Int.toNat x2)).take ((Int.toNat (ln x0))-(Int.toNat x2))).length):Nat):Int)))))) ((F5 y8 (0+(Int.toNat (((((Int.toNat x1)-0)+((x0.drop (Int.toNat x2)).take ((Int.toNat (ln x0))-(Int.toNat x2))).length):Nat):Int))) ((Int.toNat (ln x0))-(Int.toNat (((((Int.toNat x1)-0)+((x0.drop (Int.toNat x2)).take ((Int.toNat (ln x0))-(Int.toNat x2))).length):Nat):Int))) (⟨0,0⟩:Ak)).map q96)] [.trunc 6] [.tmp 6] 1 [0,1] rfl hC ⟨Vh _ _,Ahm (by simp) h1,Vh _ _,E_ (by simp) rfl h4,E_ (by simp) (by simp) h6,Ayq q96 2 (λ _=>rfl) (Afp _ _ _ _) h9,rfl,E_ (by simp) rfl h10,yP q96 rfl,trivial⟩ ⟨h3,trivial⟩ (by kernel_rfl))
theorem A4i:EN 180:=en Tryz.func180
theorem As7 (x0:A4) (x1:Am) (x2:Int) (r:A4) (h:Pb x0 x1 x2=some r):CO 103 [.d (.o 0 0),.agg (d63 x1),.d (I x2)] (.box 119 (I x0.A0.Time :: .os 1 :: .os 2 :: .os 3 :: .os 4 :: .os 5 :: .os 6::zb x0.Al [.os 7,.os 8])::zp x0.A0.Power [v4_ x0.A0.A1,v1_ x0.A0.A8,v1_ x0.events,v7_ x0.states]) (.tup []) (.box 119 (I r.A0.Time :: .os 1 :: .os 2 :: .os 3 :: .os 4 :: .os 5 :: .os 6::zb r.Al [.os 9,.os 8])::zp r.A0.Power [v4_ r.A0.A1,v1_ r.A0.A8,.non,v7_ r.states,v1_ r.events]):=by
 unfold Pb at h
 refine co 23 Tryz.func103 λ C hC=>?_
 obtain⟨y1,h2,h⟩:=Az h
 replace h:=sI h
 subst h
 exact wf [0,1,2,4] 23 [] [pa q65 5 h2] [] 9 [0,1,2,3,4,5,6,7,8,10] hC []
theorem At1:EN 103:=en Tryz.func103
theorem Af8 (x0:Ay) (x1:Int) (r:Ay) (h:My x0 x1=some r):CO 188 [.d (.o 0 0),.d (I x1)] (.box 214 (zb x0.Al [.os 1,.os 2,.os 3,.os 4,.os 5])::zp x0.Au [v6_ x0.acts]) (.tup []) (.box 214 (zb r.Al [.os 1,.os 2,.os 3,.os 4,.os 6])::zp r.Au [.non,v6_ r.acts]):=by
 unfold My at h
 refine co 22 Tryz.func188 λ C hC=>?_
 obtain⟨y1,h2,y3,h4,y5,h6,h⟩:=B0 h
 replace h:=sI h
 subst h
 exact wf [0,1] 23 [] [pr pB h2,pu pB h2 h4,pa q63 3 h6] [] 6 n7_ hC []
theorem Ag0:EN 188:=en Tryz.func188
theorem A2y (x0:Aj) (x1:Int) (r:Bool) (h:T0 x0 x1=r):CO 194 [.agg (d70 x0),.d (.ip [.v (.int .i64 x1)])] [] (.d (Bo r)) []:=by
 unfold T0 at h
 refine co 13 Tryz.func194 λ C hC=>?_
 subst h
 exact wr n4_ 25 [] [] [] 0 [] hC []
theorem A4d:EN 194:=en Tryz.func194
theorem A75 (x0:Int) (x1:Int) (r:Int×Int) (h:Aqk x0 x1=r):CO 196 [.d (.p (.v (.int .u64 x0))),.d (.p (.v (.int .u64 x1)))] [] (.tup [.d (.p (.v (.int .u64 r.1))),.d (.p (.v (.int .u64 r.2)))]) []:=by
 unfold Aqk at h
 refine co 51 Tryz.func196 λ C hC=>?_
 subst h
 exact wr [0,1,4,5,6,7,8,9,10,11,12,13] 45 [] [] [] 0 [] hC []
theorem A86:EN 196:=en Tryz.func196
theorem As5 (x0:Int) (x1:Int) (r:Bool) (h:Kr x0 x1=r):CO 128 [.d (I x0),.d (.ip [.v (.int .i64 x1)])] [] (.d (Bo r)) []:=by
 unfold Kr at h
 refine co 11 Tryz.func128 λ C hC=>?_
 subst h
 exact wr [0,1,3] 25 [] [] [] 0 [] hC []
theorem Atz:EN 128:=en Tryz.func128
theorem A8a (x0:List Int):CO 165 [.d (.p (.s (x0.map pI)))] [] (.d (.fn (.func 197) [] [.o 0 0])) [.box 22 [.p (.s (x0.map pI))]]:=by
 refine co 4 Tryz.func165 λ C hC=>?_
 exact wr [1,2] 40 [] [] [] 0 [0] hC []
theorem A9b:EN 165:=en Tryz.func165
theorem A26 (x0:Aj) (x1:Int) (r:Bool) (h:qZ x0 x1=r):CO 173 [.agg (d70 x0),.d (.ip [.v (.int .i64 x1)])] [] (.d (Bo r)) []:=by
 unfold qZ at h
 refine co 13 Tryz.func173 λ C hC=>?_
 subst h
 exact wr n4_ 25 [] [] [] 0 [] hC []
theorem A4l:EN 173:=en Tryz.func173
theorem A3r (x0:Int) (x1:Bool) (x2:Int) (r:Int) (h:Im x0 x1 x2=r):CO 130 [.d (I x0),.d (Bo x1),.d (I x2)] [] (.d (I r)) []:=by
 unfold Im at h
 refine co 15 Tryz.func130 λ C hC=>?_
 rcases cB h with⟨h1,h⟩ | ⟨h1,h⟩
 ·subst h
  exact wr [0,1,2,6,7,10] 30 [true] [] [] 0 [] hC [pq h1]
 ·rcases cB h with⟨h2,h⟩ | ⟨h2,h⟩
  ·subst h
   exact wr [0,1,2,6,7,10] 33 [false,true] [] [] 0 [] hC [pq h1,pq h2]
  ·subst h
   exact wr [0,1,2,6,7,10] 35 [false,false] [] [] 0 [] hC [pq h1,pq h2]
theorem A46:EN 130:=en Tryz.func130
theorem k42  (r:Int) (h:F42  = r):CO 42 [] [] (.d (.p (.v (.int .u64 r)))) []:=by
 unfold F42 at h
 refine co 1 Tryz.func42 λ C hC=>?_
 subst h
 exact wr [0] 25 [] [] [] 0 [] hC []
theorem e42:EN 42:=en Tryz.func42
theorem k22 (x0:As) (r:ByteArray) (h:F22 x0=some r):CO 22 [.agg (d43 x0)] [] (.d (.p (.v (.string r)))) []:=A6d x0 r h
theorem e22:EN 22:=en Tryz.func22
def An1:List Nat:=[0,1,4,6,8,9,10,11]
def Aej (y1:List Int) (n0:Nat) (z0:Int):St:=[(0,.d (.p (.v (.int .u64 z0)))),(4,.d (.p (.v (.int .u64 0)))),(8,.d (DS (pK .u8) y1)),(9,dI (ln y1)),(10,dI (cnt 0 n0))]
def Ap2  (n0:Nat) (z0:Int):List Res:=[]
def Ar7  (z0:Int):St:=[(0,.d (.p (.v (.int .u64 z0)))),(4,.d (.p (.v (.int .u64 0))))]
def Avx  (z0:Int):List Res:=[]
theorem k41 (x0:Int) (x1:ByteArray) (r:Int) (h:F41 x0 x1=some r):CO 41 [.d (.p (.v (.int .u64 x0))),.d (.p (.v (.string x1)))] [] (.d (.p (.v (.int .u64 r)))) []:=by
 unfold F41 at h
 refine co 21 Tryz.func41 λ C hC=>?_
 obtain⟨y1,h2,h⟩:=Az h
 refine ws An1 26 [] [⟨.room (x1.size:Int) (Ko x1) (y1.map (pK .u8)),Auq h2⟩,pl (pK .u8) y1] [] 0 [] (Aej y1 0 x0) (Ap2 0 x0) hC [] ?_
 obtain⟨w0,hm0,hret0,hnext0⟩:=Ar h
 clear h
 refine wc w0 (Ar7) (Avx) ?_ λ z0 hs0=>?_
 ·refine wb ?_
  refine Bq 8 rfl λ hl0=>?_
  refine wl (Aej y1) (Ap2) hm0 (λ z0 hn0=>?_) λ n0 a0 z0 w0b hi0 hx0 h hb0 hr0=>?_
  ·clear hm0
   exact wx w0 (Ar7) (Avx) An1 26 [false] [] [] 0 [] _ hC [pq (Bf hl0)] hn0
  ·unfold Awg at h
   exact wx w0b (Aej y1 (n0+1)) (Ap2 (n0+1)) An1 33 [true] [pt hx0 hl0] [] 0 [] _ hC [pq (A_ hi0 hl0)] (sI h).symm
 ·have h:=hnext0 _ hs0
  replace h:=sI h
  subst h
  exact wr An1 23 [] [] [] 0 [] hC []
theorem e41:EN 41:=en Tryz.func41
def vZ:List Nat:=[0,1,4,5,10,11,12,34]
def Aeo (x0:List Int) (x1:List Int) (z0:Int):St:=[(0,.d (DS (pK .u64) x0)),(1,.d (DS (pK .u64) x1)),(4,dI 0),(10,dI (max (ln x0) (ln x1))),(11,dI z0)]
def Ap7  (z0:Int):List Res:=[]
def Asc  (z0:Int):St:=[(4,dI 0)]
def Av2  (z0:Int):List Res:=[]
theorem k25 (x0:List Int) (x1:List Int) (r:Int) (h:F25 x0 x1=some r):CO 25 [.d (DS (pK .u64) x0),.d (DS (pK .u64) x1)] [] (.d (I r)) []:=by
 unfold F25 at h
 refine co 37 Tryz.func25 λ C hC=>?_
 refine ws vZ 26 [] [pl (pK .u64) x0,pl (pK .u64) x1] [] 0 [] (Aeo x0 x1 0) (Ap7 0) hC [] ?_
 obtain⟨w0,hm0,hret0,hnext0⟩:=Ar h
 clear h
 refine wc w0 (Asc) (Av2) ?_ λ z0 hs0=>?_
 ·refine wb ?_
  refine ww (Aeo x0 x1) (Ap7) hm0 λ z0 w0b h hb0 hr0=>?_
  unfold Awh at h
  rcases cB h with⟨h1,h⟩ | ⟨h1,h⟩
  ·obtain⟨y2,h3,y4,h5,h⟩:=Bc h
   refine wn vZ 32 [true] [pl (pK .u64) x0,pL_ [(decide (z0>=(ln x0)),false)] (pK .u64) x1,pR (pK .u64) h3,pR (pK .u64) h5] [] 0 [] [0,1,4,5,10,11,34] hC [pq h1] ?_
   rcases cB h with⟨h6,h⟩ | ⟨h6,h⟩
   ·have hq:=hret0 _ (hr0 _ (sI h).symm)
    replace hq:=sI hq
    subst hq
    exact wr vZ 24 [true] [] [] 0 [] hC [pq h6]
   ·exact wx w0b (Aeo x0 x1) (Ap7) vZ 25 [false] [] [] 0 [] _ hC [pq h6] (sI h).symm
  ·exact wx w0 (Asc) (Av2) vZ 26 [false] [] [] 0 [] z0 hC [pq h1] (hb0 _ (sI h).symm)
 ·have h:=hnext0 _ hs0
  replace h:=sI h
  subst h
  exact wr vZ 23 [] [] [] 0 [] hC []
theorem e25:EN 25:=en Tryz.func25
theorem k9 (x0:List Int) (r:Ah) (h:F9 x0=some r):CO 9 [.d (DS pI x0)] [] (.d (.o 0 0)) [.box 77 (d77 r)]:=by
 unfold F9 at h
 refine co 10 Tryz.func9 λ C hC=>?_
 obtain⟨y2,h1,h⟩:=Az h
 replace h:=sI h
 subst h
 exact wr [0,2] 25 [] [pl pI x0,⟨.cut (x0.map pI) 1 0 (min (ln x0) 600) (y2.map pI),Vp pI 1 (λ _=>rfl) h1⟩] [] 0 [0] hC []
theorem e9:EN 9:=en Tryz.func9
theorem k35 (x0:Int) (x1:Int) (r:Int) (h:F35 x0 x1=some r):CO 35 [.d (I x0),.d (I x1)] [] (.d (I r)) []:=by
 unfold F35 at h
 refine co 14 Tryz.func35 λ C hC=>?_
 rcases cB h with⟨h1,h⟩ | ⟨h1,h⟩
 ·replace h:=sI h
  subst h
  exact wr [0,1,4,6] 29 [true] [] [] 0 [] hC [pq h1]
 ·obtain⟨u3,h2,u5,h4,h⟩:=Bc h
  replace h:=sI h
  subst h
  exact wr [0,1,4,6] 30 [false] [⟨.nz x1,Zp h2⟩,⟨.nz x1,Zp h4⟩] [] 0 [] hC [pq h1]
theorem e35:EN 35:=en Tryz.func35
theorem k84 (x0:Ak) (x1:Ak) (r:Bool) (h:F84 x0 x1=r):CO 84 [.agg (d96 x0),.agg (d96 x1)] [] (.d (Bo r)) []:=by
 unfold F84 at h
 refine co 24 Tryz.func84 λ C hC=>?_
 subst h
 exact wr n5_ 25 [] [] [] 0 [] hC []
theorem e84:EN 84:=en Tryz.func84
theorem k37 (x0:Ab) (r:Ab) (h:F37 x0=some r):CO 37 [.agg (d39 x0)] [] (.agg [.os 0,.os 1,.os 2,.os 3]) (zp r []):=by
 unfold F37 at h
 refine co 16 Tryz.func37 λ C hC=>?_
 obtain⟨y1,h2,y3,h4,y5,h6,y7,h8,h⟩:=Co h
 replace h:=sI h
 subst h
 exact wr n3_ 25 [] [⟨.app [] (x0.Ag.map pB) 1 ((x0.Ag.map pB).length*(1+1)) (y1.map pB),E0 pB 1 (λ _=>rfl) h2⟩,⟨.app [] (x0.Ac.map q93) 4 ((x0.Ac.map q93).length*(32+1)) (y3.map q93),E0 q93 4 (λ _=>rfl) h4⟩,⟨.app [] (x0.Aq.map pI) 1 ((x0.Aq.map pI).length*(8+1)) (y5.map pI),E0 pI 1 (λ _=>rfl) h6⟩,⟨.app [] (x0.Ao.map q96) 2 ((x0.Ao.map q96).length*(16+1)) (y7.map q96),E0 q96 2 (λ _=>rfl) h8⟩] [] 0 [3,5,7,9] hC []
theorem e37:EN 37:=en Tryz.func37
def Hh:List Nat:=[0,1,2,3,4,6,7,8,9,10,11,19,20,21,23,24,25,26,53,65,66,67,72]
def uW (y5:List Bool) (n0:Nat) (z0:(List Bool)):St:=[(3,dO 0 0),(4,dO 1 0),(6,.d (DS pI [])),(7,dS 2),(19,dI (ln y5)),(20,dI (cnt 0 n0))]
def Aig (x0:Aa) (x1:Ab) (n0:Nat) (z0:(List Bool)):List Res:=[.box 30 (d30 x0),.box 39 (d39 x1),v2_ z0]
def Alg  (z0:(List Bool)):St:=[(6,.d (DS pI [])),(7,dS 0)]
def Amw  (z0:(List Bool)):List Res:=[v2_ z0]
def U1 (x0:Aa) (y5:List Bool) (n0:Nat) (n1:Nat) (z1:(List Bool)):St:=[(3,dO 0 0),(4,dO 1 0),(6,.d (DS pI [])),(7,dS 2),(19,dI (ln y5)),(20,dI (cnt 0 n0)),(23,.d (DS q70 x0.Ad)),(24,dI (ln x0.Ad)),(25,dI (cnt 0 n1))]
def qE (x0:Aa) (x1:Ab) (n1:Nat) (z1:(List Bool)):List Res:=[.box 30 (d30 x0),.box 39 (d39 x1),v2_ z1]
def Alf (y5:List Bool) (n0:Nat) (z1:(List Bool)):St:=[(3,dO 0 0),(4,dO 1 0),(6,.d (DS pI [])),(7,dS 2),(19,dI (ln y5)),(20,dI (cnt 0 n0))]
def Amv (x0:Aa) (x1:Ab) (z1:(List Bool)):List Res:=[.box 30 (d30 x0),.box 39 (d39 x1),v2_ z1]
def U0 (z0:(List Bool)) (n2:Nat) (z2:(List Int)):St:=[(6,.d (DS pI [])),(7,dS 0),(10,dS 1),(65,dI (ln z0)),(66,dI (cnt 0 n2))]
def qD (z0:(List Bool)) (n2:Nat) (z2:(List Int)):List Res:=[v2_ z0,v0_ z2]
def Ale  (z2:(List Int)):St:=[(6,.d (DS pI [])),(10,dS 0)]
def Amu  (z2:(List Int)):List Res:=[v0_ z2]
theorem A8f (x0:Aa) (x1:Ab) (x2:Int) (r:(List Int)) (h:Ajx x0 x1 x2=some r):CO 148 [.agg (d30 x0),.agg (d39 x1),.d (I x2)] [] (.d (.os 0)) [v0_ r]:=by
 unfold Ajx at h
 refine co 79 Tryz.func148 λ C hC=>?_
 obtain⟨y1,h2,y3,h4,y5,h6,h⟩:=B0 h
 refine ws Hh 30 [] [⟨.room (x0.An*(1+1)) (List.replicate (Int.toNat x0.An) (pB false)) (y1.map pB),Js h2⟩,pr pB h4,pu pB h4 h6,pl pB y5] [] 0 n3_ (uW y5 0 y5) (Aig x0 x1 0 y5) hC [] ?_
 obtain⟨w0,hm0,hret0,hnext0⟩:=Ar h
 clear h
 refine wc w0 (Alg) (Amw) ?_ λ z0 hs0=>?_
 ·refine wb ?_
  refine Cj 7 2 rfl rfl λ hl0=>?_
  refine wl (uW y5) (Aig x0 x1) hm0 (λ z0 hn0=>?_) λ n0 a0 z0 w0b hi0 hx0 h hb0 hr0=>?_
  ·clear hm0
   exact wx w0 (Alg) (Amw) Hh 26 [false] [] [] 0 [2] _ hC [pq (Bf hl0)] hn0
  ·unfold zO at h
   refine ws Hh 30 [true] [pl q70 x0.Ad] [] 0 n3_ (U1 x0 y5 n0 0 z0) (qE x0 x1 0 z0) hC [pq (A_ hi0 hl0)] ?_
   obtain⟨w1,hm1,hret1,hnext1⟩:=Ar h
   clear h
   refine wc w1 (Alf y5 n0) (Amv x0 x1) ?_ λ z1 hs1=>?_
   ·refine wb ?_
    refine Bq 23 rfl λ hl1=>?_
    refine wl (U1 x0 y5 n0) (qE x0 x1) hm1 (λ z1 hn1=>?_) λ n1 a1 z1 w1b hi1 hx1 h hb1 hr1=>?_
    ·clear hm1
     exact wx w1 (Alf y5 n0) (Amv x0 x1) Hh 26 [false] [] [] 0 n3_ _ hC [pq (Bf hl1)] hn1
    ·unfold zN at h
     obtain⟨y7,h8,y9,h10,y11,h12,h⟩:=B0 h
     refine wn Hh 32 [true] [pt hx1 hl1,pR pB h8,pR pB h10,pN pB h10,pR pB h12,pN pB h12] [] 0 n4_ [3,4,6,7,9,19,20,23,24,25,53] hC [pq (A_ hi1 hl1)] ?_
     rcases cB h with⟨h13,h⟩ | ⟨h13,h⟩
     ·obtain⟨y14,h15,y16,h17,y18,h19,y20,h21,h⟩:=Co h
      exact wx w1b (U1 x0 y5 n0 (n1+1)) (qE x0 x1 (n1+1)) Hh 25 [true] [pr pB h15,pu pB h15 h17,pr pB h19,pu pB h19 h21] [] 0 n3_ _ hC [pq h13] (sI h).symm
     ·exact wx w1b (U1 x0 y5 n0 (n1+1)) (qE x0 x1 (n1+1)) Hh 25 [false] [] [] 0 n3_ _ hC [pq h13] (sI h).symm
   ·have h:=hnext1 _ hs1
    exact wx w0b (uW y5 (n0+1)) (Aig x0 x1 (n0+1)) Hh 23 [] [] [] 0 n3_ _ hC [] (sI h).symm
 ·have h:=hnext0 _ hs0
  refine ws Hh 26 [] [pl pB z0] [.own 10 3 1] 0 [0,1] (U0 z0 0 ([]:List Int)) (qD z0 0 ([]:List Int)) hC [] ?_
  obtain⟨w2,hm2,hret2,hnext2⟩:=Ar h
  clear h
  refine wc w2 (Ale) (Amu) ?_ λ z2 hs2=>?_
  ·refine wb ?_
   refine Cj 7 0 rfl rfl λ hl2=>?_
   refine wl (U0 z0) (qD z0) hm2 (λ z2 hn2=>?_) λ n2 a2 z2 w2b hi2 hx2 h hb2 hr2=>?_
   ·clear hm2
    exact wx w2 (Ale) (Amu) Hh 26 [false] [] [] 0 [1] _ hC [pq (Bf hl2)] hn2
   ·unfold zM at h
    rcases cB h with⟨h22,h⟩ | ⟨h22,h⟩
    ·obtain⟨y23,h24,h⟩:=Az h
     exact wx w2b (U0 z0 (n2+1)) (qD z0 (n2+1)) Hh 36 [true,true] [pr pB (Bn hx2 hl2),pn pB (Bn hx2 hl2),pa pI 1 h24] [] 0 [0,2] _ hC [pq (A_ hi2 hl2),pq h22] (sI h).symm
    ·exact wx w2b (U0 z0 (n2+1)) (qD z0 (n2+1)) Hh 36 [true,false] [pr pB (Bn hx2 hl2),pn pB (Bn hx2 hl2)] [] 0 [0,1] _ hC [pq (A_ hi2 hl2),pq h22] (sI h).symm
  ·have h:=hnext2 _ hs2
   replace h:=sI h
   subst h
   exact wr Hh 23 [] [] [] 0 [0] hC []
theorem A9g:EN 148:=en Tryz.func148
def Zz:List Nat:=[0,1,4,6,7,8,9,10,15]
def uV (x0:List Int) (x1:Int) (n0:Nat) (z0:Unit):St:=[(1,dI x1),(4,dB false),(7,.d (DS pI x0)),(8,dI (ln x0)),(9,dI (cnt 0 n0))]
def Aif  (n0:Nat) (z0:Unit):List Res:=[]
def Ald  (z0:Unit):St:=[(4,dB false)]
def Amt  (z0:Unit):List Res:=[]
theorem A3k (x0:List Int) (x1:Int) (r:Bool) (h:zL x0 x1=some r):CO 150 [.d (DS pI x0),.d (I x1)] [] (.d (Bo r)) []:=by
 unfold zL at h
 refine co 17 Tryz.func150 λ C hC=>?_
 refine ws Zz 26 [] [pl pI x0] [] 0 [] (uV x0 x1 0 ()) (Aif 0 ()) hC [] ?_
 obtain⟨w0,hm0,hret0,hnext0⟩:=Ar h
 clear h
 refine wc w0 (Ald) (Amt) ?_ λ z0 hs0=>?_
 ·refine wb ?_
  refine Bq 7 rfl λ hl0=>?_
  refine wl (uV x0 x1) (Aif) hm0 (λ z0 hn0=>?_) λ n0 a0 z0 w0b hi0 hx0 h hb0 hr0=>?_
  ·clear hm0
   exact wx w0 (Ald) (Amt) Zz 26 [false] [] [] 0 [] _ hC [pq (Bf hl0)] hn0
  ·unfold V8 at h
   rcases cB h with⟨h1,h⟩ | ⟨h1,h⟩
   ·have hq:=hret0 _ (hr0 _ (sI h).symm)
    replace hq:=sI hq
    subst hq
    exact wr Zz 35 [true,true] [pt hx0 hl0] [] 0 [] hC [pq (A_ hi0 hl0),pq h1]
   ·exact wx w0b (uV x0 x1 (n0+1)) (Aif (n0+1)) Zz 36 [true,false] [pt hx0 hl0] [] 0 [] _ hC [pq (A_ hi0 hl0),pq h1] (sI h).symm
 ·have h:=hnext0 _ hs0
  replace h:=sI h
  subst h
  exact wr Zz 23 [] [] [] 0 [] hC []
theorem A4z:EN 150:=en Tryz.func150
def Aen (x0:List Int) (x1:List Int) (z0:Int):St:=[(0,.d (DS (pK .u64) x0)),(1,.d (DS (pK .u64) x1)),(4,dI 0),(5,dI z0)]
def Ap6  (z0:Int):List Res:=[]
def Asb  (z0:Int):St:=[(4,dI 0)]
def Av1  (z0:Int):List Res:=[]
theorem k32 (x0:List Int) (x1:List Int) (r:Int) (h:F32 x0 x1=some r):CO 32 [.d (DS (pK .u64) x0),.d (DS (pK .u64) x1)] [] (.d (I r)) []:=by
 unfold F32 at h
 refine co 40 Tryz.func32 λ C hC=>?_
 refine ws [0,1,4,5,15,38] 26 [] [] [] 0 [] (Aen x0 x1 0) (Ap6 0) hC [] ?_
 obtain⟨w0,hm0,hret0,hnext0⟩:=Ar h
 clear h
 refine wc w0 (Asb) (Av1) ?_ λ z0 hs0=>?_
 ·refine wb ?_
  refine ww (Aen x0 x1) (Ap6) hm0 λ z0 w0b h hb0 hr0=>?_
  unfold Ajm at h
  rcases cB h with⟨h1,h⟩ | ⟨h1,h⟩
  ·obtain⟨y2,h3,y4,h5,h⟩:=Bc h
   refine wn [0,1,4,5,15,38] 30 [true] [pl (pK .u64) x0,pL_ [(decide (z0<(ln x0)),false)] (pK .u64) x1,pl (pK .u64) x0,pL_ [(decide (z0>=(ln x0)),false)] (pK .u64) x1,pR (pK .u64) h3,pR (pK .u64) h5] [] 0 [] [0,1,4,5,38] hC [pq h1] ?_
   rcases cB h with⟨h6,h⟩ | ⟨h6,h⟩
   ·have hq:=hret0 _ (hr0 _ (sI h).symm)
    replace hq:=sI hq
    subst hq
    exact wr [0,1,4,5,15,38] 24 [true] [] [] 0 [] hC [pq h6]
   ·exact wx w0b (Aen x0 x1) (Ap6) [0,1,4,5,15,38] 25 [false] [] [] 0 [] _ hC [pq h6] (sI h).symm
  ·exact wx w0 (Asb) (Av1) [0,1,4,5,15,38] 26 [false] [pl (pK .u64) x0,pL_ [(decide (z0<(ln x0)),false)] (pK .u64) x1] [] 0 [] z0 hC [pq h1] (hb0 _ (sI h).symm)
 ·have h:=hnext0 _ hs0
  replace h:=sI h
  subst h
  exact wr [0,1,4,5,15,38] 23 [] [] [] 0 [] hC []
theorem e32:EN 32:=en Tryz.func32
def vW:List Nat:=[0,1,4,5,10,12,13,14,24]
def Aeh (x0:List Bool) (x1:List Bool) (n0:Nat) (z0:Unit):St:=[(0,.d (DS pB x0)),(1,.d (DS pB x1)),(4,dB false),(12,dI (ln x0)),(13,dI (cnt 0 n0))]
def Ap0  (n0:Nat) (z0:Unit):List Res:=[]
def Ar4  (z0:Unit):St:=[(4,dB false)]
def Avu  (z0:Unit):List Res:=[]
theorem k54 (x0:List Bool) (x1:List Bool) (r:Bool) (h:F54 x0 x1=some r):CO 54 [.d (DS pB x0),.d (DS pB x1)] [] (.d (Bo r)) []:=by
 unfold F54 at h
 refine co 26 Tryz.func54 λ C hC=>?_
 rcases cB h with⟨h1,h⟩ | ⟨h1,h⟩
 ·replace h:=sI h
  subst h
  exact wr vW 29 [true] [pl pB x0,pl pB x1] [] 0 [] hC [pq h1]
 ·refine ws vW 31 [false] [pl pB x0,pl pB x1,pl pB x0] [] 0 [] (Aeh x0 x1 0 ()) (Ap0 0 ()) hC [pq h1] ?_
  obtain⟨w0,hm0,hret0,hnext0⟩:=Ar h
  clear h
  refine wc w0 (Ar4) (Avu) ?_ λ z0 hs0=>?_
  ·refine wb ?_
   refine Bq 0 rfl λ hl0=>?_
   refine wl (Aeh x0 x1) (Ap0) hm0 (λ z0 hn0=>?_) λ n0 a0 z0 w0b hi0 hx0 h hb0 hr0=>?_
   ·clear hm0
    exact wx w0 (Ar4) (Avu) vW 26 [false] [] [] 0 [] _ hC [pq (Bf hl0)] hn0
   ·unfold Ajh at h
    obtain⟨y2,h3,h⟩:=Az h
    rcases cB h with⟨h4,h⟩ | ⟨h4,h⟩
    ·have hq:=hret0 _ (hr0 _ (sI h).symm)
     replace hq:=sI hq
     subst hq
     exact wr vW 35 [true,true] [pt hx0 hl0,pr pB h3] [] 0 [] hC [pq (A_ hi0 hl0),pq h4]
    ·exact wx w0b (Aeh x0 x1 (n0+1)) (Ap0 (n0+1)) vW 36 [true,false] [pt hx0 hl0,pr pB h3] [] 0 [] _ hC [pq (A_ hi0 hl0),pq h4] (sI h).symm
  ·have h:=hnext0 _ hs0
   replace h:=sI h
   subst h
   exact wr vW 23 [] [] [] 0 [] hC []
theorem e54:EN 54:=en Tryz.func54
def vV:List Nat:=[0,1,4,5,10,12,13,14,24]
def Aeg (x0:List Int) (x1:List Int) (n0:Nat) (z0:Unit):St:=[(0,.d (DS pI x0)),(1,.d (DS pI x1)),(4,dB false),(12,dI (ln x0)),(13,dI (cnt 0 n0))]
def Apz  (n0:Nat) (z0:Unit):List Res:=[]
def Ar3  (z0:Unit):St:=[(4,dB false)]
def Avt  (z0:Unit):List Res:=[]
theorem k55 (x0:List Int) (x1:List Int) (r:Bool) (h:F55 x0 x1=some r):CO 55 [.d (DS pI x0),.d (DS pI x1)] [] (.d (Bo r)) []:=by
 unfold F55 at h
 refine co 26 Tryz.func55 λ C hC=>?_
 rcases cB h with⟨h1,h⟩ | ⟨h1,h⟩
 ·replace h:=sI h
  subst h
  exact wr vV 29 [true] [pl pI x0,pl pI x1] [] 0 [] hC [pq h1]
 ·refine ws vV 31 [false] [pl pI x0,pl pI x1,pl pI x0] [] 0 [] (Aeg x0 x1 0 ()) (Apz 0 ()) hC [pq h1] ?_
  obtain⟨w0,hm0,hret0,hnext0⟩:=Ar h
  clear h
  refine wc w0 (Ar3) (Avt) ?_ λ z0 hs0=>?_
  ·refine wb ?_
   refine Bq 0 rfl λ hl0=>?_
   refine wl (Aeg x0 x1) (Apz) hm0 (λ z0 hn0=>?_) λ n0 a0 z0 w0b hi0 hx0 h hb0 hr0=>?_
   ·clear hm0
    exact wx w0 (Ar3) (Avt) vV 26 [false] [] [] 0 [] _ hC [pq (Bf hl0)] hn0
   ·unfold Ajg at h
    obtain⟨y2,h3,h⟩:=Az h
    rcases cB h with⟨h4,h⟩ | ⟨h4,h⟩
    ·have hq:=hret0 _ (hr0 _ (sI h).symm)
     replace hq:=sI hq
     subst hq
     exact wr vV 35 [true,true] [pt hx0 hl0,pr pI h3] [] 0 [] hC [pq (A_ hi0 hl0),pq h4]
    ·exact wx w0b (Aeg x0 x1 (n0+1)) (Apz (n0+1)) vV 36 [true,false] [pt hx0 hl0,pr pI h3] [] 0 [] _ hC [pq (A_ hi0 hl0),pq h4] (sI h).symm
  ·have h:=hnext0 _ hs0
   replace h:=sI h
   subst h
   exact wr vV 23 [] [] [] 0 [] hC []
theorem e55:EN 55:=en Tryz.func55
def vY:List Nat:=[0,1,4,5,10,12,13,14,24]
def Aek (x0:List A6) (x1:List A6) (n0:Nat) (z0:Unit):St:=[(0,.d (DS q65 x0)),(1,.d (DS q65 x1)),(4,dB false),(12,dI (ln x0)),(13,dI (cnt 0 n0))]
def Ap3  (n0:Nat) (z0:Unit):List Res:=[]
def Ar8  (z0:Unit):St:=[(4,dB false)]
def Avy  (z0:Unit):List Res:=[]
theorem k34 (x0:List A6) (x1:List A6) (r:Bool) (h:F34 x0 x1=some r):CO 34 [.d (DS q65 x0),.d (DS q65 x1)] [] (.d (Bo r)) []:=by
 unfold F34 at h
 refine co 26 Tryz.func34 λ C hC=>?_
 rcases cB h with⟨h1,h⟩ | ⟨h1,h⟩
 ·replace h:=sI h
  subst h
  exact wr vY 29 [true] [pl q65 x0,pl q65 x1] [] 0 [] hC [pq h1]
 ·refine ws vY 31 [false] [pl q65 x0,pl q65 x1,pl q65 x0] [] 0 [] (Aek x0 x1 0 ()) (Ap3 0 ()) hC [pq h1] ?_
  obtain⟨w0,hm0,hret0,hnext0⟩:=Ar h
  clear h
  refine wc w0 (Ar8) (Avy) ?_ λ z0 hs0=>?_
  ·refine wb ?_
   refine Bq 0 rfl λ hl0=>?_
   refine wl (Aek x0 x1) (Ap3) hm0 (λ z0 hn0=>?_) λ n0 a0 z0 w0b hi0 hx0 h hb0 hr0=>?_
   ·clear hm0
    exact wx w0 (Ar8) (Avy) vY 26 [false] [] [] 0 [] _ hC [pq (Bf hl0)] hn0
   ·unfold Ajj at h
    obtain⟨y2,h3,h⟩:=Az h
    rcases cB h with⟨h4,h⟩ | ⟨h4,h⟩
    ·have hq:=hret0 _ (hr0 _ (sI h).symm)
     replace hq:=sI hq
     subst hq
     exact wr vY 35 [true,true] [pt hx0 hl0,pr q65 h3] [] 0 [] hC [pq (A_ hi0 hl0),pq h4]
    ·exact wx w0b (Aek x0 x1 (n0+1)) (Ap3 (n0+1)) vY 36 [true,false] [pt hx0 hl0,pr q65 h3] [] 0 [] _ hC [pq (A_ hi0 hl0),pq h4] (sI h).symm
  ·have h:=hnext0 _ hs0
   replace h:=sI h
   subst h
   exact wr vY 23 [] [] [] 0 [] hC []
theorem e34:EN 34:=en Tryz.func34
def Dp:List Nat:=[0,1,2,3,4,6,7,8,10,11,12,13,23,25,26,37,38,47,48,57,61,62,63,64,69,74,75,76,82,86,87,88,94]
def Rn (x0:Aa) (n0:Nat) (z0:Unit):St:=[(1,dO 0 0),(2,dB false),(10,.d (DS q70 x0.Ad)),(11,dI (ln x0.Ad)),(12,dI (cnt 0 n0))]
def qA (x0:Aa) (n0:Nat) (z0:Unit):List Res:=[.box 30 (d30 x0)]
def Ar2  (z0:Unit):St:=[(1,dO 0 0),(2,dB false)]
def Avs (x0:Aa) (z0:Unit):List Res:=[.box 30 (d30 x0)]
def Aef (x0:Aa) (n0:Nat) (y9:List Aj) (n1:Nat) (z1:Unit):St:=[(1,dO 0 0),(2,dB false),(4,dO 1 0),(10,.d (DS q70 x0.Ad)),(11,dI (ln x0.Ad)),(12,dI (cnt 0 n0)),(61,.d (DS q70 y9)),(62,dI (ln y9)),(63,dI (cnt 0 n1))]
def Apy (x0:Aa) (a0:Aj) (n1:Nat) (z1:Unit):List Res:=[.box 30 (d30 x0),.box 70 (d70 a0)]
def Ar1 (x0:Aa) (n0:Nat) (z1:Unit):St:=[(1,dO 0 0),(2,dB false),(10,.d (DS q70 x0.Ad)),(11,dI (ln x0.Ad)),(12,dI (cnt 0 n0))]
def Avr (x0:Aa) (z1:Unit):List Res:=[.box 30 (d30 x0)]
def Aee (x0:Aa) (z2:Int):St:=[(1,dO 0 0),(2,dB false),(74,dI (ln x0.Ac)),(75,dI z2)]
def Apx (x0:Aa) (z2:Int):List Res:=[.box 30 (d30 x0)]
def Ar0  (z2:Int):St:=[(1,dO 0 0),(2,dB false)]
def Avq (x0:Aa) (z2:Int):List Res:=[.box 30 (d30 x0)]
def Aed (x0:Aa) (z3:Int):St:=[(1,dO 0 0),(2,dB false),(86,dI (ln x0.Ae)),(87,dI z3)]
def Apw (x0:Aa) (z3:Int):List Res:=[.box 30 (d30 x0)]
def Arz  (z3:Int):St:=[(2,dB false)]
def Avp  (z3:Int):List Res:=[]
theorem k59 (x0 : Aa) (r : Bool) (h : F59 x0 = some r) : CO 59 [.agg (d30 x0)] [] (.d (Bo r)) [] := by
 unfold F59 at h
 refine co 96 Tryz.func59 λ C hC=>?_
 refine ws Dp 26 [] [pl q70 x0.Ad] [] 0 [0] (Rn x0 0 ()) (qA x0 0 ()) hC [] ?_
 obtain⟨w0,hm0,hret0,hnext0⟩:=Ar h
 clear h
 refine wc w0 (Ar2) (Avs x0) ?_ λ z0 hs0=>?_
 ·refine wb ?_
  refine Bq 10 rfl λ hl0=>?_
  refine wl (Rn x0) (qA x0) hm0 (λ z0 hn0=>?_) λ n0 a0 z0 w0b hi0 hx0 h hb0 hr0=>?_
  ·clear hm0
   exact wx w0 (Ar2) (Avs x0) Dp 26 [false] [] [] 0 [0] _ hC [pq (Bf hl0)] hn0
  ·unfold Ajf at h
   refine wn Dp 33 [true] [pt hx0 hl0,pc e82 (k82 a0.A 0 (w64 (x0.An-1)) _ rfl) []] [] 0 [0,1] [1,2,3,4,10,11,12,23] hC [pq (A_ hi0 hl0)] ?_
   rcases cB h with⟨h1,h⟩ | ⟨h1,h⟩
   ·have hq:=hret0 _ (hr0 _ (sI h).symm)
    replace hq:=sI hq
    subst hq
    exact wr Dp 24 [true] [] [] 0 [] hC [pq h1]
   ·rcases cB h with ⟨h2, h⟩ | ⟨h2, h⟩
    ·rcases cB h with⟨h3,h⟩ | ⟨h3,h⟩
     ·have hq:=hret0 _ (hr0 _ (sI h).symm)
      replace hq:=sI hq
      subst hq
      exact wr Dp 34 [false,true,true] [pc e82 (k82 a0.B (w64 (a0.A+1)) (w64 (x0.An-1)) _ rfl) []] [] 0 [] hC [pq h1,pq h2,pq h3]
     ·exact wx w0b (Rn x0 (n0+1)) (qA x0 (n0+1)) Dp 36 [false,true,false] [pc e82 (k82 a0.B (w64 (a0.A+1)) (w64 (x0.An-1)) _ rfl) []] [] 0 [0] _ hC [pq h1,pq h2,pq h3] (sI h).symm
    ·rcases cB h with⟨h4,h⟩ | ⟨h4,h⟩
     ·refine wn Dp 34 [false,false,true] [pl q72 x0.Ac,pc e82 (k82 a0.B 0 (w64 ((ln x0.Ac)-1)) _ rfl) []] [] 0 [0] [1,2,10,11,12,47] hC [pq h1,pq h2,pq h4] ?_
      rcases cB h with⟨h5,h⟩ | ⟨h5,h⟩
      ·have hq:=hret0 _ (hr0 _ (sI h).symm)
       replace hq:=sI hq
       subst hq
       exact wr Dp 24 [true] [] [] 0 [] hC [pq h5]
      ·exact wx w0b (Rn x0 (n0+1)) (qA x0 (n0+1)) Dp 26 [false] [] [] 0 [0] _ hC [pq h5] (sI h).symm
     ·rcases cB h with⟨h6,h⟩ | ⟨h6,h⟩
      ·refine wn Dp 38 [false,false,false,true] [pl q81 x0.Ae,pc e82 (k82 a0.B 0 (w64 ((ln x0.Ae)-1)) _ rfl) []] [] 0 [0,1] [1,2,3,4,10,11,12,57] hC [pq h1,pq h2,pq h4,pq h6] ?_
       rcases cB h with⟨h7,h⟩ | ⟨h7,h⟩
       ·have hq:=hret0 _ (hr0 _ (sI h).symm)
        replace hq:=sI hq
        subst hq
        exact wr Dp 24 [true] [] [] 0 [] hC [pq h7]
       ·obtain⟨y9,h8,h⟩:=Az h
        refine ws Dp 25 [false] [⟨.cut (x0.Ad.map q70) 3 0 (cnt 0 n0) (y9.map q70),Vp q70 3 (λ _=>rfl) h8⟩,pl q70 y9] [] 0 [0,1] (Aef x0 n0 y9 0 ()) (Apy x0 a0 0 ()) hC [pq h7] ?_
        obtain⟨w1,hm1,hret1,hnext1⟩:=Ar h
        clear h
        refine wc w1 (Ar1 x0 n0) (Avr x0) ?_ λ z1 hs1=>?_
        ·refine wb ?_
         refine Bq 61 rfl λ hl1=>?_
         refine wl (Aef x0 n0 y9) (Apy x0 a0) hm1 (λ z1 hn1=>?_) λ n1 a1 z1 w1b hi1 hx1 h hb1 hr1=>?_
         ·clear hm1
          exact wx w1 (Ar1 x0 n0) (Avr x0) Dp 26 [false] [] [] 0 [0] _ hC [pq (Bf hl1)] hn1
         ·unfold qQ at h
          rcases cB h with⟨h10,h⟩ | ⟨h10,h⟩
          ·have hq:=hret1 _ (hr1 _ (sI h).symm)
           replace hq:=hret0 _ (hr0 _ (sI hq).symm)
           replace hq:=sI hq
           subst hq
           exact wr Dp 35 [true,true] [pt hx1 hl1] [] 0 [] hC [pq (A_ hi1 hl1),pq h10]
          ·exact wx w1b (Aef x0 n0 y9 (n1+1)) (Apy x0 a0 (n1+1)) Dp 36 [true,false] [pt hx1 hl1] [] 0 [0,1] _ hC [pq (A_ hi1 hl1),pq h10] (sI h).symm
        ·have h:=hnext1 _ hs1
         exact wx w0b (Rn x0 (n0+1)) (qA x0 (n0+1)) Dp 24 [] [] [] 0 [0] _ hC [] (sI h).symm
      ·have hq:=hret0 _ (hr0 _ (sI h).symm)
       replace hq:=sI hq
       subst hq
       exact wr Dp 37 [false,false,false,false] [] [] 0 [] hC [pq h1,pq h2,pq h4,pq h6]
 ·have h:=hnext0 _ hs0
  refine ws Dp 24 [] [pl q72 x0.Ac] [] 0 [0] (Aee x0 0) (Apx x0 0) hC [] ?_
  obtain⟨w2,hm2,hret2,hnext2⟩:=Ar h
  clear h
  refine wc w2 (Ar0) (Avq x0) ?_ λ z2 hs2=>?_
  ·refine wb ?_
   refine ww (Aee x0) (Apx x0) hm2 λ z2 w2b h hb2 hr2=>?_
   unfold Aje at h
   rcases cB h with⟨h11,h⟩ | ⟨h11,h⟩
   ·obtain⟨y12,h13,h⟩:=Az h
    refine wn Dp 32 [true] [pc e83 (k83 x0 2 z2 _ h13) [],pl pI y12] [] 0 [0] [1,2,74,75,82] hC [pq h11] ?_
    rcases cB h with⟨h14,h⟩ | ⟨h14,h⟩
    ·have hq:=hret2 _ (hr2 _ (sI h).symm)
     replace hq:=sI hq
     subst hq
     exact wr Dp 24 [true] [] [] 0 [] hC [pq h14]
    ·exact wx w2b (Aee x0) (Apx x0) Dp 25 [false] [] [] 0 [0] _ hC [pq h14] (sI h).symm
   ·exact wx w2 (Ar0) (Avq x0) Dp 26 [false] [] [] 0 [0] z2 hC [pq h11] (hb2 _ (sI h).symm)
  ·have h:=hnext2 _ hs2
   refine ws Dp 24 [] [pl q81 x0.Ae] [] 0 [0] (Aed x0 0) (Apw x0 0) hC [] ?_
   obtain⟨w3,hm3,hret3,hnext3⟩:=Ar h
   clear h
   refine wc w3 (Arz) (Avp) ?_ λ z3 hs3=>?_
   ·refine wb ?_
    refine ww (Aed x0) (Apw x0) hm3 λ z3 w3b h hb3 hr3=>?_
    unfold Ajd at h
    rcases cB h with⟨h15,h⟩ | ⟨h15,h⟩
    ·obtain⟨y16,h17,h⟩:=Az h
     refine wn Dp 32 [true] [pc e83 (k83 x0 3 z3 _ h17) [],pl pI y16] [] 0 [0] [1,2,86,87,94] hC [pq h15] ?_
     rcases cB h with⟨h18,h⟩ | ⟨h18,h⟩
     ·have hq:=hret3 _ (hr3 _ (sI h).symm)
      replace hq:=sI hq
      subst hq
      exact wr Dp 24 [true] [] [] 0 [] hC [pq h18]
     ·exact wx w3b (Aed x0) (Apw x0) Dp 25 [false] [] [] 0 [0] _ hC [pq h18] (sI h).symm
    ·exact wx w3 (Arz) (Avp) Dp 26 [false] [] [] 0 [] z3 hC [pq h15] (hb3 _ (sI h).symm)
   ·have h:=hnext3 _ hs3
    replace h:=sI h
    subst h
    exact wr Dp 23 [] [] [] 0 [] hC []
theorem e59:EN 59:=en Tryz.func59
def vU:List Nat:=[0,1,2,4,6,7,8,9,29]
def Aec (x0:Aa) (n0:Nat) (z0:Unit):St:=[(2,dB false),(6,.d (DS q72 x0.Ac)),(7,dI (ln x0.Ac)),(8,dI (cnt 0 n0))]
def Apv  (n0:Nat) (z0:Unit):List Res:=[]
def Ary  (z0:Unit):St:=[(2,dB false)]
def Avo  (z0:Unit):List Res:=[]
theorem k60 (x0:Aa) (r:Bool) (h:F60 x0=some r):CO 60 [.agg (d30 x0)] [] (.d (Bo r)) []:=by
 unfold F60 at h
 refine co 31 Tryz.func60 λ C hC=>?_
 refine ws vU 26 [] [pl q72 x0.Ac] [] 0 [] (Aec x0 0 ()) (Apv 0 ()) hC [] ?_
 obtain⟨w0,hm0,hret0,hnext0⟩:=Ar h
 clear h
 refine wc w0 (Ary) (Avo) ?_ λ z0 hs0=>?_
 ·refine wb ?_
  refine Bq 6 rfl λ hl0=>?_
  refine wl (Aec x0) (Apv) hm0 (λ z0 hn0=>?_) λ n0 a0 z0 w0b hi0 hx0 h hb0 hr0=>?_
  ·clear hm0
   exact wx w0 (Ary) (Avo) vU 26 [false] [] [] 0 [] _ hC [pq (Bf hl0)] hn0
  ·unfold Ajc at h
   refine wn vU 32 [true] [pt hx0 hl0,pc e82 (k82 a0.Rating 1 50000 _ rfl) [],⟨.when [(!(F82 a0.Rating 1 50000),false)] (.call 82 [dI a0.Least,dI 0,dI a0.Rating] [] (dB (F82 a0.Least 0 a0.Rating)) [] []),λ hg=>⟨e82,(k82 a0.Least 0 a0.Rating _ rfl)⟩⟩,⟨.when [(((!(F82 a0.Rating 1 50000)) || (!(F82 a0.Least 0 a0.Rating))),false)] (.call 82 [dI a0.Start,dI 0,dI 600] [] (dB (F82 a0.Start 0 600)) [] []),λ hg=>⟨e82,(k82 a0.Start 0 600 _ rfl)⟩⟩] [] 0 [] [2,6,7,8,29] hC [pq (A_ hi0 hl0)] ?_
   rcases cB h with⟨h1,h⟩ | ⟨h1,h⟩
   ·have hq:=hret0 _ (hr0 _ (sI h).symm)
    replace hq:=sI hq
    subst hq
    exact wr vU 24 [true] [] [] 0 [] hC [pq h1]
   ·exact wx w0b (Aec x0 (n0+1)) (Apv (n0+1)) vU 25 [false] [] [] 0 [] _ hC [pq h1] (sI h).symm
 ·have h:=hnext0 _ hs0
  replace h:=sI h
  subst h
  exact wr vU 23 [] [] [] 0 [] hC []
theorem e60:EN 60:=en Tryz.func60
def Me:List Nat:=[0,1,2,3,4,5,6,8,9,10,11,44,46,47,48,49,71]
def Aeb (x0:Aa) (n0:Nat) (z0:Unit):St:=[(2,dB false),(8,.d (DS q81 x0.Ae)),(9,dI (ln x0.Ae)),(10,dI (cnt 0 n0))]
def Apu  (n0:Nat) (z0:Unit):List Res:=[]
def Arx  (z0:Unit):St:=[(2,dB false)]
def Avn  (z0:Unit):List Res:=[]
def Aea (x0:Aa) (n0:Nat) (a0:A7) (n1:Nat) (z1:Unit):St:=[(2,dB false),(3,dI (cnt 0 n0)),(4,dO 0 0),(8,.d (DS q81 x0.Ae)),(9,dI (ln x0.Ae)),(10,dI (cnt 0 n0)),(46,.d (DS pI a0.Needs)),(47,dI (ln a0.Needs)),(48,dI (cnt 0 n1))]
def Apt (a0:A7) (n1:Nat) (z1:Unit):List Res:=[.box 81 (d81 a0)]
def Arw (x0:Aa) (n0:Nat) (z1:Unit):St:=[(2,dB false),(8,.d (DS q81 x0.Ae)),(9,dI (ln x0.Ae)),(10,dI (cnt 0 n0))]
def Avm  (z1:Unit):List Res:=[]
theorem k61 (x0:Aa) (r:Bool) (h:F61 x0=some r):CO 61 [.agg (d30 x0)] [] (.d (Bo r)) []:=by
 unfold F61 at h
 refine co 74 Tryz.func61 λ C hC=>?_
 refine ws Me 26 [] [pl q81 x0.Ae] [] 0 [] (Aeb x0 0 ()) (Apu 0 ()) hC [] ?_
 obtain⟨w0,hm0,hret0,hnext0⟩:=Ar h
 clear h
 refine wc w0 (Arx) (Avn) ?_ λ z0 hs0=>?_
 ·refine wb ?_
  refine Bq 8 rfl λ hl0=>?_
  refine wl (Aeb x0) (Apu) hm0 (λ z0 hn0=>?_) λ n0 a0 z0 w0b hi0 hx0 h hb0 hr0=>?_
  ·clear hm0
   exact wx w0 (Arx) (Avn) Me 26 [false] [] [] 0 [] _ hC [pq (Bf hl0)] hn0
  ·unfold Ajb at h
   refine wn Me 33 [true] [pt hx0 hl0,pc e82 (k82 a0.Load 0 50000 _ rfl) [],⟨.when [(!(F82 a0.Load 0 50000),false)] (.call 82 [dI a0.Least,dI 0,dI a0.Load] [] (dB (F82 a0.Least 0 a0.Load)) [] []),λ hg=>⟨e82,(k82 a0.Least 0 a0.Load _ rfl)⟩⟩,⟨.when [(((!(F82 a0.Load 0 50000)) || (!(F82 a0.Least 0 a0.Load))),false)] (.call 82 [dI a0.Bl,dI 0,dI 15] [] (dB (F82 a0.Bl 0 15)) [] []),λ hg=>⟨e82,(k82 a0.Bl 0 15 _ rfl)⟩⟩,⟨.when [((((!(F82 a0.Load 0 50000)) || (!(F82 a0.Least 0 a0.Load))) || (!(F82 a0.Bl 0 15))),false)] (.call 82 [dI a0.Thruster,dI (-1),dI 7] [] (dB (F82 a0.Thruster (-1) 7)) [] []),λ hg=>⟨e82,(k82 a0.Thruster (-1) 7 _ rfl)⟩⟩,pL_ [(((((!(F82 a0.Load 0 50000)) || (!(F82 a0.Least 0 a0.Load))) || (!(F82 a0.Bl 0 15))) || (!(F82 a0.Thruster (-1) 7))),false)] pI a0.Needs] [] 0 [0] [2,3,4,8,9,10,44] hC [pq (A_ hi0 hl0)] ?_
   rcases cB h with⟨h1,h⟩ | ⟨h1,h⟩
   ·have hq:=hret0 _ (hr0 _ (sI h).symm)
    replace hq:=sI hq
    subst hq
    exact wr Me 24 [true] [] [] 0 [] hC [pq h1]
   ·refine ws Me 25 [false] [pl pI a0.Needs] [] 0 [0] (Aea x0 n0 a0 0 ()) (Apt a0 0 ()) hC [pq h1] ?_
    obtain⟨w1,hm1,hret1,hnext1⟩:=Ar h
    clear h
    refine wc w1 (Arw x0 n0) (Avm) ?_ λ z1 hs1=>?_
    ·refine wb ?_
     refine Bq 46 rfl λ hl1=>?_
     refine wl (Aea x0 n0 a0) (Apt a0) hm1 (λ z1 hn1=>?_) λ n1 a1 z1 w1b hi1 hx1 h hb1 hr1=>?_
     ·clear hm1
      exact wx w1 (Arw x0 n0) (Avm) Me 26 [false] [] [] 0 [] _ hC [pq (Bf hl1)] hn1
     ·unfold Aja at h
      obtain⟨y2,h3,h⟩:=Az h
      refine wn Me 32 [true] [pt hx1 hl1,pc e82 (k82 a1 0 (w64 ((cnt 0 n0)-1)) _ rfl) [],pR pI h3] [] 0 [0] [2,3,4,8,9,10,46,47,48,71] hC [pq (A_ hi1 hl1)] ?_
      rcases cB h with⟨h4,h⟩ | ⟨h4,h⟩
      ·have hq:=hret1 _ (hr1 _ (sI h).symm)
       replace hq:=hret0 _ (hr0 _ (sI hq).symm)
       replace hq:=sI hq
       subst hq
       exact wr Me 24 [true] [] [] 0 [] hC [pq h4]
      ·exact wx w1b (Aea x0 n0 a0 (n1+1)) (Apt a0 (n1+1)) Me 25 [false] [] [] 0 [0] _ hC [pq h4] (sI h).symm
    ·have h:=hnext1 _ hs1
     exact wx w0b (Aeb x0 (n0+1)) (Apu (n0+1)) Me 23 [] [] [] 0 [] _ hC [] (sI h).symm
 ·have h:=hnext0 _ hs0
  replace h:=sI h
  subst h
  exact wr Me 23 [] [] [] 0 [] hC []
theorem e61:EN 61:=en Tryz.func61
theorem Xr (x0:List Int) (x1:Int) (r:Bool) (h:Mz x0 x1=some r):CO 152 [.d (DS pI x0),.d (I x1)] [] (.d (Bo r)) []:=by
 unfold Mz at h
 refine co 9 Tryz.func152 λ C hC=>?_
 obtain⟨y1,h2,h⟩:=Az h
 replace h:=sI h
 subst h
 exact wr [0,1,4] 25 [] [pc A87 (A76 x0 x1 _ h2) []] [] 0 [] hC []
theorem Xx:EN 152:=en Tryz.func152
def On:List Nat:=[0,1,4,5,7,8,9,16]
def Rw (x0:List (List Int)) (n0:Nat) (z0:Unit):St:=[(0,.d (DS (pL pI) x0)),(1,.d (.fn (.func 154) [] [])),(4,dI 0),(7,dI (ln x0)),(8,dI (cnt 0 n0))]
def Yf  (n0:Nat) (z0:Unit):List Res:=[]
def Aat  (z0:Unit):St:=[(4,dI 0)]
def Abz  (z0:Unit):List Res:=[]
theorem A22 (x0:List (List Int)) (r:Int) (h:qY x0=some r):CO 187 [.d (DS (pL pI) x0),.d (.fn (.func 154) [] [])] [] (.d (I r)) []:=by
 unfold qY at h
 refine co 19 Tryz.func187 λ C hC=>?_
 refine ws On 26 [] [pl (pL pI) x0] [] 0 [] (Rw x0 0 ()) (Yf 0 ()) hC [] ?_
 obtain⟨w0,hm0,hret0,hnext0⟩:=Ar h
 clear h
 refine wc w0 (Aat) (Abz) ?_ λ z0 hs0=>?_
 ·refine wb ?_
  refine Bq 0 rfl λ hl0=>?_
  refine wl (Rw x0) (Yf) hm0 (λ z0 hn0=>?_) λ n0 a0 z0 w0b hi0 hx0 h hb0 hr0=>?_
  ·clear hm0
   exact wx w0 (Aat) (Abz) On 26 [false] [] [] 0 [] _ hC [pq (Bf hl0)] hn0
  ·unfold Ach at h
   rcases cB h with⟨h1,h⟩ | ⟨h1,h⟩
   ·have hq:=hret0 _ (hr0 _ (sI h).symm)
    replace hq:=sI hq
    subst hq
    exact wr On 35 [true,true] [pt hx0 hl0,pc A4x (A3i a0 _ rfl) []] [] 0 [] hC [pq (A_ hi0 hl0),pq h1]
   ·exact wx w0b (Rw x0 (n0+1)) (Yf (n0+1)) On 36 [true,false] [pt hx0 hl0,pc A4x (A3i a0 _ rfl) []] [] 0 [] _ hC [pq (A_ hi0 hl0),pq h1] (sI h).symm
 ·have h:=hnext0 _ hs0
  replace h:=sI h
  subst h
  exact wr On 23 [] [] [] 0 [] hC []
theorem A4h:EN 187:=en Tryz.func187
theorem A8q (x0:Bh) (r:Bool) (h:zU x0=r):CO 114 [.agg (d72 x0)] [] (.d (Bo r)) []:=by
 unfold zU at h
 refine co 18 Tryz.func114 λ C hC=>?_
 subst h
 exact wr n3_ 25 [] [pc e91 (k91 x0.Rating 1 50000 _ rfl) [],⟨.when [(F91 x0.Rating 1 50000,true)] (.call 91 [dI x0.Least,dI 0,dI x0.Rating] [] (dB (F91 x0.Least 0 x0.Rating)) [] []),λ hg=>⟨e91,(k91 x0.Least 0 x0.Rating _ rfl)⟩⟩,⟨.when [(((F91 x0.Rating 1 50000)&&(F91 x0.Least 0 x0.Rating)),true)] (.call 91 [dI x0.Start,dI 0,dI 600] [] (dB (F91 x0.Start 0 600)) [] []),λ hg=>⟨e91,(k91 x0.Start 0 600 _ rfl)⟩⟩] [] 0 [] hC []
theorem A9r:EN 114:=en Tryz.func114
def Vf:List Nat:=[0,1,2,4,5,6,8,9,10,11,33]
def vD (x0:A7) (x1:Int) (n0:Nat) (z0:Unit):St:=[(1,dI x1),(2,dO 0 0),(4,dB false),(8,.d (DS pI x0.Needs)),(9,dI (ln x0.Needs)),(10,dI (cnt 0 n0))]
def Aio (x0:A7) (n0:Nat) (z0:Unit):List Res:=[.box 81 (d81 x0)]
def Alp  (z0:Unit):St:=[(2,dO 0 0),(4,dB false)]
def Am5 (x0:A7) (z0:Unit):List Res:=[.box 81 (d81 x0)]
theorem A8p (x0:A7) (x1:Int) (r:Bool) (h:zT x0 x1=some r):CO 115 [.agg (d81 x0),.d (I x1)] [] (.d (Bo r)) []:=by
 unfold zT at h
 refine co 61 Tryz.func115 λ C hC=>?_
 refine ws Vf 26 [] [pl pI x0.Needs] [] 0 [0] (vD x0 x1 0 ()) (Aio x0 0 ()) hC [] ?_
 obtain⟨w0,hm0,hret0,hnext0⟩:=Ar h
 clear h
 refine wc w0 (Alp) (Am5 x0) ?_ λ z0 hs0=>?_
 ·refine wb ?_
  refine Bq 8 rfl λ hl0=>?_
  refine wl (vD x0 x1) (Aio x0) hm0 (λ z0 hn0=>?_) λ n0 a0 z0 w0b hi0 hx0 h hb0 hr0=>?_
  ·clear hm0
   exact wx w0 (Alp) (Am5 x0) Vf 26 [false] [] [] 0 [0] _ hC [pq (Bf hl0)] hn0
  ·unfold Wb at h
   obtain⟨y1,h2,h⟩:=Az h
   refine wn Vf 32 [true] [pt hx0 hl0,pc e91 (k91 a0 0 (w64 (x1-1)) _ rfl) [],pR pI h2] [] 0 [0] [1,2,4,8,9,10,33] hC [pq (A_ hi0 hl0)] ?_
   rcases cB h with⟨h3,h⟩ | ⟨h3,h⟩
   ·have hq:=hret0 _ (hr0 _ (sI h).symm)
    replace hq:=sI hq
    subst hq
    exact wr Vf 24 [true] [] [] 0 [] hC [pq h3]
   ·exact wx w0b (vD x0 x1 (n0+1)) (Aio x0 (n0+1)) Vf 25 [false] [] [] 0 [0] _ hC [pq h3] (sI h).symm
 ·have h:=hnext0 _ hs0
  replace h:=sI h
  subst h
  exact wr Vf 23 [] [pc e91 (k91 x0.Load 0 50000 _ rfl) [],⟨.when [(F91 x0.Load 0 50000,true)] (.call 91 [dI x0.Least,dI 0,dI x0.Load] [] (dB (F91 x0.Least 0 x0.Load)) [] []),λ hg=>⟨e91,(k91 x0.Least 0 x0.Load _ rfl)⟩⟩,⟨.when [(((F91 x0.Load 0 50000)&&(F91 x0.Least 0 x0.Load)),true)] (.call 91 [dI x0.Bl,dI 0,dI 15] [] (dB (F91 x0.Bl 0 15)) [] []),λ hg=>⟨e91,(k91 x0.Bl 0 15 _ rfl)⟩⟩,⟨.when [((((F91 x0.Load 0 50000)&&(F91 x0.Least 0 x0.Load))&&(F91 x0.Bl 0 15)),true)] (.call 91 [dI x0.Thruster,dI (-1),dI 7] [] (dB (F91 x0.Thruster (-1) 7)) [] []),λ hg=>⟨e91,(k91 x0.Thruster (-1) 7 _ rfl)⟩⟩,pL_ [(((((F91 x0.Load 0 50000)&&(F91 x0.Least 0 x0.Load))&&(F91 x0.Bl 0 15))&&(F91 x0.Thruster (-1) 7)),true)] pI x0.Needs] [] 0 [] hC []
theorem A9q:EN 115:=en Tryz.func115
def Ve:List Nat:=[0,1,4,5,6,11,12,13,16,19]
theorem Axp (x0:Int) (x1:Int) (r:Int) (h:J1 x0 x1=r):CO 118 [.d (I x0),.d (I x1)] [] (.d (I r)) []:=by
 unfold J1 at h
 refine co 20 Tryz.func118 λ C hC=>?_
 rcases cB h with⟨h1,h⟩ | ⟨h1,h⟩
 ·rcases cB h with⟨h2,h⟩ | ⟨h2,h⟩
  ·subst h
   exact wr Ve 37 [true,true] [pc Kx (Kv x0 _ rfl) [],pc Kx (Kv x1 _ rfl) []] [] 0 [] hC [pq h1,pq h2]
  ·subst h
   exact wr Ve 38 [true,false] [pc Kx (Kv x0 _ rfl) [],pc Kx (Kv x1 _ rfl) []] [] 0 [] hC [pq h1,pq h2]
 ·rcases cB h with⟨h3,h⟩ | ⟨h3,h⟩
  ·subst h
   exact wr Ve 38 [false,true] [pc Kx (Kv x0 _ rfl) [],pc Kx (Kv x1 _ rfl) []] [] 0 [] hC [pq h1,pq h3]
  ·rcases cB h with⟨h4,h⟩ | ⟨h4,h⟩
   ·subst h
    exact wr Ve 43 [false,false,true] [pc Kx (Kv x0 _ rfl) [],pc Kx (Kv x1 _ rfl) []] [] 0 [] hC [pq h1,pq h3,pq h4]
   ·rcases cB h with⟨h5,h⟩ | ⟨h5,h⟩
    ·subst h
     exact wr Ve 48 [false,false,false,true] [pc Kx (Kv x0 _ rfl) [],pc Kx (Kv x1 _ rfl) []] [] 0 [] hC [pq h1,pq h3,pq h4,pq h5]
    ·subst h
     exact wr Ve 49 [false,false,false,false] [pc Kx (Kv x0 _ rfl) [],pc Kx (Kv x1 _ rfl) []] [] 0 [] hC [pq h1,pq h3,pq h4,pq h5]
theorem Ax7:EN 118:=en Tryz.func118
theorem k90 (x0:Af) (r:Bool) (h:F90 x0=r):CO 90 [.agg (d93 x0)] [] (.d (Bo r)) []:=by
 unfold F90 at h
 refine co 21 Tryz.func90 λ C hC=>?_
 subst h
 exact wr n3_ 25 [] [pc e91 (k91 x0.State 0 3 _ rfl) [],⟨.when [(F91 x0.State 0 3,true)] (.call 91 [dI x0.Since,dI 0,dI 2147483648] [] (dB (F91 x0.Since 0 2147483648)) [] []),λ hg=>⟨e91,(k91 x0.Since 0 2147483648 _ rfl)⟩⟩,⟨.when [(((F91 x0.State 0 3)&&(F91 x0.Since 0 2147483648)),true)] (.call 91 [dI x0.Ap,dI 0,dI 6000] [] (dB (F91 x0.Ap 0 6000)) [] []),λ hg=>⟨e91,(k91 x0.Ap 0 6000 _ rfl)⟩⟩,⟨.when [((((F91 x0.State 0 3)&&(F91 x0.Since 0 2147483648))&&(F91 x0.Ap 0 6000)),true)] (.call 91 [dI x0.Phase,dI 0,dI 3599] [] (dB (F91 x0.Phase 0 3599)) [] []),λ hg=>⟨e91,(k91 x0.Phase 0 3599 _ rfl)⟩⟩] [] 0 [] hC []
theorem e90:EN 90:=en Tryz.func90
theorem k66 (x0:Ab) (r:Ab) (h:F66 x0=some r):CO 66 [.agg (d39 x0)] [] (.agg [.os 0,.os 1,.os 2,.os 3]) (zp r []):=by
 unfold F66 at h
 refine co 16 Tryz.func66 λ C hC=>?_
 obtain⟨y1,h2,y3,h4,y5,h6,y7,h8,h⟩:=Co h
 replace h:=sI h
 subst h
 exact wr n3_ 25 [] [pc e93 (k93 x0.Ag _ h2) [],pc e94 (k94 x0.Ac _ h4) [],pc e95 (k95 x0.Aq _ h6) [],pc e96 (k96 x0.Ao _ h8) []] [] 0 [2,3,4,5] hC []
theorem e66:EN 66:=en Tryz.func66
def Axd:List Nat:=[0,1,2,3,4,6,7,23]
theorem k98 (x0:Aa) (x1:Ab) (x2:Int) (r:Int×Bool) (h:F98 x0 x1 x2=some r):CO 98 [.agg (d30 x0),.agg (d39 x1),.d (I x2)] [] (.tup [.d (I r.1),.d (Bo r.2)]) []:=by
 unfold F98 at h
 refine co 30 Tryz.func98 λ C hC=>?_
 obtain⟨y1,h2,h⟩:=Az h
 refine wn Axd 26 [] [pl q93 x1.Ac,pc e91 (k91 x2 0 (w64 ((ln x1.Ac)-1)) _ rfl) [],pR q93 h2] [] 0 [0,1] [2,3,4,6,7,23] hC [] ?_
 rcases cB h with⟨h3,h⟩ | ⟨h3,h⟩
 ·replace h:=sI h
  subst h
  exact wr Axd 24 [true] [] [] 0 [] hC [pq h3]
 ·obtain⟨y4,h5,h⟩:=Az h
  replace h:=sI h
  subst h
  exact wr Axd 25 [false] [pc A5b (A3w x0 x1 2 x2 _ h5) []] [] 0 [] hC [pq h3]
theorem e98:EN 98:=en Tryz.func98
theorem k99 (x0:Aa) (x1:Ab) (x2:Int) (r:Int×Bool) (h:F99 x0 x1 x2=some r):CO 99 [.agg (d30 x0),.agg (d39 x1),.d (I x2)] [] (.tup [.d (I r.1),.d (Bo r.2)]) []:=by
 unfold F99 at h
 refine co 14 Tryz.func99 λ C hC=>?_
 obtain⟨y1,h2,h⟩:=Az h
 replace h:=sI h
 subst h
 exact wr [0,1,2,3,4,6,7] 25 [] [pc A5b (A3w x0 x1 3 x2 _ h2) []] [] 0 [] hC []
theorem e99:EN 99:=en Tryz.func99
def Lr:List Nat:=[0,1,4,5,7,8,9,16]
def R7 (x0:List Ai) (n0:Nat) (z0:Unit):St:=[(0,.d (DS Bg x0)),(1,.d (.fn (.func 101) [] [])),(4,dI 0),(7,dI (ln x0)),(8,dI (cnt 0 n0))]
def Yl  (n0:Nat) (z0:Unit):List Res:=[]
def Aa8  (z0:Unit):St:=[(4,dI 0)]
def Ace  (z0:Unit):List Res:=[]
theorem As6 (x0:List Ai) (r:Int) (h:Ut x0=some r):CO 121 [.d (DS Bg x0),.d (.fn (.func 101) [] [])] [] (.d (I r)) []:=by
 unfold Ut at h
 refine co 19 Tryz.func121 λ C hC=>?_
 refine ws Lr 26 [] [pl Bg x0] [] 0 [] (R7 x0 0 ()) (Yl 0 ()) hC [] ?_
 obtain⟨w0,hm0,hret0,hnext0⟩:=Ar h
 clear h
 refine wc w0 (Aa8) (Ace) ?_ λ z0 hs0=>?_
 ·refine wb ?_
  refine Bq 0 rfl λ hl0=>?_
  refine wl (R7 x0) (Yl) hm0 (λ z0 hn0=>?_) λ n0 a0 z0 w0b hi0 hx0 h hb0 hr0=>?_
  ·clear hm0
   exact wx w0 (Aa8) (Ace) Lr 26 [false] [] [] 0 [] _ hC [pq (Bf hl0)] hn0
  ·unfold Ack at h
   refine wn Lr 32 [true] [pt hx0 hl0,pc A5g (A31 a0 _ rfl) []] [] 0 [] [0,1,4,5,7,8,16] hC [pq (A_ hi0 hl0)] ?_
   rcases cB h with⟨h1,h⟩ | ⟨h1,h⟩
   ·have hq:=hret0 _ (hr0 _ (sI h).symm)
    replace hq:=sI hq
    subst hq
    exact wr Lr 24 [true] [] [] 0 [] hC [pq h1]
   ·exact wx w0b (R7 x0 (n0+1)) (Yl (n0+1)) Lr 25 [false] [] [] 0 [] _ hC [pq h1] (sI h).symm
 ·have h:=hnext0 _ hs0
  replace h:=sI h
  subst h
  exact wr Lr 23 [] [] [] 0 [] hC []
theorem At0:EN 121:=en Tryz.func121
theorem k50 (x0:Ab) (x1:Ab) (r:Bool) (h:F50 x0 x1=some r):CO 50 [.agg (d39 x0),.agg (d39 x1)] [] (.d (Bo r)) []:=by
 unfold F50 at h
 refine co 31 Tryz.func50 λ C hC=>?_
 obtain⟨y1,h2,y3,h4,y5,h6,y7,h8,h⟩:=Co h
 replace h:=sI h
 subst h
 exact wr n5_ 25 [] [pc e69 (k69 x0.Ag x1.Ag _ h2) [],pw e70 (λ hg=>k70 x0.Ac x1.Ac _ (Bd h4 hg)) [],pw e71 (λ hg=>k71 x0.Aq x1.Aq _ (Bd h6 hg)) [],pw e72 (λ hg=>k72 x0.Ao x1.Ao _ (Bd h8 hg)) []] [] 0 [] hC []
theorem e50:EN 50:=en Tryz.func50
theorem A6k (x0:Av) (x1c0:As) (r:Bool×As) (h:F_ x0 x1c0=r):CO 52 [.agg (d84 x0),.d (.o 0 0)] [.box 111 [.fn (.func 48) [] [.o 1 0]],.box 43 (d43 x1c0)] (.d (Bo r.1)) [.box 111 [.fn (.func 48) [] [.o 1 0]],.box 43 (d43 r.2)]:=by
 unfold F_ at h
 refine co 16 Tryz.func52 λ C hC=>?_
 subst h
 exact wr n4_ 25 [] [pb Azl (Azg x0.High x1c0 _ rfl),⟨.when [(!(Q0 x0.High x1c0),false)] (.callB 48 [dI x0.Low,.d (.ip [.v (.int .i64 x1c0.Time),.s (x1c0.Power.Ag.map pB),.s (x1c0.Power.Ac.map q93),.s (x1c0.Power.Aq.map pI),.s (x1c0.Power.Ao.map q96),.s (x1c0.A1.map q84),.s (x1c0.A8.map q65)])] (dB (Q0 x0.Low x1c0)) [[]] 0 []),λ hg=>Iv ⟨Azl,(Azg x0.Low x1c0 _ rfl)⟩⟩] [] 2 [0,1] hC []
theorem A65:EN 52:=en Tryz.func52
def Hk:List Nat:=[0,1,2,3,4,6,7,14,21,27,39]
def vG (x1:Am) (z0:Bool):St:=[(2,dO 0 0),(3,dO 1 0),(4,dB false),(6,dI x1.Kind),(7,dB z0)]
def yV (x0:Aa) (x1:Am) (z0:Bool):List Res:=[.box 30 (d30 x0),.box 63 (d63 x1)]
def vF (x1:Am) (z1:Bool):St:=[(2,dO 0 0),(3,dO 1 0),(4,dB false),(6,dI x1.Kind),(14,dB z1)]
def yU (x0:Aa) (x1:Am) (z1:Bool):List Res:=[.box 30 (d30 x0),.box 63 (d63 x1)]
theorem A3z (x0 : Aa) (x1 : Am) (r : Bool) (h : Aaa x0 x1 = some r) : CO 108 [.agg (d30 x0), .agg (d63 x1)] [] (.d (Bo r)) [] := by
 unfold Aaa at h
 refine co 48 Tryz.func108 λ C hC=>?_
 refine wn Hk 30 [] [] [] 0 [0,1] [2,3,4,6,7] hC [] ?_
 obtain⟨w0,h,hret0,hnext0⟩:=Ar h
 refine wc w0 (vG x1) (yV x0 x1) ?_ λ z0 hs0=>?_
 ·unfold zZ at h
  rcases cB h with⟨h1,h⟩ | ⟨h1,h⟩
  ·exact wx w0 (vG x1) (yV x0 x1) Hk 23 [true] [] [] 0 [0,1] _ hC [pq h1] (sI h).symm
  ·exact wx w0 (vG x1) (yV x0 x1) Hk 23 [false] [] [] 0 [0,1] _ hC [pq h1] (sI h).symm
 ·clear h; have h := hnext0 _ hs0
  rcases cB h with⟨h2,h⟩ | ⟨h2,h⟩
  ·replace h:=sI h
   subst h
   exact wr Hk 24 [true] [pc Xy (Xs x0 2 x1.Unit _ rfl) []] [] 0 [] hC [pq h2]
  ·refine wn Hk 25 [false] [] [] 0 [0,1] [2,3,4,6,14] hC [pq h2] ?_
   obtain⟨w1,h,hret1,hnext1⟩:=Ar h
   refine wc w1 (vF x1) (yU x0 x1) ?_ λ z1 hs1=>?_
   ·unfold zY at h
    rcases cB h with⟨h3,h⟩ | ⟨h3,h⟩
    ·exact wx w1 (vF x1) (yU x0 x1) Hk 23 [true] [] [] 0 [0,1] _ hC [pq h3] (sI h).symm
    ·exact wx w1 (vF x1) (yU x0 x1) Hk 23 [false] [] [] 0 [0,1] _ hC [pq h3] (sI h).symm
   ·clear h;have h:=hnext1 _ hs1
    rcases cB h with⟨h4,h⟩ | ⟨h4,h⟩
    ·replace h:=sI h
     subst h
     exact wr Hk 24 [true] [pc Xy (Xs x0 1 x1.Unit _ rfl) []] [] 0 [] hC [pq h4]
    ·rcases cB h with⟨h5,h⟩ | ⟨h5,h⟩
     ·replace h:=sI h
      subst h
      exact wr Hk 27 [false,true] [pc Xy (Xs x0 4 x1.Unit _ rfl) []] [] 0 [] hC [pq h4,pq h5]
     ·rcases cB h with⟨h6,h⟩ | ⟨h6,h⟩
      ·replace h:=sI h
       subst h
       exact wr Hk 30 [false,false,true] [pc Xy (Xs x0 1 x1.Unit _ rfl) [],⟨.when [(J0 x0 1 x1.Unit,true)] (.call 135 [.agg (d30 x0),dI 3,dI x1.Value] [] (dB (J0 x0 3 x1.Value)) [] []),λ hg=>⟨Xy,(Xs x0 3 x1.Value _ rfl)⟩⟩] [] 0 [] hC [pq h4,pq h5,pq h6]
      ·rcases cB h with⟨h7,h⟩ | ⟨h7,h⟩
       ·replace h:=sI h
        subst h
        exact wr Hk 36 [false,false,false,true,true] [pc Xy (Xs x0 x1.Value x1.Unit _ rfl) []] [] 0 [] hC [pq h4,pq h5,pq h6,pq h7,pq h7]
       ·rcases cB h with⟨h8,h⟩ | ⟨h8,h⟩
        ·replace h:=sI h
         subst h
         exact wr Hk 36 [false,false,false,false,true] [pc Xy (Xs x0 x1.Value x1.Unit _ rfl) []] [] 0 [] hC [pq h4,pq h5,pq h6,pq h7,pq h8]
        ·replace h:=sI h
         subst h
         exact wr Hk 38 [false,false,false,false,false] [] [] 0 [] hC [pq h4,pq h5,pq h6,pq h7,pq h8]
theorem A5e:EN 108:=en Tryz.func108
theorem A74 (x0:List Ak) (x1:Ak) (r:Bool) (h:Aqj x0 x1=some r):CO 198 [.d (DS q96 x0),.agg (d96 x1)] [] (.d (Bo r)) []:=by
 unfold Aqj at h
 refine co 9 Tryz.func198 λ C hC=>?_
 obtain⟨y1,h2,h⟩:=Az h
 replace h:=sI h
 subst h
 exact wr [0,1,3,4] 25 [] [pc A81 (A70 x0 x1 _ h2) []] [] 0 [] hC []
theorem A85:EN 198:=en Tryz.func198
theorem A7y (x0:Int) (x1:Int) (r:Int) (h:Aqg x0 x1=r):CO 215 [.d (I x0),.d (I x1)] [] (.d (I r)) []:=by
 unfold Aqg at h
 refine co 17 Tryz.func215 λ C hC=>?_
 refine wn [0,1,4,5,13] 28 [] [pc Aop (An9 x1 _ rfl) [],pc Aop (An9 x0 _ rfl) [],pc Aop (An9 (w64 ((Gu x1)-(Gu x0))) _ rfl) []] [] 0 [] [4,5,13] hC [] ?_
 rcases cB h with⟨h1,h⟩ | ⟨h1,h⟩
 ·subst h
  exact wr [0,1,4,5,13] 25 [true] [] [] 0 [] hC [pq h1]
 ·subst h
  exact wr [0,1,4,5,13] 25 [false] [] [] 0 [] hC [pq h1]
theorem A8z:EN 215:=en Tryz.func215
def Lm:List Nat:=[0,1,4,5,7,8,9,16]
def Ry (x0:List Aj) (n0:Nat) (z0:Unit):St:=[(0,.d (DS q70 x0)),(1,.d (.fn (.func 211) [] [.o 0 0])),(4,dI 0),(7,dI (ln x0)),(8,dI (cnt 0 n0))]
def Yh (x1c0:Int) (n0:Nat) (z0:Unit):List Res:=[.box 3 [I x1c0]]
def Aaw  (z0:Unit):St:=[(4,dI 0)]
def Ab2 (x1c0:Int) (z0:Unit):List Res:=[.box 3 [I x1c0]]
theorem A28 (x0:List Aj) (x1c0:Int) (r:Int×Int) (h:uB x0 x1c0=some r):CO 172 [.d (DS q70 x0),.d (.fn (.func 211) [] [.o 0 0])] [.box 3 [I x1c0]] (.d (I r.1)) [.box 3 [I r.2]]:=by
 unfold uB at h
 refine co 19 Tryz.func172 λ C hC=>?_
 refine ws Lm 26 [] [pl q70 x0] [] 1 [0] (Ry x0 0 ()) (Yh x1c0 0 ()) hC [] ?_
 obtain⟨w0,hm0,hret0,hnext0⟩:=Ar h
 clear h
 refine wc w0 (Aaw) (Ab2 x1c0) ?_ λ z0 hs0=>?_
 ·refine wb ?_
  refine Bq 0 rfl λ hl0=>?_
  refine wl (Ry x0) (Yh x1c0) hm0 (λ z0 hn0=>?_) λ n0 a0 z0 w0b hi0 hx0 h hb0 hr0=>?_
  ·clear hm0
   exact wx w0 (Aaw) (Ab2 x1c0) Lm 26 [false] [] [] 1 [0] _ hC [pq (Bf hl0)] hn0
  ·unfold Nv at h
   refine wn Lm 32 [true] [pt hx0 hl0,pb A4a (A2v a0 x1c0 _ rfl)] [] 1 [0] [0,1,4,5,7,8,16] hC [pq (A_ hi0 hl0)] ?_
   rcases cB h with⟨h1,h⟩ | ⟨h1,h⟩
   ·have hq:=hret0 _ (hr0 _ (sI h).symm)
    replace hq:=sI hq
    subst hq
    exact wr Lm 24 [true] [] [] 1 [0] hC [pq h1]
   ·exact wx w0b (Ry x0 (n0+1)) (Yh x1c0 (n0+1)) Lm 25 [false] [] [] 1 [0] _ hC [pq h1] (sI h).symm
 ·have h:=hnext0 _ hs0
  replace h:=sI h
  subst h
  exact wr Lm 23 [] [] [] 1 [0] hC []
theorem A4n:EN 172:=en Tryz.func172
def Lk:List Nat:=[0,1,2,4,6,7,8,9,10,11,17,31]
def M1 (x0:List Ak) (z0:Int×Int):St:=[(0,.d (DS q96 x0)),(2,.d (.fn (.func 178) [] [])),(4,dO 0 0),(6,dI 0),(7,dB false),(8,dI (ln x0)),(9,dI z0.1),(10,dI z0.2)]
def Ql (x1:Ak) (z0:Int×Int):List Res:=[.box 96 (d96 x1)]
def Aau (x0:List Ak) (z0:Int×Int):St:=[(0,.d (DS q96 x0)),(2,.d (.fn (.func 178) [] [])),(4,dO 0 0),(6,dI 0),(7,dB false),(8,dI (ln x0)),(9,dI z0.1)]
def Ab0 (x1:Ak) (z0:Int×Int):List Res:=[.box 96 (d96 x1)]
theorem As3 (x0:List Ak) (x1:Ak) (r:Int×Bool) (h:T4 x0 x1=some r):CO 177 [.d (DS q96 x0),.agg (d96 x1),.d (.fn (.func 178) [] [])] [] (.tup [.d (I r.1),.d (Bo r.2)]) []:=by
 unfold T4 at h
 refine co 49 Tryz.func177 λ C hC=>?_
 refine ws Lk 28 [] [pl q96 x0] [] 0 [0] (M1 x0 (0,(ln x0))) (Ql x1 (0,(ln x0))) hC [] ?_
 obtain⟨w0,hm0,hret0,hnext0⟩:=Ar h
 clear h
 refine wc w0 (Aau x0) (Ab0 x1) ?_ λ z0 hs0=>?_
 ·refine wb ?_
  refine ww (M1 x0) (Ql x1) hm0 λ z0 w0b h hb0 hr0=>?_
  unfold T3 at h
  rcases cB h with⟨h1,h⟩ | ⟨h1,h⟩
  ·obtain⟨y2,h3,h⟩:=Az h
   refine wn Lk 31 [true] [pr q96 h3,pc A4k (A25 y2 x1 _ rfl) []] [] 0 [0] [0,2,4,6,7,8,9,10,11,31] hC [pq h1] ?_
   rcases cB h with⟨h4,h⟩ | ⟨h4,h⟩
   ·exact wx w0b (M1 x0) (Ql x1) Lk 24 [true] [] [] 0 [0] _ hC [pq h4] (sI h).symm
   ·exact wx w0b (M1 x0) (Ql x1) Lk 24 [false] [] [] 0 [0] _ hC [pq h4] (sI h).symm
  ·exact wx w0 (Aau x0) (Ab0 x1) Lk 26 [false] [] [] 0 [0] (z0.1,z0.2) hC [pq h1] (hb0 _ (sI h).symm)
 ·have h:=hnext0 _ hs0
  obtain⟨y5,h6,h⟩:=Az h
  replace h:=sI h
  subst h
  exact wr Lk 23 [] [pR q96 h6,⟨.when [(decide (z0.1<(ln x0)),true)] (.call 178 [.agg (d96 y5),.agg (d96 x1)] [] (dI (Q7 y5 x1)) [] []),λ hg=>⟨A4k,(A25 y5 x1 _ rfl)⟩⟩] [] 0 [] hC []
theorem Atx:EN 177:=en Tryz.func177
def He:List Nat:=[0,1,4,5,6,8,13,14,15,16,32,38,39,40,41]
def M5 (x0:Ay) (n0:Nat) (z0:(List Int)):St:=[(0,dO 0 0),(1,.d (.fn (.func 194) [] [.o 6 0])),(4,dS 7),(13,.d (DS q70 x0.Al.Ad)),(14,dI (ln x0.Al.Ad)),(15,dI (cnt 0 n0))]
def Qp (x0:Ay) (x1c0:Int) (n0:Nat) (z0:(List Int)):List Res:=(.box 214 (zb x0.Al [.os 8,.os 9,.os 10,.os 11,.os 12]) :: .non :: .non :: .non :: .non :: .non :: .box 3 [I x1c0]::v0_ z0::zp x0.Au [v6_ x0.acts])
def Aa1  (z0:(List Int)):St:=[(0,dO 0 0),(4,dS 7)]
def Ab7 (x0:Ay) (x1c0:Int) (z0:(List Int)):List Res:=(.box 214 (zb x0.Al [.os 8,.os 9,.os 10,.os 11,.os 12]) :: .non :: .non :: .non :: .non :: .non :: .box 3 [I x1c0]::v0_ z0::zp x0.Au [v6_ x0.acts])
def Rz (z0:(List Int)) (n1:Nat) (z1:Sg8):St:=[(0,dO 0 0),(38,dS 7),(39,dI (ln z0)),(40,dI (cnt 0 n1))]
def Yi (x1c0:Int) (z0:(List Int)) (n1:Nat) (z1:Sg8):List Res:=[.box 214 [I z1.1,DS q70 z1.2.1,DS q72 z1.2.2.1,DS q81 (g3_ z1),I (g4_ z1),I (g5_ z1),.os 8,.os 9,.os 10,.os 11,.os 12],.non,.non,.non,.non,.non,.box 3 [I x1c0],v0_ z0,v2_ (g6_ z1),v5_ (g7_ z1),v0_ (g8_ z1),v3_ (g9_ z1),v6_ (Fl z1)]
def Aa0  (z1:Sg8):St:=[]
def Ab6 (x1c0:Int) (z1:Sg8):List Res:=[.box 214 [I z1.1,DS q70 z1.2.1,DS q72 z1.2.2.1,DS q81 (g3_ z1),I (g4_ z1),I (g5_ z1),.os 7,.os 8,.os 9,.os 10,.os 11],.non,.non,.non,.non,.non,.box 3 [I x1c0],v2_ (g6_ z1),v5_ (g7_ z1),v0_ (g8_ z1),v3_ (g9_ z1),v6_ (Fl z1)]
theorem A3f (x0:Ay) (x1c0:Int) (r:Ay×Int) (h:Uf x0 x1c0=some r):CO 156 [.d (.o 0 0),.d (.fn (.func 194) [] [.o 6 0])] (.box 214 (zb x0.Al [.os 1,.os 2,.os 3,.os 4,.os 5])::zp x0.Au [v6_ x0.acts,.box 3 [I x1c0]]) (.tup []) (.box 214 (zb r.1.Al [.os 7,.os 8,.os 9,.os 10,.os 11]) :: .non :: .non :: .non :: .non :: .non :: .box 3 [I r.2]::zp r.1.Au [v6_ r.1.acts]):=by
 unfold Uf at h
 refine co 48 Tryz.func156 λ C hC=>?_
 refine ws He 26 [] [pl q70 x0.Al.Ad] [.own 4 3 1,.mv 1,.mv 2,.mv 3,.mv 4,.mv 5] 7 H2 (M5 x0 0 ([]:List Int)) (Qp x0 x1c0 0 ([]:List Int)) hC [] ?_
 obtain⟨w0,hm0,hret0,hnext0⟩:=Ar h
 clear h
 refine wc w0 (Aa1) (Ab7 x0 x1c0) ?_ λ z0 hs0=>?_
 ·refine wb ?_
  refine Bq 13 rfl λ hl0=>?_
  refine wl (M5 x0) (Qp x0 x1c0) hm0 (λ z0 hn0=>?_) λ n0 a0 z0 w0b hi0 hx0 h hb0 hr0=>?_
  ·clear hm0
   exact wx w0 (Aa1) (Ab7 x0 x1c0) He 26 [false] [] [] 7 H2 _ hC [pq (Bf hl0)] hn0
  ·unfold Ue at h
   obtain⟨y1,h2,h⟩:=Az h
   refine wn He 32 [true] [pt hx0 hl0,pr pB h2,pn pB h2,⟨.when [(y1,true)] (.callB 194 [.agg (d70 a0),.d (.ip [.v (.int .i64 x1c0)])] (dB (T0 a0 x1c0)) [[]] 0 []),λ hg=>Iv ⟨A4d,(A2y a0 x1c0 _ rfl)⟩⟩] [] 7 H2 [0,1,4,5,13,14,15,32] hC [pq (A_ hi0 hl0)] ?_
   rcases cB h with⟨h3,h⟩ | ⟨h3,h⟩
   ·obtain⟨y4,h5,h⟩:=Az h
    exact wx w0b (M5 x0 (n0+1)) (Qp x0 x1c0 (n0+1)) He 25 [true] [pa pI 1 h5] [] 7 [0,1,2,3,4,5,6,13,8,9,10,11,12] _ hC [pq h3] (sI h).symm
   ·exact wx w0b (M5 x0 (n0+1)) (Qp x0 x1c0 (n0+1)) He 25 [false] [] [] 7 H2 _ hC [pq h3] (sI h).symm
 ·have h:=hnext0 _ hs0
  refine ws He 23 [] [pl pI z0] [] 7 H2 (Rz z0 0 (zt x0.Al (zu x0.Au x0.acts))) (Yi x1c0 z0 0 (zt x0.Al (zu x0.Au x0.acts))) hC [] ?_
  obtain⟨w1,hm1,hret1,hnext1⟩:=Ar h
  clear h
  refine wc w1 (Aa0) (Ab6 x1c0) ?_ λ z1 hs1=>?_
  ·refine wb ?_
   refine Cj 38 7 rfl rfl λ hl1=>?_
   refine wl (Rz z0) (Yi x1c0 z0) hm1 (λ z1 hn1=>?_) λ n1 a1 z1 w1b hi1 hx1 h hb1 hr1=>?_
   ·clear hm1
    exact wx w1 (Aa0) (Ab6 x1c0) He 26 [false] [] [] 7 [0,1,2,3,4,5,6,8,9,10,11,12] _ hC [pq (Bf hl1)] hn1
   ·unfold Aci at h
    obtain⟨y6,h7,h⟩:=Az h
    exact wx w1b (Rz z0 (n1+1)) (Yi x1c0 z0 (n1+1)) He 33 [true] [pr pI (Bn hx1 hl1),pn pI (Bn hx1 hl1),pc Ag0 (Af8 (⟨(⟨z1.1,z1.2.1,z1.2.2.1,(g3_ z1),(g4_ z1),(g5_ z1)⟩:Aa),(⟨(g6_ z1),(g7_ z1),(g8_ z1),(g9_ z1)⟩:Ab),(Fl z1)⟩:Ay) a1 _ h7) [0,8,9,10,11,12]] [] 7 [0,1,2,3,4,5,6,7,8,9,10,11,13] _ hC [pq (A_ hi1 hl1)] (sI h).symm
  ·have h:=hnext1 _ hs1
   replace h:=sI h
   subst h
   exact wf He 20 [] [] [] 7 Fj hC []
theorem A4u:EN 156:=en Tryz.func156
theorem A8b (x0:Int) (x1:Int) (r:Int×Int) (h:T8 x0 x1=r):CO 164 [.d (.p (.v (.int .u64 x0))),.d (.p (.v (.int .u64 x1)))] [] (.tup [.d (.p (.v (.int .u64 r.1))),.d (.p (.v (.int .u64 r.2)))]) []:=by
 unfold T8 at h
 refine co 30 Tryz.func164 λ C hC=>?_
 subst h
 exact wr [0,1,4,5,6,7,8,9] 30 [false] [pc A86 (A75 x0 x1 _ rfl) []] [] 0 [] hC [⟨(false,false),rfl⟩]
theorem A9c:EN 164:=en Tryz.func164
def Ll:List Nat:=[0,1,4,5,7,8,9,16]
def Rx (x0:List Aj) (n0:Nat) (z0:Unit):St:=[(0,.d (DS q70 x0)),(1,.d (.fn (.func 173) [] [.o 0 0])),(4,dI 0),(7,dI (ln x0)),(8,dI (cnt 0 n0))]
def Yg (x1c0:Int) (n0:Nat) (z0:Unit):List Res:=[.box 3 [I x1c0]]
def Aav  (z0:Unit):St:=[(4,dI 0)]
def Ab1 (x1c0:Int) (z0:Unit):List Res:=[.box 3 [I x1c0]]
theorem A27 (x0:List Aj) (x1c0:Int) (r:Int×Int) (h:uA x0 x1c0=some r):CO 172 [.d (DS q70 x0),.d (.fn (.func 173) [] [.o 0 0])] [.box 3 [I x1c0]] (.d (I r.1)) [.box 3 [I r.2]]:=by
 unfold uA at h
 refine co 19 Tryz.func172 λ C hC=>?_
 refine ws Ll 26 [] [pl q70 x0] [] 1 [0] (Rx x0 0 ()) (Yg x1c0 0 ()) hC [] ?_
 obtain⟨w0,hm0,hret0,hnext0⟩:=Ar h
 clear h
 refine wc w0 (Aav) (Ab1 x1c0) ?_ λ z0 hs0=>?_
 ·refine wb ?_
  refine Bq 0 rfl λ hl0=>?_
  refine wl (Rx x0) (Yg x1c0) hm0 (λ z0 hn0=>?_) λ n0 a0 z0 w0b hi0 hx0 h hb0 hr0=>?_
  ·clear hm0
   exact wx w0 (Aav) (Ab1 x1c0) Ll 26 [false] [] [] 1 [0] _ hC [pq (Bf hl0)] hn0
  ·unfold Nu at h
   refine wn Ll 32 [true] [pt hx0 hl0,pb A4l (A26 a0 x1c0 _ rfl)] [] 1 [0] [0,1,4,5,7,8,16] hC [pq (A_ hi0 hl0)] ?_
   rcases cB h with⟨h1,h⟩ | ⟨h1,h⟩
   ·have hq:=hret0 _ (hr0 _ (sI h).symm)
    replace hq:=sI hq
    subst hq
    exact wr Ll 24 [true] [] [] 1 [0] hC [pq h1]
   ·exact wx w0b (Rx x0 (n0+1)) (Yg x1c0 (n0+1)) Ll 25 [false] [] [] 1 [0] _ hC [pq h1] (sI h).symm
 ·have h:=hnext0 _ hs0
  replace h:=sI h
  subst h
  exact wr Ll 23 [] [] [] 1 [0] hC []
theorem A4m:EN 172:=en Tryz.func172
theorem k23 (x0:As) (r:Int) (h:F23 x0=some r):CO 23 [.agg (d43 x0)] [] (.d (.p (.v (.int .u64 r)))) []:=by
 unfold F23 at h
 refine co 7 Tryz.func23 λ C hC=>?_
 obtain⟨y1,h2,y3,h4,h⟩:=Bc h
 replace h:=sI h
 subst h
 exact wr n3_ 25 [] [pc e42 (k42  _ rfl) [],pc e22 (k22 x0 _ h2) [],pc e41 (k41 F42 y1 _ h4) []] [] 0 [] hC []
theorem e23:EN 23:=en Tryz.func23
theorem k19 (x0:Ah) (x1:Int) (r:Int×Ah) (h:F19 x0 x1=some r):CO 19 [.d (.o 0 0),.d (I x1)] [.box 77 (d77 x0)] (.d (I r.1)) [.box 77 (d77 r.2)]:=by
 unfold F19 at h
 refine co 35 Tryz.func19 λ C hC=>?_
 rcases cB h with⟨h1,h⟩ | ⟨h1,h⟩
 ·replace h:=sI h
  subst h
  exact wr [0,1,4,14] 29 [true] [pl pI x0.L] [] 1 [0] hC [pq h1]
 ·obtain⟨y2,h3,y4,h5,h⟩:=Bc h
  replace h:=sI h
  subst h
  exact wr [0,1,4,14] 32 [false] [pl pI x0.L,pr pI h3,pc e35 (k35 y2 x1 _ h5) []] [] 1 [0] hC [pq h1]
theorem e19:EN 19:=en Tryz.func19
def Af3:List Nat:=[0,1,2,3,4,6,7,16,25,33]
theorem k64 (x0:Aa) (x1:Ak) (r:Bool) (h:F64 x0 x1=r):CO 64 [.agg (d30 x0),.agg (d96 x1)] [] (.d (Bo r)) []:=by
 unfold F64 at h
 refine co 42 Tryz.func64 λ C hC=>?_
 rcases cB h with⟨h1,h⟩ | ⟨h1,h⟩
 ·subst h
  exact wr Af3 32 [true] [pl q72 x0.Ac,pc e82 (k82 x1.Number 0 (w64 ((ln x0.Ac)-1)) _ rfl) []] [] 0 [] hC [pq h1]
 ·rcases cB h with⟨h2,h⟩ | ⟨h2,h⟩
  ·subst h
   exact wr Af3 35 [false,true] [pl q70 x0.Ad,pc e82 (k82 x1.Number 0 (w64 ((ln x0.Ad)-1)) _ rfl) []] [] 0 [] hC [pq h1,pq h2]
  ·rcases cB h with⟨h3,h⟩ | ⟨h3,h⟩
   ·subst h
    exact wr Af3 38 [false,false,true] [pc e82 (k82 x1.Number 0 (w64 (x0.An-1)) _ rfl) []] [] 0 [] hC [pq h1,pq h2,pq h3]
   ·rcases cB h with⟨h4,h⟩ | ⟨h4,h⟩
    ·subst h
     exact wr Af3 41 [false,false,false,true] [pl q81 x0.Ae,pc e82 (k82 x1.Number 0 (w64 ((ln x0.Ae)-1)) _ rfl) []] [] 0 [] hC [pq h1,pq h2,pq h3,pq h4]
    ·subst h
     exact wr Af3 43 [false,false,false,false] [] [] 0 [] hC [pq h1,pq h2,pq h3,pq h4]
theorem e64:EN 64:=en Tryz.func64
theorem k16 (x0:List Int) (x1:List Int) (r:Bool) (h:F16 x0 x1=some r):CO 16 [.d (DS (pK .u64) x0),.d (DS (pK .u64) x1)] [] (.d (Bo r)) []:=by
 unfold F16 at h
 refine co 9 Tryz.func16 λ C hC=>?_
 obtain⟨y1,h2,h⟩:=Az h
 replace h:=sI h
 subst h
 exact wr [0,1,4] 25 [] [pc e32 (k32 x0 x1 _ h2) []] [] 0 [] hC []
theorem e16:EN 16:=en Tryz.func16
def Mf:List Nat:=[0,1,2,3,4,5,6,38,41,42,43,55,59,60,61,73]
def Aem (x0:Ab) (z0:Int):St:=[(2,dO 0 0),(3,dO 1 0),(4,dB false),(41,dI (ln x0.Ac)),(42,dI z0)]
def Ap5 (x0:Ab) (x1:Ab) (z0:Int):List Res:=[.box 39 (d39 x0),.box 39 (d39 x1)]
def Asa  (z0:Int):St:=[(2,dO 0 0),(3,dO 1 0),(4,dB false)]
def Av0 (x0:Ab) (x1:Ab) (z0:Int):List Res:=[.box 39 (d39 x0),.box 39 (d39 x1)]
def Ael (x0:Ab) (z1:Int):St:=[(2,dO 0 0),(3,dO 1 0),(4,dB false),(59,dI (ln x0.Ao)),(60,dI z1)]
def Ap4 (x0:Ab) (x1:Ab) (z1:Int):List Res:=[.box 39 (d39 x0),.box 39 (d39 x1)]
def Ar9  (z1:Int):St:=[(4,dB false)]
def Avz  (z1:Int):List Res:=[]
theorem k33 (x0:Ab) (x1:Ab) (r:Bool) (h:F33 x0 x1=some r):CO 33 [.agg (d39 x0),.agg (d39 x1)] [] (.d (Bo r)) []:=by
 unfold F33 at h
 refine co 75 Tryz.func33 λ C hC=>?_
 obtain⟨y1,h2,y3,h4,h⟩:=Bc h
 refine wn Mf 26 [] [pc e54 (k54 x0.Ag x1.Ag _ h2) [],pw e55 (λ hg=>k55 x0.Aq x1.Aq _ (Bd h4 hg)) [],pL_ [(((!y1) || (!y3)),false)] q93 x0.Ac,pL_ [(((!y1) || (!y3)),false)] q93 x1.Ac,pL_ [((((!y1) || (!y3)) || ((ln x0.Ac) != (ln x1.Ac))),false)] q96 x0.Ao,pL_ [((((!y1) || (!y3)) || ((ln x0.Ac) != (ln x1.Ac))),false)] q96 x1.Ao] [] 0 [0,1] [2,3,4,38] hC [] ?_
 rcases cB h with⟨h5,h⟩ | ⟨h5,h⟩
 ·replace h:=sI h
  subst h
  exact wr Mf 24 [true] [] [] 0 [] hC [pq h5]
 ·refine ws Mf 26 [false] [pl q93 x0.Ac] [] 0 [0,1] (Aem x0 0) (Ap5 x0 x1 0) hC [pq h5] ?_
  obtain⟨w0,hm0,hret0,hnext0⟩:=Ar h
  clear h
  refine wc w0 (Asa) (Av0 x0 x1) ?_ λ z0 hs0=>?_
  ·refine wb ?_
   refine ww (Aem x0) (Ap5 x0 x1) hm0 λ z0 w0b h hb0 hr0=>?_
   unfold Ajl at h
   rcases cB h with⟨h6,h⟩ | ⟨h6,h⟩
   ·obtain⟨y7,h8,y9,h10,h⟩:=Bc h
    rcases cB h with⟨h11,h⟩ | ⟨h11,h⟩
    ·have hq:=hret0 _ (hr0 _ (sI h).symm)
     replace hq:=sI hq
     subst hq
     exact wr Mf 35 [true,true] [pr q93 h8,pr q93 h10] [] 0 [] hC [pq h6,pq h11]
    ·exact wx w0b (Aem x0) (Ap5 x0 x1) Mf 36 [true,false] [pr q93 h8,pr q93 h10] [] 0 [0,1] _ hC [pq h6,pq h11] (sI h).symm
   ·exact wx w0 (Asa) (Av0 x0 x1) Mf 26 [false] [] [] 0 [0,1] z0 hC [pq h6] (hb0 _ (sI h).symm)
  ·have h:=hnext0 _ hs0
   refine ws Mf 24 [] [pl q96 x0.Ao] [] 0 [0,1] (Ael x0 0) (Ap4 x0 x1 0) hC [] ?_
   obtain⟨w1,hm1,hret1,hnext1⟩:=Ar h
   clear h
   refine wc w1 (Ar9) (Avz) ?_ λ z1 hs1=>?_
   ·refine wb ?_
    refine ww (Ael x0) (Ap4 x0 x1) hm1 λ z1 w1b h hb1 hr1=>?_
    unfold Ajk at h
    rcases cB h with⟨h12,h⟩ | ⟨h12,h⟩
    ·obtain⟨y13,h14,y15,h16,h⟩:=Bc h
     rcases cB h with⟨h17,h⟩ | ⟨h17,h⟩
     ·have hq:=hret1 _ (hr1 _ (sI h).symm)
      replace hq:=sI hq
      subst hq
      exact wr Mf 35 [true,true] [pr q96 h14,pr q96 h16] [] 0 [] hC [pq h12,pq h17]
     ·exact wx w1b (Ael x0) (Ap4 x0 x1) Mf 36 [true,false] [pr q96 h14,pr q96 h16] [] 0 [0,1] _ hC [pq h12,pq h17] (sI h).symm
    ·exact wx w1 (Ar9) (Avz) Mf 26 [false] [] [] 0 [] z1 hC [pq h12] (hb1 _ (sI h).symm)
   ·have h:=hnext1 _ hs1
    replace h:=sI h
    subst h
    exact wr Mf 23 [] [] [] 0 [] hC []
theorem e33:EN 33:=en Tryz.func33
theorem k43 (x0:Aa) (r:Int) (h:F43 x0=some r):CO 43 [.agg (d30 x0)] [] (.d (I r)) []:=by
 unfold F43 at h
 refine co 62 Tryz.func43 λ C hC=>?_
 refine wn [0,1,2,28,61] 26 [] [pL_ [(((decide (x0.An<1)) || (decide (x0.An>6))),false)] q70 x0.Ad,pL_ [((((decide (x0.An<1)) || (decide (x0.An>6))) || (decide ((ln x0.Ad)>24))),false)] q72 x0.Ac,pL_ [(((((decide (x0.An<1)) || (decide (x0.An>6))) || (decide ((ln x0.Ad)>24))) || (decide ((ln x0.Ac)>8))),false)] q81 x0.Ae] [] 0 [0] [1,2,28] hC [] ?_
 rcases cB h with⟨h1,h⟩ | ⟨h1,h⟩
 ·replace h:=sI h
  subst h
  exact wr [0,1,2,28,61] 24 [true] [] [] 0 [] hC [pq h1]
 ·obtain⟨y2,h3,y4,h5,y6,h7,h⟩:=B0 h
  refine wn [0,1,2,28,61] 26 [false] [pc e59 (k59 x0 _ h3) [],pw e60 (λ hg=>k60 x0 _ (Bd h5 hg)) [],pw e61 (λ hg=>k61 x0 _ (Bd h7 hg)) []] [] 0 [] [2,61] hC [pq h1] ?_
  rcases cB h with⟨h8,h⟩ | ⟨h8,h⟩
  ·replace h:=sI h
   subst h
   exact wr [0,1,2,28,61] 24 [true] [] [] 0 [] hC [pq h8]
  ·replace h:=sI h
   subst h
   exact wr [0,1,2,28,61] 25 [false] [] [] 0 [] hC [pq h8]
theorem e43:EN 43:=en Tryz.func43
theorem A3j (x0:List (List Int)) (r:Bool) (h:Uk x0=some r):CO 153 [.d (DS (pL pI) x0),.d (.fn (.func 154) [] [])] [] (.d (Bo r)) []:=by
 unfold Uk at h
 refine co 9 Tryz.func153 λ C hC=>?_
 obtain⟨y1,h2,h⟩:=Az h
 replace h:=sI h
 subst h
 exact wr [0,1,4] 25 [] [pc A4h (A22 x0 _ h2) []] [] 0 [] hC []
theorem A4y:EN 153:=en Tryz.func153
def vP:List Nat:=[0,1,2,4,5,6,7,8,9,10,49]
def Adv (x1:List Ak) (n0:Nat) (z0:Unit):St:=[(1,.d (DS q96 x1)),(2,dO 0 0),(4,dB false),(7,.d (DS q96 x1)),(8,dI (ln x1)),(9,dI (cnt 0 n0))]
def Ape (x0:Aa) (n0:Nat) (z0:Unit):List Res:=[.box 30 (d30 x0)]
def Arc (x1:List Ak) (z0:Unit):St:=[(1,.d (DS q96 x1)),(4,dB false)]
def Au2  (z0:Unit):List Res:=[]
theorem k87 (x0:Aa) (x1:List Ak) (r:Bool) (h:F87 x0 x1=some r):CO 87 [.agg (d30 x0),.d (DS q96 x1)] [] (.d (Bo r)) []:=by
 unfold F87 at h
 refine co 54 Tryz.func87 λ C hC=>?_
 refine ws vP 26 [] [pl q96 x1] [] 0 [0] (Adv x1 0 ()) (Ape x0 0 ()) hC [] ?_
 obtain⟨w0,hm0,hret0,hnext0⟩:=Ar h
 clear h
 refine wc w0 (Arc x1) (Au2) ?_ λ z0 hs0=>?_
 ·refine wb ?_
  refine Bq 7 rfl λ hl0=>?_
  refine wl (Adv x1) (Ape x0) hm0 (λ z0 hn0=>?_) λ n0 a0 z0 w0b hi0 hx0 h hb0 hr0=>?_
  ·clear hm0
   exact wx w0 (Arc x1) (Au2) vP 26 [false] [] [] 0 [] _ hC [pq (Bf hl0)] hn0
  ·unfold qI at h
   obtain⟨y1,h2,y3,h4,y5,h6,h⟩:=B0 h
   refine wn vP 32 [true] [pt hx0 hl0,pc A9p (A8o x0 a0.Kind _ rfl) [],pc e91 (k91 a0.Number 0 (w64 ((K2 x0 a0.Kind)-1)) _ rfl) [],pR q96 h2,⟨.when [(!(F91 a0.Number 0 (w64 ((K2 x0 a0.Kind)-1))),false),(decide ((cnt 0 n0)>0),true)] (.call 118 [dI y1.Kind,dI a0.Kind] [] (dI (J1 y1.Kind a0.Kind)) [] []),λ hg=>⟨Ax7,(Axp y1.Kind a0.Kind _ rfl)⟩⟩,pR q96 h4,⟨.when [(!(F91 a0.Number 0 (w64 ((K2 x0 a0.Kind)-1))),false),(decide ((cnt 0 n0)>0),true)] (.call 118 [dI y3.Number,dI a0.Number] [] (dI (J1 y3.Number a0.Number)) [] []),λ hg=>⟨Ax7,(Axp y3.Number a0.Number _ rfl)⟩⟩,pw A9o (λ hg=>A8n [J1 y1.Kind a0.Kind,J1 y3.Number a0.Number] _ (Bd h6 hg)) []] [] 0 [0] [1,2,4,7,8,9,49] hC [pq (A_ hi0 hl0)] ?_
   rcases cB h with⟨h7,h⟩ | ⟨h7,h⟩
   ·have hq:=hret0 _ (hr0 _ (sI h).symm)
    replace hq:=sI hq
    subst hq
    exact wr vP 24 [true] [] [] 0 [] hC [pq h7]
   ·exact wx w0b (Adv x1 (n0+1)) (Ape x0 (n0+1)) vP 25 [false] [] [] 0 [0] _ hC [pq h7] (sI h).symm
 ·have h:=hnext0 _ hs0
  replace h:=sI h
  subst h
  exact wr vP 23 [] [pl q96 x1] [] 0 [] hC []
theorem e87:EN 87:=en Tryz.func87
theorem k89 (x0:Af) (r:Bool) (h:F89 x0=r):CO 89 [.agg (d93 x0)] [] (.d (Bo r)) []:=by
 unfold F89 at h
 refine co 6 Tryz.func89 λ C hC=>?_
 subst h
 exact wr n3_ 25 [] [pc e90 (k90 x0 _ rfl) []] [] 0 [] hC []
theorem e89:EN 89:=en Tryz.func89
def Jt:List Nat:=[0,1,4,5,6,7,12,19,29]
def M_  (z0:Int×Int×(List Ai)):St:=[(0,dS 0),(1,.d (.fn (.func 101) [] [])),(4,.d (DS Bg [])),(5,dI z0.1),(6,dI z0.2.1)]
def Qv  (z0:Int×Int×(List Ai)):List Res:=[v8_ z0.2.2]
def Aba  (z0:Int×Int×(List Ai)):St:=[(0,dS 0),(4,.d (DS Bg [])),(5,dI z0.1)]
def Acg  (z0:Int×Int×(List Ai)):List Res:=[v8_ z0.2.2]
theorem As8 (x0:List Ai) (r:(List Ai)) (h:Pc x0=some r):CO 100 [.d (.os 0),.d (.fn (.func 101) [] [])] [.sl 137 3 (x0.map Bg)] (.d (.os 1)) [.non,.sl 137 3 (r.map Bg)]:=by
 unfold Pc at h
 refine co 42 Tryz.func100 λ C hC=>?_
 obtain⟨y1,h2,h⟩:=Az h
 rcases cB h with⟨h3,h⟩ | ⟨h3,h⟩
 ·replace h:=sI h
  subst h
  exact wr Jt 31 [true] [pb At0 (As6 x0 _ h2)] [.mv 0] 1 [0,1] hC [pq h3]
 ·refine ws Jt 33 [false] [pb At0 (As6 x0 _ h2)] [] 1 [0] (M_ (y1,w64 (y1+1),x0)) (Qv (y1,w64 (y1+1),x0)) hC [pq h3] ?_
  obtain⟨w0,hm0,hret0,hnext0⟩:=Ar h
  clear h
  refine wc w0 (Aba) (Acg) ?_ λ z0 hs0=>?_
  ·refine wb ?_
   refine ww (M_) (Qv) hm0 λ z0 w0b h hb0 hr0=>?_
   unfold Uw at h
   rcases cB h with⟨h4,h⟩ | ⟨h4,h⟩
   ·obtain⟨y5,h6,h⟩:=Az h
    refine wn Jt 32 [true] [pl Bg z0.2.2,pr Bg h6,pn Bg h6,pc A5g (A31 y5 _ rfl) []] [] 1 [0,1] [0,1,4,5,6,7,29] hC [pq h4] ?_
    rcases cB h with⟨h7,h⟩ | ⟨h7,h⟩
    ·obtain⟨y8,h9,y10,h11,h⟩:=Bc h
     exact wx w0b (M_) (Qv) Jt 27 [true] [pr Bg h9,pu Bg h9 h11] [] 1 [0] _ hC [pq h7] (sI h).symm
    ·exact wx w0b (M_) (Qv) Jt 25 [false] [] [] 1 [0] _ hC [pq h7] (sI h).symm
   ·exact wx w0 (Aba) (Acg) Jt 26 [false] [pl Bg z0.2.2] [] 1 [0] (z0.1,z0.2.1,z0.2.2) hC [pq h4] (hb0 _ (sI h).symm)
  ·have h:=hnext0 _ hs0
   obtain⟨u13,h12,u15,h14,h⟩:=Bc h
   replace h:=sI h
   subst h
   (rw [List.map_take];exact jZ (bs:=[]) mixed Jt 25 [] [.bnd (z0.2.2.map Bg).length z0.1 (((z0.2.2.map Bg).length:Nat):Int) (ln z0.2.2),.eqr ((z0.2.2.map Bg).take (Int.toNat z0.1)++(List.replicate ((Int.toNat (ln z0.2.2))-(Int.toNat z0.1)) (Bg (⟨([]:List Int),([]:List Int),([]:List Int)⟩:Ai))++(z0.2.2.map Bg).drop ((Int.toNat z0.1)+((Int.toNat (ln z0.2.2))-(Int.toNat z0.1))))) ((F5 z0.2.2 (Int.toNat z0.1) ((Int.toNat (ln z0.2.2))-(Int.toNat z0.1)) (⟨([]:List Int),([]:List Int),([]:List Int)⟩:Ai)).map Bg),.bnd ((F5 z0.2.2 (Int.toNat z0.1) ((Int.toNat (ln z0.2.2))-(Int.toNat z0.1)) (⟨([]:List Int),([]:List Int),([]:List Int)⟩:Ai)).map Bg).length 0 z0.1 z0.1] [.trunc 4] [.tmp 4] 1 [0,1] rfl hC ⟨E_ (by simp) (by simp) h12,yP Bg rfl,E_ (by simp) rfl h14,trivial⟩ trivial (by kernel_rfl))
theorem At2:EN 100:=en Tryz.func100
def Om:List Nat:=[0,1,4,5,7,8,9,16]
def Wv (x0:List Av) (n0:Nat) (z0:Sg0):St:=[(0,.d (DS q84 x0)),(1,.d (.fn (.func 52) [] [.o 0 0])),(4,dI 0),(7,dI (ln x0)),(8,dI (cnt 0 n0))]
def yX  (n0:Nat) (z0:Sg0):List Res:=[.box 111 [.fn (.func 48) [] [.o 1 0]],.box 43 [I z0.1,DS pB z0.2.1,DS q93 z0.2.2.1,DS pI (g3_ z0),DS q96 (g4_ z0),DS q84 (g5_ z0),DS q65 (Axz z0)]]
def Ae3  (z0:Sg0):St:=[(4,dI 0)]
def Aht  (z0:Sg0):List Res:=[.box 111 [.fn (.func 48) [] [.o 1 0]],.box 43 [I z0.1,DS pB z0.2.1,DS q93 z0.2.2.1,DS pI (g3_ z0),DS q96 (g4_ z0),DS q84 (g5_ z0),DS q65 (Axz z0)]]
theorem A6j (x0:List Av) (x1c0c0:As) (r:Int×As) (h:Adi x0 x1c0c0=some r):CO 73 [.d (DS q84 x0),.d (.fn (.func 52) [] [.o 0 0])] [.box 111 [.fn (.func 48) [] [.o 1 0]],.box 43 (d43 x1c0c0)] (.d (I r.1)) [.box 111 [.fn (.func 48) [] [.o 1 0]],.box 43 (d43 r.2)]:=by
 unfold Adi at h
 refine co 19 Tryz.func73 λ C hC=>?_
 refine ws Om 26 [] [pl q84 x0] [] 2 [0,1] (Wv x0 0 (x1c0c0.Time,zu x1c0c0.Power (x1c0c0.A1,x1c0c0.A8))) (yX 0 (x1c0c0.Time,zu x1c0c0.Power (x1c0c0.A1,x1c0c0.A8))) hC [] ?_
 obtain⟨w0,hm0,hret0,hnext0⟩:=Ar h
 clear h
 refine wc w0 (Ae3) (Aht) ?_ λ z0 hs0=>?_
 ·refine wb ?_
  refine Bq 0 rfl λ hl0=>?_
  refine wl (Wv x0) (yX) hm0 (λ z0 hn0=>?_) λ n0 a0 z0 w0b hi0 hx0 h hb0 hr0=>?_
  ·clear hm0
   exact wx w0 (Ae3) (Aht) Om 26 [false] [] [] 2 [0,1] _ hC [pq (Bf hl0)] hn0
  ·unfold Yq at h
   refine wn Om 32 [true] [pt hx0 hl0,pc A65 (A6k a0 (⟨z0.1,(⟨z0.2.1,z0.2.2.1,(g3_ z0),(g4_ z0)⟩:Ab),(g5_ z0),(Axz z0)⟩:As) _ rfl) [0,1]] [] 2 [0,1] [0,1,4,5,7,8,16] hC [pq (A_ hi0 hl0)] ?_
   rcases cB h with⟨h1,h⟩ | ⟨h1,h⟩
   ·have hq:=hret0 _ (hr0 _ (sI h).symm)
    replace hq:=sI hq
    subst hq
    exact wr Om 24 [true] [] [] 2 [0,1] hC [pq h1]
   ·exact wx w0b (Wv x0 (n0+1)) (yX (n0+1)) Om 25 [false] [] [] 2 [0,1] _ hC [pq h1] (sI h).symm
 ·have h:=hnext0 _ hs0
  replace h:=sI h
  subst h
  exact wr Om 23 [] [] [] 2 [0,1] hC []
theorem A64:EN 73:=en Tryz.func73
theorem k74 (x0:Aa) (x1:As) (r:A4) (h:F74 x0 x1=some r):CO 74 [.agg (d30 x0),.agg (d43 x1)] [] (.d (.o 0 0)) (.box 119 (I r.A0.Time :: .os 1 :: .os 2 :: .os 3 :: .os 4 :: .os 5 :: .os 6::zb r.Al [.os 7,.os 8])::zp r.A0.Power [v4_ r.A0.A1,v1_ r.A0.A8,v1_ r.events,v7_ r.states]):=by
 unfold F74 at h
 refine co 21 Tryz.func74 λ C hC=>?_
 obtain⟨y1,h2,y3,h4,y5,h6,h⟩:=B0 h
 replace h:=sI h
 subst h
 exact wr n5_ 27 [] [pc e66 (k66 x1.Power _ h2) [],pc A9w (A8v x1.A1 _ h4) [],pc e79 (k79 x1.A8 _ h6) []] [.ownb 8 13 65 5,.ownb 8 14 39 4] 0 [8,2,3,4,5,6,7,9,10] hC []
theorem e74:EN 74:=en Tryz.func74
theorem A6i (x0:A4) (x1:Ab) (r:A4) (h:qL x0 x1=some r):CO 75 [.d (.o 0 0),.agg (d39 x1)] (.box 119 (I x0.A0.Time :: .os 1 :: .os 2 :: .os 3 :: .os 4 :: .os 5 :: .os 6::zb x0.Al [.os 7,.os 8])::zp x0.A0.Power [v4_ x0.A0.A1,v1_ x0.A0.A8,v1_ x0.events,v7_ x0.states]) (.tup []) (.box 119 (I r.A0.Time :: .os 1 :: .os 2 :: .os 3 :: .os 4 :: .os 5 :: .os 6::zb r.Al [.os 7,.os 9])::zp r.A0.Power [v4_ r.A0.A1,v1_ r.A0.A8,v1_ r.events,.non,v7_ r.states]):=by
 unfold qL at h
 refine co 15 Tryz.func75 λ C hC=>?_
 obtain⟨y3,h4,y5,h6,h⟩:=Bc h
 replace h:=sI h
 subst h
 exact wf [0,1,3] 23 [] [⟨.call 66 [.agg (d39 x1)] [] (.agg (d39 y3)) [.non,.non,.non,.non] [],⟨e66,(CallOk.frzAll n4_ (show CO 66 [.agg (d39 x1)] [] (.agg [.os 0,.os 1,.os 2,.os 3]) (zp y3 []) from (k66 x1 _ h4)) (by kernel_rfl))⟩⟩,pa q39 4 h6] [] 9 [0,1,2,3,4,5,6,7,8,14] hC []
theorem A63:EN 75:=en Tryz.func75
theorem Ku (x0:Ab) (x1:Int) (x2:Int) (r:Bool) (h:H6 x0 x1 x2=some r):CO 166 [.agg (d39 x0),.d (I x1),.d (I x2)] [] (.d (Bo r)) []:=by
 unfold H6 at h
 refine co 13 Tryz.func166 λ C hC=>?_
 obtain⟨y1,h2,h⟩:=Az h
 replace h:=sI h
 subst h
 exact wr [0,1,2,3,6] 25 [] [pc A85 (A74 x0.Ao (⟨x1,x2⟩:Ak) _ h2) []] [] 0 [] hC []
theorem Kw:EN 166:=en Tryz.func166
theorem A2w (x0:Aa) (x1:Af) (x2:Af) (r:Bool) (h:Ajn x0 x1 x2=r):CO 210 [.agg (d30 x0),.agg (d93 x1),.agg (d93 x2)] [] (.d (Bo r)) []:=by
 unfold Ajn at h
 refine co 52 Tryz.func210 λ C hC=>?_
 rcases cB h with⟨h1,h⟩ | ⟨h1,h⟩
 ·subst h
  exact wr [0,1,2,3,4,5,6,7,8,22] 29 [true] [] [] 0 [] hC [pq h1]
 ·subst h
  exact wr [0,1,2,3,4,5,6,7,8,22] 34 [false] [pc A8z (A7y x1.Phase x2.Phase _ rfl) []] [] 0 [] hC [pq h1]
theorem A4b:EN 210:=en Tryz.func210
theorem A71 (x0:Aa) (x1:Int) (r:Int) (h:Ajo x0 x1=some r):CO 201 [.agg (d30 x0),.d (I x1)] [] (.d (I r)) []:=by
 unfold Ajo at h
 refine co 9 Tryz.func201 λ C hC=>?_
 obtain⟨y1,h2,h⟩:=Az h
 replace h:=sI h
 subst h
 exact wr n5_ 25 [] [pc A4n (A28 x0.Ad x1 _ h2) [1]] [] 0 [] hC []
theorem A82:EN 201:=en Tryz.func201
def Gl:List Nat:=[0,1,2,4,6,7,8,32,36,47,64,74]
def R_ (x2:Bool) (z0:(List Ak)):St:=[(0,dO 0 0),(2,dB x2),(4,dO 5 0),(6,dI 0)]
def Ts (x0:A2) (x1:Ak) (z0:(List Ak)):List Res:=[.box 175 (zb x0.Al [.os 6,.os 7,.os 8,.os 9,I x0.time]),.non,.non,.non,.non,.box 96 (d96 x1),v2_ x0.Au.Ag,v5_ x0.Au.Ac,v0_ x0.Au.Aq,v3_ z0]
theorem A3l (x0:A2) (x1:Ak) (x2:Bool) (r:Int×A2) (h:Hc x0 x1 x2=some r):CO 143 [.d (.o 0 0),.agg (d96 x1),.d (Bo x2)] (.box 175 (zb x0.Al [.os 1,.os 2,.os 3,.os 4,I x0.time])::zp x0.Au []) (.d (I r.1)) (.box 175 (zb r.2.Al [.os 5,.os 6,.os 7,.os 8,I r.2.time]) :: .non :: .non :: .non :: .non::zp r.2.Au []):=by
 unfold Hc at h
 refine co 84 Tryz.func143 λ C hC=>?_
 obtain⟨y1,h2,h⟩:=Az h
 rcases cB h with⟨h3,h⟩ | ⟨h3,h⟩
 ·replace h:=sI h
  subst h
  exact wr Gl 32 [true] [pb Atx (As3 x0.Au.Ao x1 _ h2)] [.mv 1,.mv 2,.mv 3,.mv 4] 5 [0,1,2,3,4,6,7,8,9] hC [pq h3]
 ·refine wn Gl 32 [false] [pb Atx (As3 x0.Au.Ao x1 _ h2),pL_ [(x2,true)] q96 x0.Au.Ao] [.mv 1,.mv 2,.mv 3,.mv 4] 5 Gs [0,2,4,6,7,36] hC [pq h3] ?_
  rcases cB h with⟨h4,h⟩ | ⟨h4,h⟩
  ·replace h:=sI h
   subst h
   exact wr Gl 24 [true] [] [] 5 [0,1,2,3,4,6,7,8,9] hC [pq h4]
  ·refine wn Gl 24 [false] [] [] 5 Gs [0,2,4,6,7,47] hC [pq h4] ?_
   obtain⟨w0,h,hret0,hnext0⟩:=Ar h
   refine wc w0 (R_ x2) (Ts x0 x1) ?_ λ z0 hs0=>?_
   ·unfold Nx at h
    rcases cB h with⟨h5,h⟩ | ⟨h5,h⟩
    ·obtain⟨y6,h7,h⟩:=Az h
     exact wx w0 (R_ x2) (Ts x0 x1) Gl 23 [true] [pc A4j (A24 x0.Au.Ao y1.1 [x1] _ h7) [9]] [] 5 [0,1,2,3,4,5,6,7,8,10] _ hC [pq h5] (sI h).symm
    ·obtain⟨y8,h9,h⟩:=Az h
     exact wx w0 (R_ x2) (Ts x0 x1) Gl 23 [false] [pc A4i (A23 x0.Au.Ao y1.1 (w64 (y1.1+1)) _ h9) [9]] [] 5 [0,1,2,3,4,5,6,7,8,10] _ hC [pq h5] (sI h).symm
   ·clear h;have h:=hnext0 _ hs0
    rcases cB h with⟨h10,h⟩ | ⟨h10,h⟩
    ·obtain⟨y11,h12,y13,h14,h⟩:=Bc h
     refine wn Gl 30 [true] [pr q93 h12,pu q93 h12 h14] [] 5 Gs [0,4,6,74] hC [pq h10] ?_
     rcases cB h with⟨h15,h⟩ | ⟨h15,h⟩
     ·obtain⟨y16,h17,y18,h19,h⟩:=Bc h
      replace h:=sI h
      subst h
      exact wr Gl 25 [true] [pr q93 h17,pu q93 h17 h19] [] 5 [0,1,2,3,4,6,7,8,9] hC [pq h15]
     ·replace h:=sI h
      subst h
      exact wr Gl 25 [false] [] [] 5 [0,1,2,3,4,6,7,8,9] hC [pq h15]
    ·replace h:=sI h
     subst h
     exact wr Gl 29 [false] [] [] 5 [0,1,2,3,4,6,7,8,9] hC [pq h10]
theorem A40:EN 143:=en Tryz.func143
theorem Ac0 (x0:A4) (x1:Ab) (r:A4) (h:Nr x0 x1=some r):CO 75 [.d (.o 0 0),.agg [.os 9,.os 10,.os 11,.os 12]] (.box 119 (I x0.A0.Time :: .os 1 :: .os 2 :: .os 3 :: .os 4 :: .os 5 :: .os 6::zb x0.Al [.os 7,.os 8])::zp x0.A0.Power (v4_ x0.A0.A1::v1_ x0.A0.A8::v1_ x0.events::v7_ x0.states::zp x1 [])) (.tup []) (.box 119 (I r.A0.Time :: .os 1 :: .os 2 :: .os 3 :: .os 4 :: .os 5 :: .os 6::zb r.Al [.os 7,.os 13])::zp r.A0.Power (v4_ r.A0.A1::v1_ r.A0.A8::v1_ r.events :: .non::zp x1 [v7_ r.states])):=by
 unfold Nr at h
 refine co 15 Tryz.func75 λ C hC=>?_
 obtain⟨y3,h4,y5,h6,h⟩:=Bc h
 replace h:=sI h
 subst h
 exact wf [0,1,3] 23 [] [⟨.call 66 [.agg [.os 0,.os 1,.os 2,.os 3]] (zp x1 []) (.agg (d39 y3)) (zp x1 [.non,.non,.non,.non]) [9,10,11,12],⟨e66,(CallOk.frzAll [4,5,6,7] (show CO 66 [.agg [.os 0,.os 1,.os 2,.os 3]] (zp x1 []) (.agg [.os 4,.os 5,.os 6,.os 7]) (zp x1 (zp y3 [])) from ((k66 x1 _ h4).lend (by kernel_rfl) (by kernel_rfl) (by kernel_rfl) ⟨Ba (λ _=>rfl),Ba (λ _=>rfl),Ba (λ _=>rfl),Ba (λ _=>rfl),trivial⟩ (by kernel_rfl) (by kernel_rfl))) (by kernel_rfl))⟩⟩,pa q39 4 h6] [] 13 [0,1,2,3,4,5,6,7,8,9,10,11,12,18] hC []
theorem Ac3:EN 75:=en Tryz.func75
theorem A20 (x0:Int) (x1:Int) (x2:Aa) (r:Int) (h:Mx x0 x1 x2=some r):CO 191 [.d (I x0),.d (I x1),.d (.ip [.v (.int .i64 x2.An),.s (x2.Ad.map q70),.s (x2.Ac.map q72),.s (x2.Ae.map q81),.v (.int .i64 x2.Phase),.v (.int .i64 x2.Ap)])] [] (.d (I r)) []:=by
 unfold Mx at h
 refine co 19 Tryz.func191 λ C hC=>?_
 obtain⟨y1,h2,y3,h4,h⟩:=Bc h
 replace h:=sI h
 subst h
 exact wr [0,1,2,5] 25 [] [pr q81 h2,pr q81 h4,pc Ax7 (Axp y1.Bl y3.Bl _ rfl) []] [] 0 [] hC []
theorem A4f:EN 191:=en Tryz.func191
theorem As4 (x0:Int) (x1:Ai) (r:Bool) (h:O_ x0 x1=some r):CO 161 [.d (I x0),.d (.ip [.s (x1.An.map pI),.s (x1.Ac.map pI),.s (x1.Ae.map pI)])] [] (.d (Bo r)) []:=by
 unfold O_ at h
 refine co 9 Tryz.func161 λ C hC=>?_
 obtain⟨y1,h2,h⟩:=Az h
 replace h:=sI h
 subst h
 exact wr [0,1,3] 25 [] [pc Xx (Xr x1.Ae x0 _ h2) []] [] 0 [] hC []
theorem Aty:EN 161:=en Tryz.func161
def Nk:List Nat:=[0,1,4,5,6,7,8,10,26,37]
def Alm (x0:List Av) (x1:Int) (z0:Unit):St:=[(0,.d (DS q84 x0)),(1,dI x1),(4,.d (DS q84 []))]
def Am2  (z0:Unit):List Res:=[]
def All (x0:List Av) (x1:Int) (z1:Unit):St:=[(0,.d (DS q84 x0)),(4,.d (DS q84 [])),(6,.d (.p (.v (.int .u64 ((T8 (IntKind.wrap .u64 (ln x0)) (IntKind.wrap .u64 x1)).2)))))]
def Am1  (z1:Unit):List Res:=[]
def vA  (z2:Int×(List Av)):St:=[(4,.d (DS q84 [])),(7,dS 0),(8,dI z2.1)]
def Ail  (z2:Int×(List Av)):List Res:=[v4_ z2.2]
def Alk  (z2:Int×(List Av)):St:=[(4,.d (DS q84 [])),(7,dS 0)]
def Am0  (z2:Int×(List Av)):List Res:=[v4_ z2.2]
theorem A8m (x0:List Av) (x1:Int) (r:(List Av)) (h:Ay0 x0 x1=some r):CO 126 [.d (DS q84 x0),.d (I x1)] [] (.d (.os 0)) [v4_ r]:=by
 unfold Ay0 at h
 refine co 48 Tryz.func126 λ C hC=>?_
 refine wn Nk 26 [] [] [] 0 [] [0,1,4,10] hC [] ?_
 obtain⟨w0,h,hret0,hnext0⟩:=Ar h
 refine wc w0 (Alm x0 x1) (Am2) ?_ λ z0 hs0=>?_
 ·unfold Anc at h
  rcases cB h with⟨h1,h⟩ | ⟨h1,h⟩
  ·cases h
  ·exact wx w0 (Alm x0 x1) (Am2) Nk 23 [false] [] [] 0 [] _ hC [pq h1] (sI h).symm
 ·clear h;have h:=hnext0 _ hs0
  refine wn Nk 26 [] [pl q84 x0,pc A9c (A8b (IntKind.wrap .u64 (ln x0)) (IntKind.wrap .u64 x1) _ rfl) []] [] 0 [] [0,4,6,26] hC [] ?_
  obtain⟨w1,h,hret1,hnext1⟩:=Ar h
  refine wc w1 (All x0 x1) (Am1) ?_ λ z1 hs1=>?_
  ·unfold Anb at h
   rcases cB h with⟨h2,h⟩ | ⟨h2,h⟩
   ·cases h
   ·exact wx w1 (All x0 x1) (Am1) Nk 23 [false] [] [] 0 [] _ hC [pq h2] (sI h).symm
  ·clear h;have h:=hnext1 _ hs1
   obtain⟨y3,h4,h⟩:=Az h
   refine ws Nk 26 [] [⟨.room ((w64 ((T8 (IntKind.wrap .u64 (ln x0)) (IntKind.wrap .u64 x1)).2))*(16+1)) (List.replicate (Int.toNat (w64 ((T8 (IntKind.wrap .u64 (ln x0)) (IntKind.wrap .u64 x1)).2))) (q84 (⟨0,0⟩:Av))) (y3.map q84),Js h4⟩,⟨.cpy (x0.map q84) 2 ((y3.map q84).length) (Nat.min x0.length y3.length) ((y3.map q84).take 0++((x0.map q84).take (Nat.min x0.length y3.length)++(y3.map q84).drop (0+(Nat.min x0.length y3.length)))) ((Te y3 0 y3.length x0).map q84),Amb q84 2 (λ _=>rfl) rfl (by simp)⟩] [] 0 [0] (vA (((Nat.min x0.length y3.length):Int),(Te y3 0 y3.length x0))) (Ail (((Nat.min x0.length y3.length):Int),(Te y3 0 y3.length x0))) hC [] ?_
   obtain⟨w2,hm2,hret2,hnext2⟩:=Ar h
   clear h
   refine wc w2 (Alk) (Am0) ?_ λ z2 hs2=>?_
   ·refine wb ?_
    refine ww (vA) (Ail) hm2 λ z2 w2b h hb2 hr2=>?_
    unfold And at h
    rcases cB h with⟨h5,h⟩ | ⟨h5,h⟩
    ·obtain⟨u7,h6,u9,h8,h⟩:=Bc h
     exact wx w2b (vA) (Ail) Nk 29 [true] [pl q84 z2.2,⟨.bnd (z2.2.map q84).length z2.1 (((z2.2.map q84).length:Nat):Int) (ln z2.2),E_ (by simp) (by simp) h6⟩,⟨.bnd (z2.2.map q84).length 0 z2.1 z2.1,E_ (by simp) rfl h8⟩,⟨.cpy (((z2.2.map q84).drop 0).take ((Int.toNat z2.1)-0)) 2 ((Int.toNat (ln z2.2))-(Int.toNat z2.1)) (Nat.min ((z2.2.drop 0).take ((Int.toNat z2.1)-0)).length ((Int.toNat (ln z2.2))-(Int.toNat z2.1))) ((z2.2.map q84).take (Int.toNat z2.1)++((((z2.2.map q84).drop 0).take ((Int.toNat z2.1)-0)).take (Nat.min ((z2.2.drop 0).take ((Int.toNat z2.1)-0)).length ((Int.toNat (ln z2.2))-(Int.toNat z2.1)))++(z2.2.map q84).drop ((Int.toNat z2.1)+(Nat.min ((z2.2.drop 0).take ((Int.toNat z2.1)-0)).length ((Int.toNat (ln z2.2))-(Int.toNat z2.1)))))) ((Te z2.2 (Int.toNat z2.1) ((Int.toNat (ln z2.2))-(Int.toNat z2.1)) ((z2.2.drop 0).take ((Int.toNat z2.1)-0))).map q84),Amb q84 2 (λ _=>rfl) (Afp _ _ _ _) rfl⟩] [] 0 [0] _ hC [pq h5] (sI h).symm
    ·exact wx w2 (Alk) (Am0) Nk 26 [false] [pl q84 z2.2] [] 0 [0] (z2.1,z2.2) hC [pq h5] (hb2 _ (sI h).symm)
   ·have h:=hnext2 _ hs2
    replace h:=sI h
    subst h
    exact wr Nk 23 [] [] [] 0 [0] hC []
theorem A9n:EN 126:=en Tryz.func126
theorem Aob (x0:Aa) (x1:Int) (r:Int) (h:Uo x0 x1=some r):CO 134 [.agg (d30 x0),.d (I x1)] [] (.d (I r)) []:=by
 unfold Uo at h
 refine co 9 Tryz.func134 λ C hC=>?_
 obtain⟨y1,h2,h⟩:=Az h
 replace h:=sI h
 subst h
 exact wr n5_ 25 [] [pc A4m (A27 x0.Ad x1 _ h2) [1]] [] 0 [] hC []
theorem Aor:EN 134:=en Tryz.func134
theorem A6h (x0:A4) (x1:Ab) (r:A4) (h:qK x0 x1=some r):CO 75 [.d (.o 0 0),.agg [.os 1,.os 2,.os 3,.os 4]] (.box 119 (I x0.A0.Time :: .os 1 :: .os 2 :: .os 3 :: .os 4 :: .os 5 :: .os 6::zb x0.Al [.os 7,.os 8])::zp x0.A0.Power [v4_ x0.A0.A1,v1_ x0.A0.A8,v1_ x0.events,v7_ x0.states]) (.tup []) (.box 119 (I r.A0.Time :: .os 1 :: .os 2 :: .os 3 :: .os 4 :: .os 5 :: .os 6::zb r.Al [.os 7,.os 9])::zp r.A0.Power [v4_ r.A0.A1,v1_ r.A0.A8,v1_ r.events,.non,v7_ r.states]):=by
 unfold qK at h
 refine co 15 Tryz.func75 λ C hC=>?_
 obtain⟨y3,h4,y5,h6,h⟩:=Bc h
 replace h:=sI h
 subst h
 exact wf [0,1,3] 23 [] [⟨.call 66 [.agg [.os 0,.os 1,.os 2,.os 3]] (zp x0.A0.Power []) (.agg (d39 y3)) (zp x0.A0.Power [.non,.non,.non,.non]) [1,2,3,4],⟨e66,(CallOk.frzAll [4,5,6,7] (show CO 66 [.agg [.os 0,.os 1,.os 2,.os 3]] (zp x0.A0.Power []) (.agg [.os 4,.os 5,.os 6,.os 7]) (zp x0.A0.Power (zp y3 [])) from ((k66 x0.A0.Power _ h4).lend (by kernel_rfl) (by kernel_rfl) (by kernel_rfl) ⟨Ba (λ _=>rfl),Ba (λ _=>rfl),Ba (λ _=>rfl),Ba (λ _=>rfl),trivial⟩ (by kernel_rfl) (by kernel_rfl))) (by kernel_rfl))⟩⟩,pa q39 4 h6] [] 9 [0,1,2,3,4,5,6,7,8,14] hC []
theorem A62:EN 75:=en Tryz.func75
theorem k26 (x0:Ah) (x1:Int) (x2:Int) (r:Int×Ah) (h:F26 x0 x1 x2=some r):CO 26 [.d (.o 0 0),.d (I x1),.d (I x2)] [.box 77 (d77 x0)] (.d (I r.1)) [.box 77 (d77 r.2)]:=by
 unfold F26 at h
 refine co 15 Tryz.func26 λ C hC=>?_
 obtain⟨y1,h2,h⟩:=Az h
 replace h:=sI h
 subst h
 exact wr [0,1,2,6] 25 [] [pc e19 (k19 x0 (w64 ((w64 (x2-x1))+1)) _ h2) [0]] [] 1 [0] hC []
theorem e26:EN 26:=en Tryz.func26
theorem k27 (x0:Ah) (x1:List Int) (r:Int×Ah) (h:F27 x0 x1=some r):CO 27 [.d (.o 0 0),.d (DS pI x1)] [.box 77 (d77 x0)] (.d (I r.1)) [.box 77 (d77 r.2)]:=by
 unfold F27 at h
 refine co 12 Tryz.func27 λ C hC=>?_
 obtain⟨y1,h2,y3,h4,h⟩:=Bc h
 replace h:=sI h
 subst h
 exact wr [0,1,4] 25 [] [pl pI x1,pc e19 (k19 x0 (ln x1) _ h2) [0],pr pI h4] [] 1 [0] hC []
theorem e27:EN 27:=en Tryz.func27
def Xo:List Nat:=[0,1,2,3,4,5,35,38,39,40,52]
def Aes (x0:As) (z0:Int):St:=[(2,dO 0 0),(3,dO 1 0),(4,dB false),(38,dI (ln x0.A1)),(39,dI z0)]
def Aqb (x0:As) (x1:As) (z0:Int):List Res:=[.box 43 (d43 x0),.box 43 (d43 x1)]
def Asg  (z0:Int):St:=[(4,dB false)]
def Av6  (z0:Int):List Res:=[]
theorem k17 (x0:As) (x1:As) (r:Bool) (h:F17 x0 x1=some r):CO 17 [.agg (d43 x0),.agg (d43 x1)] [] (.d (Bo r)) []:=by
 unfold F17 at h
 refine co 54 Tryz.func17 λ C hC=>?_
 obtain⟨y1,h2,y3,h4,h⟩:=Bc h
 refine wn Xo 26 [] [pw e33 (λ hg=>k33 x0.Power x1.Power _ (Bd h2 hg)) [],pL_ [(((x0.Time != x1.Time) || (!y1)),false)] q84 x0.A1,pL_ [(((x0.Time != x1.Time) || (!y1)),false)] q84 x1.A1,pw e34 (λ hg=>k34 x0.A8 x1.A8 _ (Bd h4 hg)) []] [] 0 [0,1] [2,3,4,35] hC [] ?_
 rcases cB h with⟨h5,h⟩ | ⟨h5,h⟩
 ·replace h:=sI h
  subst h
  exact wr Xo 24 [true] [] [] 0 [] hC [pq h5]
 ·refine ws Xo 26 [false] [pl q84 x0.A1] [] 0 [0,1] (Aes x0 0) (Aqb x0 x1 0) hC [pq h5] ?_
  obtain⟨w0,hm0,hret0,hnext0⟩:=Ar h
  clear h
  refine wc w0 (Asg) (Av6) ?_ λ z0 hs0=>?_
  ·refine wb ?_
   refine ww (Aes x0) (Aqb x0 x1) hm0 λ z0 w0b h hb0 hr0=>?_
   unfold Ajr at h
   rcases cB h with⟨h6,h⟩ | ⟨h6,h⟩
   ·obtain⟨y7,h8,y9,h10,h⟩:=Bc h
    rcases cB h with⟨h11,h⟩ | ⟨h11,h⟩
    ·have hq:=hret0 _ (hr0 _ (sI h).symm)
     replace hq:=sI hq
     subst hq
     exact wr Xo 35 [true,true] [pr q84 h8,pr q84 h10] [] 0 [] hC [pq h6,pq h11]
    ·exact wx w0b (Aes x0) (Aqb x0 x1) Xo 36 [true,false] [pr q84 h8,pr q84 h10] [] 0 [0,1] _ hC [pq h6,pq h11] (sI h).symm
   ·exact wx w0 (Asg) (Av6) Xo 26 [false] [] [] 0 [] z0 hC [pq h6] (hb0 _ (sI h).symm)
  ·have h:=hnext0 _ hs0
   replace h:=sI h
   subst h
   exact wr Xo 23 [] [] [] 0 [] hC []
theorem e17:EN 17:=en Tryz.func17
end Go.Proofs.YtpdbkiafikdgpaaGreatDoor
