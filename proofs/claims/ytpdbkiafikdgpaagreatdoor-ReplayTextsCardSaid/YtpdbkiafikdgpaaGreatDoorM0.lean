import Derived.Test.YtpdbkiafikdgpaaGreatDoorRows
import Derived.Test.YtpdbkiafikdgpaaGreatDoorMo
import Derived.Test.YtpdbkiafikdgpaaGreatDoorTs
set_option linter.unusedVariables false
set_option maxHeartbeats 4000000
namespace Go.Proofs.YtpdbkiafikdgpaaGreatDoor
open Go.SL
abbrev v0_ (l:List Int):Res:=.sl 3 1 (l.map pI)
abbrev v1_ (l:List A3):Res:=.sl 65 5 (l.map q65)
abbrev v2_ (l:List Ar):Res:=.sl 84 2 (l.map q84)
abbrev v3_ (l:List Bool):Res:=.sl 4 1 (l.map pB)
abbrev v4_ (l:List Ae):Res:=.sl 93 4 (l.map q93)
abbrev v5_ (l:List Aq):Res:=.sl 96 2 (l.map q96)
abbrev v6_ (l:List A0):Res:=.sl 63 3 (l.map q63)
abbrev v7_ (l:List Ab):Res:=.sl 39 4 (l.map q39)
abbrev v8_ (l:List Af):Res:=.sl 70 3 (l.map q70)
abbrev v9_ (l:List A8):Res:=.sl 72 3 (l.map q72)
abbrev Fa (l:List A1):Res:=.sl 81 5 (l.map q81)
abbrev F0 (l:List Ai):Res:=.sl 137 3 (l.map Bh)
abbrev CO:=CallOk Tryz.prog
abbrev EN:=El Tryz.prog
abbrev D3 {α0 α1 α2 α3:Type} (z:α0×α1×α2×α3):α3:=z.2.2.2
abbrev g3_ {α0 α1 α2 α3 α4:Type} (z:α0×α1×α2×α3×α4):α3:=z.2.2.2.1
abbrev Fm {α0 α1 α2 α3 α4:Type} (z:α0×α1×α2×α3×α4):α4:=z.2.2.2.2
abbrev g4_ {α0 α1 α2 α3 α4 α5:Type} (z:α0×α1×α2×α3×α4×α5):α4:=z.2.2.2.2.1
abbrev g5_ {α0 α1 α2 α3 α4 α5 α6:Type} (z:α0×α1×α2×α3×α4×α5×α6):α5:=z.2.2.2.2.2.1
abbrev Ajh {α0 α1 α2 α3 α4 α5 α6:Type} (z:α0×α1×α2×α3×α4×α5×α6):α6:=z.2.2.2.2.2.2
abbrev g6_ {α0 α1 α2 α3 α4 α5 α6 α7:Type} (z:α0×α1×α2×α3×α4×α5×α6×α7):α6:=z.2.2.2.2.2.2.1
abbrev g7_ {α0 α1 α2 α3 α4 α5 α6 α7 α8:Type} (z:α0×α1×α2×α3×α4×α5×α6×α7×α8):α7:=z.2.2.2.2.2.2.2.1
abbrev Arb {α0 α1 α2 α3 α4 α5 α6 α7 α8:Type} (z:α0×α1×α2×α3×α4×α5×α6×α7×α8):α8:=z.2.2.2.2.2.2.2.2
abbrev g8_ {α0 α1 α2 α3 α4 α5 α6 α7 α8 α9:Type} (z:α0×α1×α2×α3×α4×α5×α6×α7×α8×α9):α8:=z.2.2.2.2.2.2.2.2.1
abbrev g9_ {α0 α1 α2 α3 α4 α5 α6 α7 α8 α9 α10:Type} (z:α0×α1×α2×α3×α4×α5×α6×α7×α8×α9×α10):α9:=z.2.2.2.2.2.2.2.2.2.1
abbrev Dx {α0 α1 α2 α3 α4 α5 α6 α7 α8 α9 α10:Type} (z:α0×α1×α2×α3×α4×α5×α6×α7×α8×α9×α10):α10:=z.2.2.2.2.2.2.2.2.2.2
abbrev Oo {α0 α1 α2 α3 α4 α5 α6 α7 α8 α9 α10 α11:Type} (z:α0×α1×α2×α3×α4×α5×α6×α7×α8×α9×α10×α11):α10:=z.2.2.2.2.2.2.2.2.2.2.1
abbrev On {α0 α1 α2 α3 α4 α5 α6 α7 α8 α9 α10 α11 α12:Type} (z:α0×α1×α2×α3×α4×α5×α6×α7×α8×α9×α10×α11×α12):α11:=z.2.2.2.2.2.2.2.2.2.2.2.1
abbrev Om {α0 α1 α2 α3 α4 α5 α6 α7 α8 α9 α10 α11 α12 α13:Type} (z:α0×α1×α2×α3×α4×α5×α6×α7×α8×α9×α10×α11×α12×α13):α12:=z.2.2.2.2.2.2.2.2.2.2.2.2.1
abbrev Lz {α0 α1 α2 α3 α4 α5 α6 α7 α8 α9 α10 α11 α12 α13 α14:Type} (z:α0×α1×α2×α3×α4×α5×α6×α7×α8×α9×α10×α11×α12×α13×α14):α13:=z.2.2.2.2.2.2.2.2.2.2.2.2.2.1
abbrev Vv {α0 α1 α2 α3 α4 α5 α6 α7 α8 α9 α10 α11 α12 α13 α14:Type} (z:α0×α1×α2×α3×α4×α5×α6×α7×α8×α9×α10×α11×α12×α13×α14):α14:=z.2.2.2.2.2.2.2.2.2.2.2.2.2.2
abbrev Ajj {α0 α1 α2 α3 α4 α5 α6 α7 α8 α9 α10 α11 α12 α13 α14 α15:Type} (z:α0×α1×α2×α3×α4×α5×α6×α7×α8×α9×α10×α11×α12×α13×α14×α15):α14:=z.2.2.2.2.2.2.2.2.2.2.2.2.2.2.1
abbrev Aji {α0 α1 α2 α3 α4 α5 α6 α7 α8 α9 α10 α11 α12 α13 α14 α15 α16:Type} (z:α0×α1×α2×α3×α4×α5×α6×α7×α8×α9×α10×α11×α12×α13×α14×α15×α16):α15:=z.2.2.2.2.2.2.2.2.2.2.2.2.2.2.2.1
abbrev Vu {α0 α1 α2 α3 α4 α5 α6 α7 α8 α9 α10 α11 α12 α13 α14 α15 α16:Type} (z:α0×α1×α2×α3×α4×α5×α6×α7×α8×α9×α10×α11×α12×α13×α14×α15×α16):α16:=z.2.2.2.2.2.2.2.2.2.2.2.2.2.2.2.2
theorem sI {α:Type} {a b:α} (h:some a=some b):a=b:=bd h
abbrev zb (b:Aa) (l:List D):List D:=I b.Ap::DS q70 b.Ag::DS q72 b.Ac::DS q81 b.Ah::I b.Phase::I b.An::l
abbrev zp (p:Ab) (l:List Res):List Res:=.sl 4 1 (p.Am.map pB) :: .sl 93 4 (p.Ac.map q93) :: .sl 3 1 (p.Aw.map pI) :: .sl 96 2 (p.As.map q96)::l
abbrev ze (l:List Res):List Res:=.sl 4 1 (([]:List Bool).map pB) :: .sl 93 4 (([]:List Ae).map q93) :: .sl 3 1 (([]:List Int).map pI) :: .sl 96 2 (([]:List Aq).map q96)::l
abbrev zs (b:Aa) (l:List Res):List Res:=.sl 70 3 (b.Ag.map q70) :: .sl 72 3 (b.Ac.map q72) :: .sl 81 5 (b.Ah.map q81)::l
abbrev zt {α:Type} (b:Aa) (r:α):Int×List Af×List A8×List A1×Int×Int×α:=(b.Ap,b.Ag,b.Ac,b.Ah,b.Phase,b.An,r)
abbrev zu {α:Type} (p:Ab) (r:α):List Bool×List Ae×List Int×List Aq×α:=(p.Am,p.Ac,p.Aw,p.As,r)
abbrev n3_:List Nat:=[0,1,2]
abbrev n4_:List Nat:=[0,1,2,3]
abbrev n5_:List Nat:=[0,1,2,3,4]
abbrev n6_:List Nat:=[0,1,2,3,4,5]
abbrev n7_:List Nat:=[0,1,2,3,4,5,6]
abbrev n8_:List Nat:=[0,1,2,3,4,5,6,7]
abbrev n9_:List Nat:=[0,1,2,3,4,5,6,7,8]
abbrev Gl:List Nat:=[0,1,2,3,4,5,6,7,8,9]
abbrev Aau:List Nat:=[0,1,2,3,4,5,6,7,8,9,10]
abbrev G8:List Nat:=[0,1,2,3,4,5,6,7,8,9,10,11]
abbrev Lo:List Nat:=[0,1,2,3,4,5,6,7,8,9,10,11,12]
abbrev C1:List Nat:=[0,1,2,3,4,5,6,7,8,9,10,11,12,13,14]
abbrev Aqi:List Nat:=[0,1,2,3,4,5,6,7,8,9,10,11,12,13,14,15]
abbrev Aqh:List Nat:=[0,1,2,3,4,5,6,7,8,9,10,11,12,13,14,15,16,17,18]
abbrev Aqg:List Nat:=[0,1,2,3,4,5,6,7,8,9,10,11,12,13,14,15,16,17,18,19,20]
abbrev Aqf:List Nat:=[0,1,2,3,4,5,6,7,8,9,10,11,12,13,14,15,16,17,18,19,20,21]
abbrev Aqe:List Nat:=[0,1,2,3,4,5,6,7,8,9,10,11,12,13,14,15,16,17,18,19,20,21,22,23]
theorem mixed:Tryz.prog.follows .mixedOrders=true:=by kernel_rfl
abbrev PC:={c:Cl // Cl.ok Tryz.prog c}
abbrev PB:={p:Bool×Bool // p.1=p.2}
theorem okP:∀ l:List PC,Cv Tryz.prog (l.map (·.1))
 | []=>trivial
 | c::l=>⟨c.2,okP l⟩
theorem okB:∀ l:List PB,Cs (l.map (·.1))
 | []=>trivial
 | ⟨(_,_),h⟩::l=>⟨h,okB l⟩
def pq {a b:Bool} (h:a=b):PB:=⟨(a,b),h⟩
def pc {f:FuncId} {args:List AV} {R R2:List Res} {res:AV} (e:El Tryz.prog f) (k:CallOk Tryz.prog f args R res R2) (pi:List Nat):PC:=⟨.call f args R res R2 pi,e,k⟩
def pb {f:FuncId} {args:List AV} {res:AV} (e:El Tryz.prog f) (k:CallOk Tryz.prog f args [] res []):PC:=⟨.callB f args res [[]] 0 [],Lv ⟨e,k⟩⟩
def pw {g:List (Bool×Bool)} {f:FuncId} {args:List AV} {R R2:List Res} {res:AV} (e:El Tryz.prog f) (k:Cs g->CallOk Tryz.prog f args R res R2) (pi:List Nat):PC:=⟨.when g (.call f args R res R2 pi),λ h=>⟨e,k h⟩⟩
def pv {g:List (Bool×Bool)} {f:FuncId} {args:List AV} {res:AV} (e:El Tryz.prog f) (k:Cs g->CallOk Tryz.prog f args [] res []):PC:=⟨.when g (.callB f args res [[]] 0 []),λ h=>Lv ⟨e,k h⟩⟩
section
variable {α:Type}
def pl (q:α->List Pd) (l:List α):PC:=⟨.len ((l.map q).length:Int) (l.length:Int),yM l q⟩
def pL_ (g:List (Bool×Bool)) (q:α->List Pd) (l:List α):PC:=⟨.when g (.len ((l.map q).length:Int) (l.length:Int)),λ _=>yM l q⟩
def pr (q:α->List Pd) {l:List α} {n:Int} {x:α} (h:getI l n=some x):PC:=⟨.row (l.map q) n (q x),Mw h⟩
def pn (q:α->List Pd) {l:List α} {n:Int} {x:α} (h:getI l n=some x):PC:=⟨.row (l.map q) ((n.toNat:Nat):Int) (q x),J0 h⟩
def pt {q:α->List Pd} {l:List α} {i:Nat} {x:α} (hx:l[i]? = some x) (hl:(l.map q).length<=maxLen):PC:=⟨.row (l.map q) (cnt 0 i) (q x),Alq hx hl⟩
def pR (q:α->List Pd) {g:List (Bool×Bool)} {l:List α} {n:Int} {x d:α} (h:A5 g (getI l n) d=some x):PC:=⟨.when g (.row (l.map q) n (q x)),λ hg=>Mw (A9 h hg)⟩
def pN (q:α->List Pd) {g:List (Bool×Bool)} {l:List α} {n:Int} {x d:α} (h:A5 g (getI l n) d=some x):PC:=⟨.when g (.row (l.map q) ((n.toNat:Nat):Int) (q x)),λ hg=>J0 (A9 h hg)⟩
def pa (q:α->List Pd) (size:Nat) {B:Nat} {l m y:List α} (h:appI (B+1) l m=some y) (hs:∀ x,(q x).length=size:=by exact λ _=>rfl):PC:=⟨.app (l.map q) (m.map q) size (((l.map q).length+(m.map q).length)*(B+1)) (y.map q),E9 q size hs h⟩
def pu (q:α->List Pd) {l y:List α} {n:Int} {x x':α} (hx:getI l n=some x) (h:setI l n x'=some y):PC:=⟨.upd (l.map q) n.toNat (q x) (q x') (y.map q),vF hx h⟩
end
theorem ws {ro:Option Nat} {n:Nat} {C:Ctx} {Q:Exit->Act->World->Prop} {st:St} {R:List Res} {items:List It} (lv:List Nat) (fuel:Nat) (ds:List Bool) (cls:List PC) (adj:List Adj) (k:Nat) (pi:List Nat) (st':St) (R':List Res) (hk:C.h.length<=k) (bs:List PB) (hW:WI ro Tryz.prog n C Q (Bu fuel items ds) st' R') (h:Em Tryz.prog n lv fuel items st R ds (cls.map (·.1)) adj k pi (Oi st')=some (st',R',cls.map (·.1),bs.map (·.1)):=by kernel_rfl):WI ro Tryz.prog n C Q items st R:=S4 mixed lv fuel ds (cls.map (·.1)) adj k pi st' R' hk (okP cls) (okB bs) h hW
def wo (o:Option (St×List Res×List Cl×List (Bool×Bool))):St×List Res:=match o with
 | some (s,r,_,_)=>(s,r)
 | none=>([],[])
theorem wn {ro:Option Nat} {n:Nat} {C:Ctx} {Q:Exit->Act->World->Prop} {st:St} {R:List Res} {items:List It} (lv:List Nat) (fuel:Nat) (ds:List Bool) (cls:List PC) (adj:List Adj) (k:Nat) (pi:List Nat) (ks:List Nat) (hk:C.h.length<=k) (bs:List PB) (hW:WI ro Tryz.prog n C Q (Bu fuel items ds) (wo (Em Tryz.prog n lv fuel items st R ds (cls.map (·.1)) adj k pi ks)).1 (wo (Em Tryz.prog n lv fuel items st R ds (cls.map (·.1)) adj k pi ks)).2) (h:(Em Tryz.prog n lv fuel items st R ds (cls.map (·.1)) adj k pi ks).map (λ x=>(Oi x.1,x.2.2.1,x.2.2.2))=some (ks,cls.map (·.1),bs.map (·.1)):=by kernel_rfl):WI ro Tryz.prog n C Q items st R:=by
 cases e:Em Tryz.prog n lv fuel items st R ds (cls.map (·.1)) adj k pi ks with
 | none=>rw [e] at h;cases h
 | some x=>
  obtain⟨s,r,c,b⟩:=x
  rw [e] at h hW
  simp only [Option.map_some,aj,aG] at h
  obtain⟨h1,h2,h3⟩:=h
  subst h1;subst h2;subst h3
  exact S4 mixed lv fuel ds _ adj k pi s r hk (okP cls) (okB bs) e hW
theorem we {ro:Option Nat} {n:Nat} {C:Ctx} {Q:Exit->Act->World->Prop} {st:St} {R:List Res} {items:List It} {σ:Type} {φ:σ->Prop} {st':σ->St} {R':σ->List Res} (lv:List Nat) (fuel:Nat) (ds:List Bool) (cls:List PC) (adj:List Adj) (k:Nat) (pi:List Nat) (s:σ) (hk:C.h.length<=k) (bs:List PB) (h1:φ s) (hi:hdK (Bu fuel items ds)=Ex n C φ st' R':=by kernel_rfl) (h:Em Tryz.prog n lv fuel items st R ds (cls.map (·.1)) adj k pi (Oi (st' s))=some (st' s,R' s,cls.map (·.1),bs.map (·.1)):=by kernel_rfl):WI ro Tryz.prog n C Q items st R:=Agf mixed lv fuel ds (cls.map (·.1)) adj k pi s hk (okP cls) (okB bs) hi h h1
theorem wx {σ:Type} {τ:Type} (w:Ctl σ τ) (st':σ->St) (R':σ->List Res) {ro:Option Nat} {n:Nat} {C:Ctx} {Q:Exit->Act->World->Prop} {st:St} {R:List Res} {items:List It} (lv:List Nat) (fuel:Nat) (ds:List Bool) (cls:List PC) (adj:List Adj) (k:Nat) (pi:List Nat) (s:σ) (hk:C.h.length<=k) (bs:List PB) (h1:w = .next s) (hi:hdK (Bu fuel items ds)=Ex n C (λ s'=>w = .next s') st' R':=by kernel_rfl) (h:Em Tryz.prog n lv fuel items st R ds (cls.map (·.1)) adj k pi (Oi (st' s))=some (st' s,R' s,cls.map (·.1),bs.map (·.1)):=by kernel_rfl):WI ro Tryz.prog n C Q items st R:=Agf mixed lv fuel ds (cls.map (·.1)) adj k pi s hk (okP cls) (okB bs) hi h h1
theorem wc {ro:Option Nat} {n:Nat} {C:Ctx} {Q:Exit->Act->World->Prop} {st:St} {R:List Res} {items:List It} {σ τ:Type} (w:Ctl σ τ) (st':σ->St) (R':σ->List Res) (h:WI ro Tryz.prog n C Q (.c (hdC items) :: .k (Ex n C (λ s=>w = .next s) st' R')::tlI items) st R) (hK:∀ s,w = .next s->WI ro Tryz.prog n C Q (tlI items) (st' s) (R' s)) (hi:isC items=true:=by kernel_rfl):WI ro Tryz.prog n C Q items st R:=Aop hi _ st' R' h hK
theorem Ba {α β γ:Type} {o:Option α} {f:α->Option β} {g:α->β->Option γ} {r:γ} (h:(o.bind λ a=>(f a).bind λ b=>g a b)=some r):∃ a,o=some a/\∃ b,f a=some b/\g a b=some r:=by
 obtain⟨a,h1,h⟩:=Au h
 obtain⟨b,h2,h⟩:=Au h
 exact⟨a,h1,b,h2,h⟩
theorem Cg {α β γ δ:Type} {o:Option α} {f:α->Option β} {g:α->β->Option γ} {k:α->β->γ->Option δ} {r:δ} (h:(o.bind λ a=>(f a).bind λ b=>(g a b).bind λ c=>k a b c)=some r):∃ a,o=some a/\∃ b,f a=some b/\∃ c,g a b=some c/\k a b c=some r:=by
 obtain⟨a,h1,h⟩:=Au h
 obtain⟨b,h2,c,h3,h⟩:=Ba h
 exact⟨a,h1,b,h2,c,h3,h⟩
theorem Dt {α β γ δ ε:Type} {o:Option α} {f:α->Option β} {g:α->β->Option γ} {k:α->β->γ->Option δ} {l:α->β->γ->δ->Option ε} {r:ε} (h:(o.bind λ a=>(f a).bind λ b=>(g a b).bind λ c=>(k a b c).bind λ d=>l a b c d)=some r):∃ a,o=some a/\∃ b,f a=some b/\∃ c,g a b=some c/\∃ d,k a b c=some d/\l a b c d=some r:=by
 obtain⟨a,h1,h⟩:=Au h
 obtain⟨b,h2,c,h3,d,h4,h⟩:=Cg h
 exact⟨a,h1,b,h2,c,h3,d,h4,h⟩
theorem wl {ro:Option Nat} {n:Nat} {C:Ctx} {Q:Exit->Act->World->Prop} {st:St} {R:List Res} {α σ τ:Type} {items:List It} {f:Nat->α->σ->Option (Ctl σ τ)} (stF:Nat->σ->St) (RF:Nat->σ->List Res) {r:Ctl σ τ} {xs:List α} {s:σ} (hm:foldI f xs 0 s=some r) (hnil:∀ s,r = .next s->WI ro Tryz.prog n C Q (.c (lpC items) :: .k (λ _ _=>False)::tlI items) (stF xs.length s) (RF xs.length s)) (hcons:∀ i x s k,i<xs.length->xs[i]? = some x->f i x s=some k->(∀ s',k = .brk s'->r = .next s')->(∀ v,k = .ret v->r = .ret v)->WI ro Tryz.prog n C Q (.c (lpC items) :: .k (Ex n C (λ s'=>k = .next s') (stF (i+1)) (RF (i+1)))::tlI items) (stF i s) (RF i s)) (hi:isL items=true:=by kernel_rfl) (h0:st=stF 0 s:=by rfl) (h1:R=RF 0 s:=by rfl):WI ro Tryz.prog n C Q items st R:=Aj5 hi f stF RF r xs s hm h0 h1 hnil hcons
theorem ww {ro:Option Nat} {n:Nat} {C:Ctx} {Q:Exit->Act->World->Prop} {st:St} {R:List Res} {σ τ:Type} {items:List It} {f:σ->Option (Ctl σ τ)} (stF:σ->St) (RF:σ->List Res) {r:Ctl σ τ} {fuel:Nat} {s:σ} (hm:whileN f fuel s=some r) (h:∀ s k,f s=some k->(∀ s',k = .brk s'->r = .next s')->(∀ v,k = .ret v->r = .ret v)->WI ro Tryz.prog n C Q (.c (lpC items) :: .k (Ex n C (λ s'=>k = .next s') stF RF)::tlI items) (stF s) (RF s)) (hi:isL items=true:=by kernel_rfl) (h0:st=stF s:=by rfl) (h1:R=RF s:=by rfl):WI ro Tryz.prog n C Q items st R:=Aj4 hi f stF RF r fuel s hm h0 h1 h
theorem cB {α:Type} {c:Bool} {x y z:α} (h:(bif c then x else y)=z):(c=true/\x=z)\/(c=false/\y=z):=by cases c;exact .inr ⟨rfl,h⟩;exact .inl ⟨rfl,h⟩
theorem wb {ro:Option Nat} {n:Nat} {C:Ctx} {Q:Exit->Act->World->Prop} {st:St} {R:List Res} {items:List It} (h:WI ro Tryz.prog n C Q (.c (Aok items) :: .b (Aoj items)::tlI items) st R) (hi:isB items=true:=by kernel_rfl):WI ro Tryz.prog n C Q items st R:=Aoq hi h
theorem co {f:FuncId} {fn:Func} {c:Code} {args:List AV} {res:AV} {R R2:List Res} (n:Nat) (hf:Tryz.prog.funcs[f]? = some fn) (h:∀ C:Ctx,C.h.length<=R.length->WI none Tryz.prog n C.z (Iy Tryz.prog fn C.z res R2) [.c c] (Qy 0 args) R) (hb:fn.body=some c:=by rfl) (hn:fn.ntmps=n:=by rfl) (hl:Nat.ble args.length n=true:=by rfl):CallOk Tryz.prog f args R res R2:=Af4 n hf hb hn hl h
theorem wr {ro:Option Nat} {n:Nat} {C:Ctx} {st:St} {R:List Res} {fn:Func} {res:AV} {R2:List Res} {items:List It} (lv:List Nat) (fuel:Nat) (ds:List Bool) (cls:List PC) (adj:List Adj) (k:Nat) (pi:List Nat) (hk:C.h.length<=k) (bs:List PB) (h:Pf Tryz.prog n lv fuel items st R ds (cls.map (·.1)) adj fn.results.toList k pi=some (res,R2,cls.map (·.1),bs.map (·.1)):=by kernel_rfl):WI ro Tryz.prog n C.z (Iy Tryz.prog fn C.z res R2) items st R:=Aon mixed lv fuel ds (cls.map (·.1)) adj _ k pi rfl hk (okP cls) (okB bs) h
theorem wf {ro:Option Nat} {n:Nat} {C:Ctx} {st:St} {R:List Res} {fn:Func} {res:AV} {R2:List Res} {items:List It} (lv:List Nat) (fuel:Nat) (ds:List Bool) (cls:List PC) (adj:List Adj) (k:Nat) (pi:List Nat) (hk:C.h.length<=k) (bs:List PB) (hn:Ai3 (Bu fuel items ds)=true:=by kernel_rfl) (h:Ph Tryz.prog n lv fuel items st R ds (cls.map (·.1)) adj fn.results.toList k pi=some (res,R2,cls.map (·.1),bs.map (·.1)):=by kernel_rfl):WI ro Tryz.prog n C.z (Iy Tryz.prog fn C.z res R2) items st R:=Ame mixed lv fuel ds (cls.map (·.1)) adj _ k pi rfl hk (okP cls) (okB bs) hn h
theorem en {f : FuncId} {fn : Func} (hf : Tryz.prog.funcs[f]? = some fn) (hb : fn.body.isNone = false := by kernel_rfl) (hn : (fn.name == "runtime.NumGoroutine") = false := by kernel_rfl) : El Tryz.prog f := Go.SL.Afu hf hb hn
abbrev ln {α:Type} (l:List α):Int:=(l.length:Int)
abbrev dI (x:Int):AV:=.d (I x)
abbrev dB (x:Bool):AV:=.d (Bo x)
abbrev dO (a b:Nat):AV:=.d (.o a b)
abbrev dS (a:Nat):AV:=.d (.os a)
theorem k82 (x0:Int) (x1:Int) (x2:Int) (r:Bool) (h:F82 x0 x1 x2=r):CO 82 [.d (I x0),.d (I x1),.d (I x2)] [] (.d (Bo r)) []:=by
 unfold F82 at h
 refine co 15 Tryz.func82 λ C hC=>?_
 subst h
 exact wr [0,1,2,6] 25 [] [] [] 0 [] hC []
theorem e82:EN 82:=en Tryz.func82
def Yk:List Nat:=[0,1,2,3,6,7,8,9,11,12,13,14,37]
def Pn (x0:Aa) (x1:Int) (x2:Int) (n0:Nat) (z0:(List Int)):St:=[(1,dI x1),(2,dI x2),(6,.d (DS pI [])),(7,dS 0),(11,.d (DS q70 x0.Ag)),(12,dI (ln x0.Ag)),(13,dI (cnt 0 n0))]
def V1  (n0:Nat) (z0:(List Int)):List Res:=[v0_ z0]
def Ady  (z0:(List Int)):St:=[(6,.d (DS pI [])),(7,dS 0)]
def Ago  (z0:(List Int)):List Res:=[v0_ z0]
theorem k83 (x0:Aa) (x1:Int) (x2:Int) (r:(List Int)) (h:F83 x0 x1 x2=some r):CO 83 [.agg (d30 x0),.d (I x1),.d (I x2)] [] (.d (.os 0)) [v0_ r]:=by
 unfold F83 at h
 refine co 44 Tryz.func83 λ C hC=>?_
 refine ws Yk 28 [] [pl q70 x0.Ag] [.own 7 3 1] 0 [1] (Pn x0 x1 x2 0 ([]:List Int)) (V1 0 ([]:List Int)) hC [] ?_
 obtain⟨w0,hm0,hret0,hnext0⟩:=Ak h
 clear h
 refine wc w0 (Ady) (Ago) ?_ λ z0 hs0=>?_
 ·refine wb ?_
  refine Bn 11 rfl λ hl0=>?_
  refine wl (Pn x0 x1 x2) (V1) hm0 (λ z0 hn0=>?_) λ n0 a0 z0 w0b hi0 hx0 h hb0 hr0=>?_
  ·clear hm0
   exact wx w0 (Ady) (Ago) Yk 26 [false] [] [] 0 [0] _ hC [pq (A6 hl0)] hn0
  ·unfold jK at h
   rcases cB h with⟨h1,h⟩ | ⟨h1,h⟩
   ·obtain⟨y2,h3,h⟩:=Au h
    exact wx w0b (Pn x0 x1 x2 (n0+1)) (V1 (n0+1)) Yk 36 [true,true] [pt hx0 hl0,pa pI 1 h3] [] 0 [2] _ hC [pq (A4 hi0 hl0),pq h1] (sI h).symm
   ·exact wx w0b (Pn x0 x1 x2 (n0+1)) (V1 (n0+1)) Yk 36 [true,false] [pt hx0 hl0] [] 0 [0] _ hC [pq (A4 hi0 hl0),pq h1] (sI h).symm
 ·have h:=hnext0 _ hs0
  replace h:=sI h
  subst h
  exact wr Yk 23 [] [] [] 0 [0] hC []
theorem e83:EN 83:=en Tryz.func83
theorem k44 (x0:Bd) (r:Bool) (h:F44 x0=r):CO 44 [.agg (d33 x0)] [] (.d (Bo r)) []:=by
 unfold F44 at h
 refine co 33 Tryz.func44 λ C hC=>?_
 subst h
 exact wr n3_ 25 [] [] [] 0 [] hC []
theorem e44:EN 44:=en Tryz.func44
theorem k91 (x0:Int) (x1:Int) (x2:Int) (r:Bool) (h:F91 x0 x1 x2=r):CO 91 [.d (I x0),.d (I x1),.d (I x2)] [] (.d (Bo r)) []:=by
 unfold F91 at h
 refine co 15 Tryz.func91 λ C hC=>?_
 subst h
 exact wr [0,1,2,6] 25 [] [] [] 0 [] hC []
theorem e91:EN 91:=en Tryz.func91
def Vr:List Nat:=[0,1,4,5,7,8,9,16]
def Rs (x0:List Int) (x1:Int) (n0:Nat) (z0:Unit):St:=[(0,.d (DS pI x0)),(1,dI x1),(4,dI 0),(7,dI (ln x0)),(8,dI (cnt 0 n0))]
def Z9  (n0:Nat) (z0:Unit):List Res:=[]
def vO  (z0:Unit):St:=[(4,dI 0)]
def yZ  (z0:Unit):List Res:=[]
theorem Aqo (x0:List Int) (x1:Int) (r:Int) (h:Ake x0 x1=some r):CO 186 [.d (DS pI x0),.d (I x1)] [] (.d (I r)) []:=by
 unfold Ake at h
 refine co 19 Tryz.func186 λ C hC=>?_
 refine ws Vr 26 [] [pl pI x0] [] 0 [] (Rs x0 x1 0 ()) (Z9 0 ()) hC [] ?_
 obtain⟨w0,hm0,hret0,hnext0⟩:=Ak h
 clear h
 refine wc w0 (vO) (yZ) ?_ λ z0 hs0=>?_
 ·refine wb ?_
  refine Bn 0 rfl λ hl0=>?_
  refine wl (Rs x0 x1) (Z9) hm0 (λ z0 hn0=>?_) λ n0 a0 z0 w0b hi0 hx0 h hb0 hr0=>?_
  ·clear hm0
   exact wx w0 (vO) (yZ) Vr 26 [false] [] [] 0 [] _ hC [pq (A6 hl0)] hn0
  ·unfold zV at h
   rcases cB h with⟨h1,h⟩ | ⟨h1,h⟩
   ·cases h
   ·exact wx w0b (Rs x0 x1 (n0+1)) (Z9 (n0+1)) Vr 36 [true,false] [pt hx0 hl0] [] 0 [] _ hC [pq (A4 hi0 hl0),pq h1] (sI h).symm
 ·have h:=hnext0 _ hs0
  replace h:=sI h
  subst h
  exact wr Vr 23 [] [] [] 0 [] hC []
theorem Arh:EN 186:=en Tryz.func186
theorem Am0 (x0:List Int) (r:Bool) (h:Akh x0=r):CO 154 [.d (DS pI x0)] [] (.d (Bo r)) []:=by
 unfold Akh at h
 refine co 6 Tryz.func154 λ C hC=>?_
 subst h
 exact wr [0,2] 25 [] [pl pI x0] [] 0 [] hC []
theorem Anv:EN 154:=en Tryz.func154
def P4:List Nat:=[0,1,2,4,5,6,11,16,20]
theorem Aq0 (x0:Aa) (x1:Int) (r:Int) (h:Kr x0 x1=r):CO 116 [.agg (d30 x0),.d (I x1)] [] (.d (I r)) []:=by
 unfold Kr at h
 refine co 25 Tryz.func116 λ C hC=>?_
 rcases cB h with⟨h1,h⟩ | ⟨h1,h⟩
 ·subst h
  exact wr P4 32 [true] [pl q72 x0.Ac] [] 0 [] hC [pq h1]
 ·rcases cB h with⟨h2,h⟩ | ⟨h2,h⟩
  ·subst h
   exact wr P4 35 [false,true] [pl q70 x0.Ag] [] 0 [] hC [pq h1,pq h2]
  ·rcases cB h with⟨h3,h⟩ | ⟨h3,h⟩
   ·subst h
    exact wr P4 38 [false,false,true] [] [] 0 [] hC [pq h1,pq h2,pq h3]
   ·rcases cB h with⟨h4,h⟩ | ⟨h4,h⟩
    ·subst h
     exact wr P4 41 [false,false,false,true] [pl q81 x0.Ah] [] 0 [] hC [pq h1,pq h2,pq h3,pq h4]
    ·subst h
     exact wr P4 43 [false,false,false,false] [] [] 0 [] hC [pq h1,pq h2,pq h3,pq h4]
theorem Art:EN 116:=en Tryz.func116
theorem G_ (x0:Int) (r:Bool) (h:qU x0=r):CO 155 [.d (I x0)] [] (.d (Bo r)) []:=by
 unfold qU at h
 refine co 6 Tryz.func155 λ C hC=>?_
 subst h
 exact wr [0,2] 25 [] [] [] 0 [] hC []
theorem Hc:EN 155:=en Tryz.func155
def P3:List Nat:=[0,2,3,5,6,7,8,9,14]
def Ry (x0:List Int) (n0:Nat) (z0:Unit):St:=[(2,dI 0),(3,dI 0),(6,.d (DS pI x0)),(7,dI (ln x0)),(8,dI (cnt 0 n0))]
def jF  (n0:Nat) (z0:Unit):List Res:=[]
def yB  (z0:Unit):St:=[(2,dI 0),(3,dI 0)]
def zN  (z0:Unit):List Res:=[]
theorem Aqz (x0:List Int) (r:Int) (h:Akm x0=some r):CO 117 [.d (DS pI x0)] [] (.d (I r)) []:=by
 unfold Akm at h
 refine co 18 Tryz.func117 λ C hC=>?_
 refine ws P3 28 [] [pl pI x0] [] 0 [] (Ry x0 0 ()) (jF 0 ()) hC [] ?_
 obtain⟨w0,hm0,hret0,hnext0⟩:=Ak h
 clear h
 refine wc w0 (yB) (zN) ?_ λ z0 hs0=>?_
 ·refine wb ?_
  refine Bn 6 rfl λ hl0=>?_
  refine wl (Ry x0) (jF) hm0 (λ z0 hn0=>?_) λ n0 a0 z0 w0b hi0 hx0 h hb0 hr0=>?_
  ·clear hm0
   exact wx w0 (yB) (zN) P3 26 [false] [] [] 0 [] _ hC [pq (A6 hl0)] hn0
  ·unfold Aad at h
   rcases cB h with⟨h1,h⟩ | ⟨h1,h⟩
   ·have hq:=hret0 _ (hr0 _ (sI h).symm)
    replace hq:=sI hq
    subst hq
    exact wr P3 35 [true,true] [pt hx0 hl0] [] 0 [] hC [pq (A4 hi0 hl0),pq h1]
   ·exact wx w0b (Ry x0 (n0+1)) (jF (n0+1)) P3 36 [true,false] [pt hx0 hl0] [] 0 [] _ hC [pq (A4 hi0 hl0),pq h1] (sI h).symm
 ·have h:=hnext0 _ hs0
  replace h:=sI h
  subst h
  exact wr P3 23 [] [] [] 0 [] hC []
theorem Ars:EN 117:=en Tryz.func117
def Yj:List Nat:=[0,1,2,3,4,6,7,8,9,11,12,13,14,33]
def Pl (x0:Aa) (x2:Int) (n0:Nat) (z0:Int):St:=[(2,dI x2),(4,dO 0 0),(6,dI 0),(7,dI z0),(11,.d (DS q70 x0.Ag)),(12,dI (ln x0.Ag)),(13,dI (cnt 0 n0))]
def Vz (x1:Ab) (n0:Nat) (z0:Int):List Res:=[.box 39 (d39 x1)]
def Adt  (z0:Int):St:=[(6,dI 0),(7,dI z0)]
def Agj  (z0:Int):List Res:=[]
theorem k92 (x0:Aa) (x1:Ab) (x2:Int) (r:Int) (h:F92 x0 x1 x2=some r):CO 92 [.agg (d30 x0),.agg (d39 x1),.d (I x2)] [] (.d (I r)) []:=by
 unfold F92 at h
 refine co 38 Tryz.func92 λ C hC=>?_
 refine ws Yj 28 [] [pl q70 x0.Ag] [] 0 [1] (Pl x0 x2 0 0) (Vz x1 0 0) hC [] ?_
 obtain⟨w0,hm0,hret0,hnext0⟩:=Ak h
 clear h
 refine wc w0 (Adt) (Agj) ?_ λ z0 hs0=>?_
 ·refine wb ?_
  refine Bn 11 rfl λ hl0=>?_
  refine wl (Pl x0 x2) (Vz x1) hm0 (λ z0 hn0=>?_) λ n0 a0 z0 w0b hi0 hx0 h hb0 hr0=>?_
  ·clear hm0
   exact wx w0 (Adt) (Agj) Yj 26 [false] [] [] 0 [] _ hC [pq (A6 hl0)] hn0
  ·unfold Ahz at h
   obtain⟨y1,h2,h⟩:=Au h
   rcases cB h with⟨h3,h⟩ | ⟨h3,h⟩
   ·exact wx w0b (Pl x0 x2 (n0+1)) (Vz x1 (n0+1)) Yj 36 [true,true] [pt hx0 hl0,pR pB h2] [] 0 [0] _ hC [pq (A4 hi0 hl0),pq h3] (sI h).symm
   ·exact wx w0b (Pl x0 x2 (n0+1)) (Vz x1 (n0+1)) Yj 36 [true,false] [pt hx0 hl0,pR pB h2] [] 0 [0] _ hC [pq (A4 hi0 hl0),pq h3] (sI h).symm
 ·have h:=hnext0 _ hs0
  replace h:=sI h
  subst h
  exact wr Yj 23 [] [] [] 0 [] hC []
theorem e92:EN 92:=en Tryz.func92
theorem k93 (x0:List Bool) (r:List Bool) (h:F93 x0=some r):CO 93 [.d (.p (.s (x0.map pB)))] [] (.d (.os 0)) [v3_ r]:=by
 unfold F93 at h
 refine co 8 Tryz.func93 λ C hC=>?_
 refine ws [0,4] 40 [] [] [] 0 [] [(0,.d (.p (.s (x0.map pB)))),(4,.d (.nq (x0.map pB)))] [] hC [] ?_
 refine Na 4 (by kernel_rfl) (by kernel_rfl) rfl (λ hn=>?_) ?_
 ·have hx:x0=[]:=by cases x0 with | nil=>rfl | cons=>cases hn
  subst hx
  have hr:r=[]:=by simpa [appI] using h.symm
  subst hr
  exact wr [2] 40 [] [] [.own 2 4 1] 0 [0] hC []
 ·exact wr [2] 40 [] [⟨.own,trivial⟩,⟨.app [] (x0.map pB) 1 ((([]:List (List Pd)).length+(x0.map pB).length)*(1+1)) (r.map pB),E9 (l:=[]) pB 1 (λ _=>rfl) h⟩] [] 0 [1] hC []
theorem e93:EN 93:=en Tryz.func93
theorem k94 (x0:List Ae) (r:List Ae) (h:F94 x0=some r):CO 94 [.d (.p (.s (x0.map q93)))] [] (.d (.os 0)) [v4_ r]:=by
 unfold F94 at h
 refine co 8 Tryz.func94 λ C hC=>?_
 refine ws [0,4] 40 [] [] [] 0 [] [(0,.d (.p (.s (x0.map q93)))),(4,.d (.nq (x0.map q93)))] [] hC [] ?_
 refine Na 4 (by kernel_rfl) (by kernel_rfl) rfl (λ hn=>?_) ?_
 ·have hx:x0=[]:=by cases x0 with | nil=>rfl | cons=>cases hn
  subst hx
  have hr:r=[]:=by simpa [appI] using h.symm
  subst hr
  exact wr [2] 40 [] [] [.own 2 93 4] 0 [0] hC []
 ·exact wr [2] 40 [] [⟨.own,trivial⟩,⟨.app [] (x0.map q93) 4 ((([]:List (List Pd)).length+(x0.map q93).length)*(32+1)) (r.map q93),E9 (l:=[]) q93 4 (λ _=>rfl) h⟩] [] 0 [1] hC []
theorem e94:EN 94:=en Tryz.func94
theorem k95 (x0:List Int) (r:List Int) (h:F95 x0=some r):CO 95 [.d (.p (.s (x0.map pI)))] [] (.d (.os 0)) [v0_ r]:=by
 unfold F95 at h
 refine co 8 Tryz.func95 λ C hC=>?_
 refine ws [0,4] 40 [] [] [] 0 [] [(0,.d (.p (.s (x0.map pI)))),(4,.d (.nq (x0.map pI)))] [] hC [] ?_
 refine Na 4 (by kernel_rfl) (by kernel_rfl) rfl (λ hn=>?_) ?_
 ·have hx:x0=[]:=by cases x0 with | nil=>rfl | cons=>cases hn
  subst hx
  have hr:r=[]:=by simpa [appI] using h.symm
  subst hr
  exact wr [2] 40 [] [] [.own 2 3 1] 0 [0] hC []
 ·exact wr [2] 40 [] [⟨.own,trivial⟩,⟨.app [] (x0.map pI) 1 ((([]:List (List Pd)).length+(x0.map pI).length)*(8+1)) (r.map pI),E9 (l:=[]) pI 1 (λ _=>rfl) h⟩] [] 0 [1] hC []
theorem e95:EN 95:=en Tryz.func95
theorem k96 (x0:List Aq) (r:List Aq) (h:F96 x0=some r):CO 96 [.d (.p (.s (x0.map q96)))] [] (.d (.os 0)) [v5_ r]:=by
 unfold F96 at h
 refine co 8 Tryz.func96 λ C hC=>?_
 refine ws [0,4] 40 [] [] [] 0 [] [(0,.d (.p (.s (x0.map q96)))),(4,.d (.nq (x0.map q96)))] [] hC [] ?_
 refine Na 4 (by kernel_rfl) (by kernel_rfl) rfl (λ hn=>?_) ?_
 ·have hx:x0=[]:=by cases x0 with | nil=>rfl | cons=>cases hn
  subst hx
  have hr:r=[]:=by simpa [appI] using h.symm
  subst hr
  exact wr [2] 40 [] [] [.own 2 96 2] 0 [0] hC []
 ·exact wr [2] 40 [] [⟨.own,trivial⟩,⟨.app [] (x0.map q96) 2 ((([]:List (List Pd)).length+(x0.map q96).length)*(16+1)) (r.map q96),E9 (l:=[]) q96 2 (λ _=>rfl) h⟩] [] 0 [1] hC []
theorem e96:EN 96:=en Tryz.func96
def Ir:List Nat:=[0,1,2,3,4,5,6,7,8,9,14,15,16,24,25,26,28,29,30,31,44]
def Wd (y1:List Int) (n0:Nat) (z0:(List Int)):St:=[(2,dO 0 0),(3,dO 1 0),(4,.d (DS pI [])),(5,dS 2),(14,dI (ln y1)),(15,dI (cnt 0 n0))]
def Abw (x0:Aa) (x1:Ab) (n0:Nat) (z0:(List Int)):List Res:=[.box 30 (d30 x0),.box 39 (d39 x1),v0_ z0]
def Ads  (z0:(List Int)):St:=[(2,dO 0 0),(3,dO 1 0),(4,.d (DS pI [])),(5,dS 2)]
def Agi (x0:Aa) (x1:Ab) (z0:(List Int)):List Res:=[.box 30 (d30 x0),.box 39 (d39 x1),v0_ z0]
def Wc (z0:(List Int)) (n1:Nat) (z1:Unit):St:=[(2,dO 0 0),(3,dO 1 0),(4,.d (DS pI [])),(5,dS 2),(24,dI (ln z0)),(25,dI (cnt 0 n1))]
def Abv (x0:Aa) (x1:Ab) (z0:(List Int)) (n1:Nat) (z1:Unit):List Res:=[.box 30 (d30 x0),.box 39 (d39 x1),v0_ z0]
def Adr  (z1:Unit):St:=[(4,.d (DS pI [])),(5,dS 0)]
def Agh (z0:(List Int)) (z1:Unit):List Res:=[v0_ z0]
def Wb (x0:Aa) (z0:(List Int)) (n1:Nat) (n2:Nat) (z2:Unit):St:=[(2,dO 0 0),(3,dO 1 0),(4,.d (DS pI [])),(5,dS 2),(24,dI (ln z0)),(25,dI (cnt 0 n1)),(28,.d (DS q70 x0.Ag)),(29,dI (ln x0.Ag)),(30,dI (cnt 0 n2))]
def Abu (x0:Aa) (x1:Ab) (z0:(List Int)) (n2:Nat) (z2:Unit):List Res:=[.box 30 (d30 x0),.box 39 (d39 x1),v0_ z0]
def Adq (z0:(List Int)) (n1:Nat) (z2:Unit):St:=[(2,dO 0 0),(3,dO 1 0),(4,.d (DS pI [])),(5,dS 2),(24,dI (ln z0)),(25,dI (cnt 0 n1))]
def Agg (x0:Aa) (x1:Ab) (z0:(List Int)) (z2:Unit):List Res:=[.box 30 (d30 x0),.box 39 (d39 x1),v0_ z0]
theorem k97 (x0:Aa) (x1:Ab) (r:(List Int)) (h:F97 x0 x1=some r):CO 97 [.agg (d30 x0),.agg (d39 x1)] [] (.d (.os 0)) [v0_ r]:=by
 unfold F97 at h
 refine co 69 Tryz.func97 λ C hC=>?_
 obtain⟨y1,h2,h⟩:=Au h
 refine ws Ir 28 [] [⟨.room (x0.Ap*(8+1)) (List.replicate (Int.toNat x0.Ap) (pI 0)) (y1.map pI),Gm h2⟩,pl pI y1] [] 0 n3_ (Wd y1 0 y1) (Abw x0 x1 0 y1) hC [] ?_
 obtain⟨w0,hm0,hret0,hnext0⟩:=Ak h
 clear h
 refine wc w0 (Ads) (Agi x0 x1) ?_ λ z0 hs0=>?_
 ·refine wb ?_
  refine Cc 5 2 rfl rfl λ hl0=>?_
  refine wl (Wd y1) (Abw x0 x1) hm0 (λ z0 hn0=>?_) λ n0 a0 z0 w0b hi0 hx0 h hb0 hr0=>?_
  ·clear hm0
   exact wx w0 (Ads) (Agi x0 x1) Ir 26 [false] [] [] 0 n3_ _ hC [pq (A6 hl0)] hn0
  ·unfold Ahy at h
   obtain⟨y3,h4,y5,h6,h⟩:=Ba h
   exact wx w0b (Wd y1 (n0+1)) (Abw x0 x1 (n0+1)) Ir 33 [true] [pr pI h4,pu pI h4 h6] [] 0 n3_ _ hC [pq (A4 hi0 hl0)] (sI h).symm
 ·have h:=hnext0 _ hs0
  refine ws Ir 24 [] [pl pI z0] [] 0 n3_ (Wc z0 0 ()) (Abv x0 x1 z0 0 ()) hC [] ?_
  obtain⟨w1,hm1,hret1,hnext1⟩:=Ak h
  clear h
  refine wc w1 (Adr) (Agh z0) ?_ λ z1 hs1=>?_
  ·refine wb ?_
   refine Cc 5 2 rfl rfl λ hl1=>?_
   refine wl (Wc z0) (Abv x0 x1 z0) hm1 (λ z1 hn1=>?_) λ n1 a1 z1 w1b hi1 hx1 h hb1 hr1=>?_
   ·clear hm1
    exact wx w1 (Adr) (Agh z0) Ir 26 [false] [] [] 0 [2] _ hC [pq (A6 hl1)] hn1
   ·unfold Ahx at h
    refine ws Ir 30 [true] [pl q70 x0.Ag] [] 0 n3_ (Wb x0 z0 n1 0 ()) (Abu x0 x1 z0 0 ()) hC [pq (A4 hi1 hl1)] ?_
    obtain⟨w2,hm2,hret2,hnext2⟩:=Ak h
    clear h
    refine wc w2 (Adq z0 n1) (Agg x0 x1 z0) ?_ λ z2 hs2=>?_
    ·refine wb ?_
     refine Bn 28 rfl λ hl2=>?_
     refine wl (Wb x0 z0 n1) (Abu x0 x1 z0) hm2 (λ z2 hn2=>?_) λ n2 a2 z2 w2b hi2 hx2 h hb2 hr2=>?_
     ·clear hm2
      exact wx w2 (Adq z0 n1) (Agg x0 x1 z0) Ir 26 [false] [] [] 0 n3_ _ hC [pq (A6 hl2)] hn2
     ·unfold Ahw at h
      obtain⟨y7,h8,h⟩:=Au h
      rcases cB h with⟨h9,h⟩ | ⟨h9,h⟩
      ·cases h
      ·exact wx w2b (Wb x0 z0 n1 (n2+1)) (Abu x0 x1 z0 (n2+1)) Ir 36 [true,false] [pt hx2 hl2,pR pB h8] [] 0 n3_ _ hC [pq (A4 hi2 hl2),pq h9] (sI h).symm
    ·have h:=hnext2 _ hs2
     exact wx w1b (Wc z0 (n1+1)) (Abv x0 x1 z0 (n1+1)) Ir 23 [] [] [] 0 n3_ _ hC [] (sI h).symm
  ·have h:=hnext1 _ hs1
   replace h:=sI h
   subst h
   exact wr Ir 23 [] [] [] 0 [0] hC []
theorem e97:EN 97:=en Tryz.func97
def Vs:List Nat:=[0,1,2,3,4,5,8,9,10,11,13,14,15,16,36]
def Rx (x0:Aa) (x2:Int) (x3:Int) (n0:Nat) (z0:Unit):St:=[(2,dI x2),(3,dI x3),(5,dO 0 0),(8,dI 0),(9,dB false),(13,.d (DS q70 x0.Ag)),(14,dI (ln x0.Ag)),(15,dI (cnt 0 n0))]
def jE (x1:Ab) (n0:Nat) (z0:Unit):List Res:=[.box 39 (d39 x1)]
def yA  (z0:Unit):St:=[(8,dI 0),(9,dB false)]
def zM  (z0:Unit):List Res:=[]
theorem Aqy (x0:Aa) (x1:Ab) (x2:Int) (x3:Int) (r:Int×Bool) (h:Akl x0 x1 x2 x3=some r):CO 120 [.agg (d30 x0),.agg (d39 x1),.d (I x2),.d (I x3)] [] (.tup [.d (I r.1),.d (Bo r.2)]) []:=by
 unfold Akl at h
 refine co 40 Tryz.func120 λ C hC=>?_
 refine ws Vs 26 [] [pl q70 x0.Ag] [] 0 [1] (Rx x0 x2 x3 0 ()) (jE x1 0 ()) hC [] ?_
 obtain⟨w0,hm0,hret0,hnext0⟩:=Ak h
 clear h
 refine wc w0 (yA) (zM) ?_ λ z0 hs0=>?_
 ·refine wb ?_
  refine Bn 13 rfl λ hl0=>?_
  refine wl (Rx x0 x2 x3) (jE x1) hm0 (λ z0 hn0=>?_) λ n0 a0 z0 w0b hi0 hx0 h hb0 hr0=>?_
  ·clear hm0
   exact wx w0 (yA) (zM) Vs 26 [false] [] [] 0 [] _ hC [pq (A6 hl0)] hn0
  ·unfold Aac at h
   obtain⟨y1,h2,h⟩:=Au h
   rcases cB h with⟨h3,h⟩ | ⟨h3,h⟩
   ·cases h
   ·exact wx w0b (Rx x0 x2 x3 (n0+1)) (jE x1 (n0+1)) Vs 36 [true,false] [pt hx0 hl0,pR pB h2] [] 0 [0] _ hC [pq (A4 hi0 hl0),pq h3] (sI h).symm
 ·have h:=hnext0 _ hs0
  replace h:=sI h
  subst h
  exact wr Vs 23 [] [] [] 0 [] hC []
theorem Arr:EN 120:=en Tryz.func120
theorem Aq9 (x0:Ai) (r:Bool) (h:Akt x0=r):CO 101 [.agg (Kf x0)] [] (.d (Bo r)) []:=by
 unfold Akt at h
 refine co 7 Tryz.func101 λ C hC=>?_
 subst h
 exact wr n3_ 25 [] [pl pI x0.Ap] [] 0 [] hC []
theorem Ar2:EN 101:=en Tryz.func101
theorem k49 (x0:Bd) (r:Bool) (h:F49 x0=r):CO 49 [.agg (d33 x0)] [] (.d (Bo r)) []:=by
 unfold F49 at h
 refine co 33 Tryz.func49 λ C hC=>?_
 subst h
 exact wr n3_ 25 [] [] [] 0 [] hC []
theorem e49:EN 49:=en Tryz.func49
def Aaw:List Nat:=[0,1,4,5,10,12,13,14,24]
def Wk (x0:List Bool) (x1:List Bool) (n0:Nat) (z0:Unit):St:=[(0,.d (DS pB x0)),(1,.d (DS pB x1)),(4,dB false),(12,dI (ln x0)),(13,dI (cnt 0 n0))]
def Ab3  (n0:Nat) (z0:Unit):List Res:=[]
def Ad2  (z0:Unit):St:=[(4,dB false)]
def Ags  (z0:Unit):List Res:=[]
theorem k69 (x0:List Bool) (x1:List Bool) (r:Bool) (h:F69 x0 x1=some r):CO 69 [.d (DS pB x0),.d (DS pB x1)] [] (.d (Bo r)) []:=by
 unfold F69 at h
 refine co 26 Tryz.func69 λ C hC=>?_
 rcases cB h with⟨h1,h⟩ | ⟨h1,h⟩
 ·cases h
 ·refine ws Aaw 31 [false] [pl pB x0,pl pB x1,pl pB x0] [] 0 [] (Wk x0 x1 0 ()) (Ab3 0 ()) hC [pq h1] ?_
  obtain⟨w0,hm0,hret0,hnext0⟩:=Ak h
  clear h
  refine wc w0 (Ad2) (Ags) ?_ λ z0 hs0=>?_
  ·refine wb ?_
   refine Bn 0 rfl λ hl0=>?_
   refine wl (Wk x0 x1) (Ab3) hm0 (λ z0 hn0=>?_) λ n0 a0 z0 w0b hi0 hx0 h hb0 hr0=>?_
   ·clear hm0
    exact wx w0 (Ad2) (Ags) Aaw 26 [false] [] [] 0 [] _ hC [pq (A6 hl0)] hn0
   ·unfold Ah6 at h
    obtain⟨y2,h3,h⟩:=Au h
    rcases cB h with⟨h4,h⟩ | ⟨h4,h⟩
    ·cases h
    ·exact wx w0b (Wk x0 x1 (n0+1)) (Ab3 (n0+1)) Aaw 36 [true,false] [pt hx0 hl0,pr pB h3] [] 0 [] _ hC [pq (A4 hi0 hl0),pq h4] (sI h).symm
  ·have h:=hnext0 _ hs0
   replace h:=sI h
   subst h
   exact wr Aaw 23 [] [] [] 0 [] hC []
theorem e69:EN 69:=en Tryz.func69
def Aav:List Nat:=[0,1,4,5,10,12,13,14,24]
def Wj (x0:List Ae) (x1:List Ae) (n0:Nat) (z0:Unit):St:=[(0,.d (DS q93 x0)),(1,.d (DS q93 x1)),(4,dB false),(12,dI (ln x0)),(13,dI (cnt 0 n0))]
def Ab2  (n0:Nat) (z0:Unit):List Res:=[]
def Ad1  (z0:Unit):St:=[(4,dB false)]
def Agr  (z0:Unit):List Res:=[]
theorem k70 (x0:List Ae) (x1:List Ae) (r:Bool) (h:F70 x0 x1=some r):CO 70 [.d (DS q93 x0),.d (DS q93 x1)] [] (.d (Bo r)) []:=by
 unfold F70 at h
 refine co 26 Tryz.func70 λ C hC=>?_
 rcases cB h with⟨h1,h⟩ | ⟨h1,h⟩
 ·cases h
 ·refine ws Aav 31 [false] [pl q93 x0,pl q93 x1,pl q93 x0] [] 0 [] (Wj x0 x1 0 ()) (Ab2 0 ()) hC [pq h1] ?_
  obtain⟨w0,hm0,hret0,hnext0⟩:=Ak h
  clear h
  refine wc w0 (Ad1) (Agr) ?_ λ z0 hs0=>?_
  ·refine wb ?_
   refine Bn 0 rfl λ hl0=>?_
   refine wl (Wj x0 x1) (Ab2) hm0 (λ z0 hn0=>?_) λ n0 a0 z0 w0b hi0 hx0 h hb0 hr0=>?_
   ·clear hm0
    exact wx w0 (Ad1) (Agr) Aav 26 [false] [] [] 0 [] _ hC [pq (A6 hl0)] hn0
   ·unfold Ah5 at h
    obtain⟨y2,h3,h⟩:=Au h
    rcases cB h with⟨h4,h⟩ | ⟨h4,h⟩
    ·cases h
    ·exact wx w0b (Wj x0 x1 (n0+1)) (Ab2 (n0+1)) Aav 36 [true,false] [pt hx0 hl0,pr q93 h3] [] 0 [] _ hC [pq (A4 hi0 hl0),pq h4] (sI h).symm
  ·have h:=hnext0 _ hs0
   replace h:=sI h
   subst h
   exact wr Aav 23 [] [] [] 0 [] hC []
theorem e70:EN 70:=en Tryz.func70
def Ym:List Nat:=[0,1,4,5,10,12,13,14,24]
def Wi (x0:List Int) (x1:List Int) (n0:Nat) (z0:Unit):St:=[(0,.d (DS pI x0)),(1,.d (DS pI x1)),(4,dB false),(12,dI (ln x0)),(13,dI (cnt 0 n0))]
def Ab1  (n0:Nat) (z0:Unit):List Res:=[]
def Ad0  (z0:Unit):St:=[(4,dB false)]
def Agq  (z0:Unit):List Res:=[]
theorem k71 (x0:List Int) (x1:List Int) (r:Bool) (h:F71 x0 x1=some r):CO 71 [.d (DS pI x0),.d (DS pI x1)] [] (.d (Bo r)) []:=by
 unfold F71 at h
 refine co 26 Tryz.func71 λ C hC=>?_
 rcases cB h with⟨h1,h⟩ | ⟨h1,h⟩
 ·cases h
 ·refine ws Ym 31 [false] [pl pI x0,pl pI x1,pl pI x0] [] 0 [] (Wi x0 x1 0 ()) (Ab1 0 ()) hC [pq h1] ?_
  obtain⟨w0,hm0,hret0,hnext0⟩:=Ak h
  clear h
  refine wc w0 (Ad0) (Agq) ?_ λ z0 hs0=>?_
  ·refine wb ?_
   refine Bn 0 rfl λ hl0=>?_
   refine wl (Wi x0 x1) (Ab1) hm0 (λ z0 hn0=>?_) λ n0 a0 z0 w0b hi0 hx0 h hb0 hr0=>?_
   ·clear hm0
    exact wx w0 (Ad0) (Agq) Ym 26 [false] [] [] 0 [] _ hC [pq (A6 hl0)] hn0
   ·unfold Ah4 at h
    obtain⟨y2,h3,h⟩:=Au h
    rcases cB h with⟨h4,h⟩ | ⟨h4,h⟩
    ·have hq:=hret0 _ (hr0 _ (sI h).symm)
     replace hq:=sI hq
     subst hq
     exact wr Ym 35 [true,true] [pt hx0 hl0,pr pI h3] [] 0 [] hC [pq (A4 hi0 hl0),pq h4]
    ·exact wx w0b (Wi x0 x1 (n0+1)) (Ab1 (n0+1)) Ym 36 [true,false] [pt hx0 hl0,pr pI h3] [] 0 [] _ hC [pq (A4 hi0 hl0),pq h4] (sI h).symm
  ·have h:=hnext0 _ hs0
   replace h:=sI h
   subst h
   exact wr Ym 23 [] [] [] 0 [] hC []
theorem e71:EN 71:=en Tryz.func71
def Yl:List Nat:=[0,1,4,5,10,12,13,14,24]
def Wh (x0:List Aq) (x1:List Aq) (n0:Nat) (z0:Unit):St:=[(0,.d (DS q96 x0)),(1,.d (DS q96 x1)),(4,dB false),(12,dI (ln x0)),(13,dI (cnt 0 n0))]
def Ab0  (n0:Nat) (z0:Unit):List Res:=[]
def Adz  (z0:Unit):St:=[(4,dB false)]
def Agp  (z0:Unit):List Res:=[]
theorem k72 (x0:List Aq) (x1:List Aq) (r:Bool) (h:F72 x0 x1=some r):CO 72 [.d (DS q96 x0),.d (DS q96 x1)] [] (.d (Bo r)) []:=by
 unfold F72 at h
 refine co 26 Tryz.func72 λ C hC=>?_
 rcases cB h with⟨h1,h⟩ | ⟨h1,h⟩
 ·cases h
 ·refine ws Yl 31 [false] [pl q96 x0,pl q96 x1,pl q96 x0] [] 0 [] (Wh x0 x1 0 ()) (Ab0 0 ()) hC [pq h1] ?_
  obtain⟨w0,hm0,hret0,hnext0⟩:=Ak h
  clear h
  refine wc w0 (Adz) (Agp) ?_ λ z0 hs0=>?_
  ·refine wb ?_
   refine Bn 0 rfl λ hl0=>?_
   refine wl (Wh x0 x1) (Ab0) hm0 (λ z0 hn0=>?_) λ n0 a0 z0 w0b hi0 hx0 h hb0 hr0=>?_
   ·clear hm0
    exact wx w0 (Adz) (Agp) Yl 26 [false] [] [] 0 [] _ hC [pq (A6 hl0)] hn0
   ·unfold Ah3 at h
    obtain⟨y2,h3,h⟩:=Au h
    rcases cB h with⟨h4,h⟩ | ⟨h4,h⟩
    ·have hq:=hret0 _ (hr0 _ (sI h).symm)
     replace hq:=sI hq
     subst hq
     exact wr Yl 35 [true,true] [pt hx0 hl0,pr q96 h3] [] 0 [] hC [pq (A4 hi0 hl0),pq h4]
    ·exact wx w0b (Wh x0 x1 (n0+1)) (Ab0 (n0+1)) Yl 36 [true,false] [pt hx0 hl0,pr q96 h3] [] 0 [] _ hC [pq (A4 hi0 hl0),pq h4] (sI h).symm
  ·have h:=hnext0 _ hs0
   replace h:=sI h
   subst h
   exact wr Yl 23 [] [] [] 0 [] hC []
theorem e72:EN 72:=en Tryz.func72
theorem Ak4 (x0:Int) (x1:Al) (r:Bool) (h:Ng x0 x1=r):CO 48 [.d (I x0),.d (.ip [.v (.int .i64 x1.Time),.s (x1.Power.Am.map pB),.s (x1.Power.Ac.map q93),.s (x1.Power.Aw.map pI),.s (x1.Power.As.map q96),.s (x1.Av.map q84),.s (x1.A7.map q65)])] [] (.d (Bo r)) []:=by
 unfold Ng at h
 refine co 12 Tryz.func48 λ C hC=>?_
 subst h
 exact wr [0,1,3] 25 [] [] [] 0 [] hC []
theorem Ak6:EN 48:=en Tryz.func48
theorem k30 (x0:Al) (r:Al) (h:F30 x0=some r):CO 30 [.agg (d43 x0)] [] (.agg [I r.Time,.os 0,.os 1,.os 2,.os 3,.os 4,.os 5]) (zp r.Power [v2_ r.Av,v1_ r.A7]):=by
 unfold F30 at h
 refine co 36 Tryz.func30 λ C hC=>?_
 obtain⟨y1,h2,y3,h4,y5,h6,y7,h8,h⟩:=Dt h
 obtain⟨y9,h10,y11,h12,h⟩:=Ba h
 replace h:=sI h
 subst h
 exact wr n3_ 31 [] [⟨.app [] (x0.Av.map q84) 2 ((x0.Av.map q84).length*(16+1)) (y1.map q84),D4 q84 2 (λ _=>rfl) h2⟩,⟨.app [] (x0.A7.map q65) 5 ((x0.A7.map q65).length*(40+1)) (y3.map q65),D4 q65 5 (λ _=>rfl) h4⟩,⟨.app [] (x0.Power.Am.map pB) 1 ((x0.Power.Am.map pB).length*(1+1)) (y5.map pB),D4 pB 1 (λ _=>rfl) h6⟩,⟨.app [] (x0.Power.Ac.map q93) 4 ((x0.Power.Ac.map q93).length*(32+1)) (y7.map q93),D4 q93 4 (λ _=>rfl) h8⟩,⟨.app [] (x0.Power.Aw.map pI) 1 ((x0.Power.Aw.map pI).length*(8+1)) (y9.map pI),D4 pI 1 (λ _=>rfl) h10⟩,⟨.app [] (x0.Power.As.map q96) 2 ((x0.Power.As.map q96).length*(16+1)) (y11.map q96),D4 q96 2 (λ _=>rfl) h12⟩] [] 0 [7,9,11,13,3,5] hC []
theorem e30:EN 30:=en Tryz.func30
theorem Aq8 (x0:List Ar) (r:List Ar) (h:Aks x0=some r):CO 102 [.d (.p (.s (x0.map q84)))] [] (.d (.os 0)) [v2_ r]:=by
 unfold Aks at h
 refine co 8 Tryz.func102 λ C hC=>?_
 refine ws [0,4] 40 [] [] [] 0 [] [(0,.d (.p (.s (x0.map q84)))),(4,.d (.nq (x0.map q84)))] [] hC [] ?_
 refine Na 4 (by kernel_rfl) (by kernel_rfl) rfl (λ hn=>?_) ?_
 ·have hx:x0=[]:=by cases x0 with | nil=>rfl | cons=>cases hn
  subst hx
  have hr:r=[]:=by simpa [appI] using h.symm
  subst hr
  exact wr [2] 40 [] [] [.own 2 84 2] 0 [0] hC []
 ·exact wr [2] 40 [] [⟨.own,trivial⟩,⟨.app [] (x0.map q84) 2 ((([]:List (List Pd)).length+(x0.map q84).length)*(16+1)) (r.map q84),E9 (l:=[]) q84 2 (λ _=>rfl) h⟩] [] 0 [1] hC []
theorem Ar1:EN 102:=en Tryz.func102
theorem k79 (x0:List A3) (r:List A3) (h:F79 x0=some r):CO 79 [.d (.p (.s (x0.map q65)))] [] (.d (.os 0)) [v1_ r]:=by
 unfold F79 at h
 refine co 8 Tryz.func79 λ C hC=>?_
 refine ws [0,4] 40 [] [] [] 0 [] [(0,.d (.p (.s (x0.map q65)))),(4,.d (.nq (x0.map q65)))] [] hC [] ?_
 refine Na 4 (by kernel_rfl) (by kernel_rfl) rfl (λ hn=>?_) ?_
 ·have hx:x0=[]:=by cases x0 with | nil=>rfl | cons=>cases hn
  subst hx
  have hr:r=[]:=by simpa [appI] using h.symm
  subst hr
  exact wr [2] 40 [] [] [.own 2 65 5] 0 [0] hC []
 ·exact wr [2] 40 [] [⟨.own,trivial⟩,⟨.app [] (x0.map q65) 5 ((([]:List (List Pd)).length+(x0.map q65).length)*(40+1)) (r.map q65),E9 (l:=[]) q65 5 (λ _=>rfl) h⟩] [] 0 [1] hC []
theorem e79:EN 79:=en Tryz.func79
theorem Aqv (x0:Aa) (x1:Int) (x2:Int) (r:Bool) (h:Aki x0 x1 x2=some r):CO 135 [.agg (d30 x0),.d (I x1),.d (I x2)] [] (.d (Bo r)) []:=by
 unfold Aki at h
 refine co 35 Tryz.func135 λ C hC=>?_
 rcases cB h with⟨h1,h⟩ | ⟨h1,h⟩
 ·replace h:=sI h
  subst h
  exact wr [0,1,2,3,6,7,8,9,14,19,23] 36 [true] [pl q72 x0.Ac] [] 0 [] hC [pq h1]
 ·cases h
theorem Aro:EN 135:=en Tryz.func135
def Pz:List Nat:=[0,1,3,4,5,7,8,9,16]
def Rr (x0:List Aq) (n0:Nat) (z0:Unit):St:=[(0,.d (DS q96 x0)),(3,dO 0 0),(4,dI 0),(7,dI (ln x0)),(8,dI (cnt 0 n0))]
def Z6 (x1:Aq) (n0:Nat) (z0:Unit):List Res:=[.box 96 (d96 x1)]
def vN  (z0:Unit):St:=[(4,dI 0)]
def yY  (z0:Unit):List Res:=[]
theorem Aqj (x0:List Aq) (x1:Aq) (r:Int) (h:Aka x0 x1=some r):CO 208 [.d (DS q96 x0),.agg (d96 x1)] [] (.d (I r)) []:=by
 unfold Aka at h
 refine co 19 Tryz.func208 λ C hC=>?_
 refine ws Pz 26 [] [pl q96 x0] [] 0 [0] (Rr x0 0 ()) (Z6 x1 0 ()) hC [] ?_
 obtain⟨w0,hm0,hret0,hnext0⟩:=Ak h
 clear h
 refine wc w0 (vN) (yY) ?_ λ z0 hs0=>?_
 ·refine wb ?_
  refine Bn 0 rfl λ hl0=>?_
  refine wl (Rr x0) (Z6 x1) hm0 (λ z0 hn0=>?_) λ n0 a0 z0 w0b hi0 hx0 h hb0 hr0=>?_
  ·clear hm0
   exact wx w0 (vN) (yY) Pz 26 [false] [] [] 0 [] _ hC [pq (A6 hl0)] hn0
  ·unfold zU at h
   rcases cB h with⟨h1,h⟩ | ⟨h1,h⟩
   ·have hq:=hret0 _ (hr0 _ (sI h).symm)
    replace hq:=sI hq
    subst hq
    exact wr Pz 35 [true,true] [pt hx0 hl0] [] 0 [] hC [pq (A4 hi0 hl0),pq h1]
   ·exact wx w0b (Rr x0 (n0+1)) (Z6 x1 (n0+1)) Pz 36 [true,false] [pt hx0 hl0] [] 0 [0] _ hC [pq (A4 hi0 hl0),pq h1] (sI h).symm
 ·have h:=hnext0 _ hs0
  replace h:=sI h
  subst h
  exact wr Pz 23 [] [] [] 0 [] hC []
theorem Arc:EN 208:=en Tryz.func208
theorem Amn (x0:Af) (x1:Int) (r:Bool) (h:qI x0 x1=r):CO 211 [.agg (d70 x0),.d (.ip [.v (.int .i64 x1)])] [] (.d (Bo r)) []:=by
 unfold qI at h
 refine co 13 Tryz.func211 λ C hC=>?_
 subst h
 exact wr n4_ 25 [] [] [] 0 [] hC []
theorem Ani:EN 211:=en Tryz.func211
theorem Aqk (x0:Int) (r:Int) (h:Akb x0=some r):CO 202 [.d (I x0)] [] (.d (I r)) []:=by
 unfold Akb at h
 refine co 10 Tryz.func202 λ C hC=>?_
 rcases cB h with⟨h1,h⟩ | ⟨h1,h⟩
 ·cases h
 ·replace h:=sI h
  subst h
  exact wr [0,2,6] 32 [false] [⟨.nz 3600,Yc rfl⟩] [] 0 [] hC [pq h1]
theorem Ard:EN 202:=en Tryz.func202
theorem Afg (x0:Ay) (x1:A0) (x2:Int) (r:Ay) (h:Rj x0 x1 x2=some r):CO 103 [.d (.o 0 0),.agg (d63 x1),.d (I x2)] (.box 119 (I x0.Ao.Time :: .os 1 :: .os 2 :: .os 3 :: .os 4 :: .os 5 :: .os 6::zb x0.Aj [.os 7,.os 8])::zp x0.Ao.Power [v2_ x0.Ao.Av,v1_ x0.Ao.A7,v1_ x0.events,v7_ x0.states]) (.tup []) (.box 119 (I r.Ao.Time :: .os 1 :: .os 2 :: .os 3 :: .os 4 :: .os 5 :: .os 6::zb r.Aj [.os 9,.os 8])::zp r.Ao.Power [v2_ r.Ao.Av,v1_ r.Ao.A7,.non,v7_ r.states,v1_ r.events]):=by
 unfold Rj at h
 refine co 23 Tryz.func103 λ C hC=>?_
 obtain⟨y1,h2,h⟩:=Au h
 replace h:=sI h
 subst h
 exact wf [0,1,2,4] 23 [] [pa q65 5 h2] [] 9 [0,1,2,3,4,5,6,7,8,10] hC []
theorem Afz:EN 103:=en Tryz.func103
theorem Afe (x0:Ax) (x1:Int) (r:Ax) (h:Rb x0 x1=some r):CO 188 [.d (.o 0 0),.d (I x1)] (.box 214 (zb x0.Aj [.os 1,.os 2,.os 3,.os 4,.os 5])::zp x0.Az [v6_ x0.acts]) (.tup []) (.box 214 (zb r.Aj [.os 1,.os 2,.os 3,.os 4,.os 6])::zp r.Az [.non,v6_ r.acts]):=by
 unfold Rb at h
 refine co 22 Tryz.func188 λ C hC=>?_
 obtain⟨y1,h2,y3,h4,y5,h6,h⟩:=Cg h
 replace h:=sI h
 subst h
 exact wf [0,1] 23 [] [pr pB h2,pu pB h2 h4,pa q63 3 h6] [] 6 n7_ hC []
theorem Afx:EN 188:=en Tryz.func188
def Sm:List Nat:=[0,1,2,3,8,9,14,34]
def Ts (x0:List Int) (x1:Int) (x2:Int) (x3c0:Aa) (z0:Unit):St:=[(0,.d (DS pI x0)),(1,dI x1),(2,dI x2),(3,.d (.fn (.func 191) [] [.ip [.v (.int .i64 x3c0.Ap),.s (x3c0.Ag.map q70),.s (x3c0.Ac.map q72),.s (x3c0.Ah.map q81),.v (.int .i64 x3c0.Phase),.v (.int .i64 x3c0.An)]])),(8,dI (w64 (x1+1)))]
def Z5  (z0:Unit):List Res:=[]
def T0  (z0:Unit):St:=[]
def Us  (z0:Unit):List Res:=[]
theorem Amm (x0:List Int) (x1:Int) (x2:Int) (x3c0:Aa) (r:Unit) (h:qH x0 x1 x2 x3c0=some r):CO 213 [.d (DS pI x0),.d (I x1),.d (I x2),.d (.fn (.func 191) [] [.ip [.v (.int .i64 x3c0.Ap),.s (x3c0.Ag.map q70),.s (x3c0.Ac.map q72),.s (x3c0.Ah.map q81),.v (.int .i64 x3c0.Phase),.v (.int .i64 x3c0.An)]])] [] (.tup []) []:=by
 unfold qH at h
 refine co 53 Tryz.func213 λ C hC=>?_
 refine ws Sm 23 [] [] [] 0 [] (Ts x0 x1 x2 x3c0 ()) (Z5 ()) hC [] ?_
 obtain⟨w0,hm0,hret0,hnext0⟩:=Ak h
 clear h
 refine wc w0 (T0) (Us) ?_ λ z0 hs0=>?_
 ·refine wb ?_
  refine ww (Ts x0 x1 x2 x3c0) (Z5) hm0 λ z0 w0b h hb0 hr0=>?_
  unfold U6 at h
  rcases cB h with⟨h1,h⟩ | ⟨h1,h⟩
  ·cases h
  ·exact wx w0 (T0) (Us) Sm 26 [false] [] [] 0 [] () hC [pq h1] (hb0 _ (sI h).symm)
 ·have h:=hnext0 _ hs0
  replace h:=sI h
  subst h
  exact wf Sm 20 [] [] [] 0 [] hC []
theorem Anh:EN 213:=en Tryz.func213
theorem Aqn (x0:Int) (x1:Int) (r:Int×Int) (h:Ac8 x0 x1=r):CO 196 [.d (.p (.v (.int .u64 x0))),.d (.p (.v (.int .u64 x1)))] [] (.tup [.d (.p (.v (.int .u64 r.1))),.d (.p (.v (.int .u64 r.2)))]) []:=by
 unfold Ac8 at h
 refine co 51 Tryz.func196 λ C hC=>?_
 subst h
 exact wr [0,1,4,5,6,7,8,9,10,11,12,13] 45 [] [] [] 0 [] hC []
theorem Arg:EN 196:=en Tryz.func196
theorem k42  (r:Int) (h:F42  = r):CO 42 [] [] (.d (.p (.v (.int .u64 r)))) []:=by
 unfold F42 at h
 refine co 1 Tryz.func42 λ C hC=>?_
 subst h
 exact wr [0] 25 [] [] [] 0 [] hC []
theorem e42:EN 42:=en Tryz.func42
theorem k22 (x0:Al) (r:ByteArray) (h:F22 x0=some r):CO 22 [.agg (d43 x0)] [] (.d (.p (.v (.string r)))) []:=Ao3 x0 r h
theorem e22:EN 22:=en Tryz.func22
def Aax:List Nat:=[0,1,4,6,8,9,10,11]
def Xb (y1:List Int) (n0:Nat) (z0:Int):St:=[(0,.d (.p (.v (.int .u64 z0)))),(4,.d (.p (.v (.int .u64 0)))),(8,.d (DS (pK .u8) y1)),(9,dI (ln y1)),(10,dI (cnt 0 n0))]
def Acn  (n0:Nat) (z0:Int):List Res:=[]
def Aep  (z0:Int):St:=[(0,.d (.p (.v (.int .u64 z0)))),(4,.d (.p (.v (.int .u64 0))))]
def Ahf  (z0:Int):List Res:=[]
theorem k41 (x0:Int) (x1:ByteArray) (r:Int) (h:F41 x0 x1=some r):CO 41 [.d (.p (.v (.int .u64 x0))),.d (.p (.v (.string x1)))] [] (.d (.p (.v (.int .u64 r)))) []:=by
 unfold F41 at h
 refine co 21 Tryz.func41 λ C hC=>?_
 obtain⟨y1,h2,h⟩:=Au h
 refine ws Aax 26 [] [⟨.room (x1.size:Int) (G4 x1) (y1.map (pK .u8)),Agb h2⟩,pl (pK .u8) y1] [] 0 [] (Xb y1 0 x0) (Acn 0 x0) hC [] ?_
 obtain⟨w0,hm0,hret0,hnext0⟩:=Ak h
 clear h
 refine wc w0 (Aep) (Ahf) ?_ λ z0 hs0=>?_
 ·refine wb ?_
  refine Bn 8 rfl λ hl0=>?_
  refine wl (Xb y1) (Acn) hm0 (λ z0 hn0=>?_) λ n0 a0 z0 w0b hi0 hx0 h hb0 hr0=>?_
  ·clear hm0
   exact wx w0 (Aep) (Ahf) Aax 26 [false] [] [] 0 [] _ hC [pq (A6 hl0)] hn0
  ·unfold Aid at h
   exact wx w0b (Xb y1 (n0+1)) (Acn (n0+1)) Aax 33 [true] [pt hx0 hl0] [] 0 [] _ hC [pq (A4 hi0 hl0)] (sI h).symm
 ·have h:=hnext0 _ hs0
  replace h:=sI h
  subst h
  exact wr Aax 23 [] [] [] 0 [] hC []
theorem e41:EN 41:=en Tryz.func41
def Sl:List Nat:=[0,1,4,5,10,11,12,34]
def Xf (x0:List Int) (x1:List Int) (z0:Int):St:=[(0,.d (DS (pK .u64) x0)),(1,.d (DS (pK .u64) x1)),(4,dI 0),(10,dI (max (ln x0) (ln x1))),(11,dI z0)]
def Acr  (z0:Int):List Res:=[]
def Aet  (z0:Int):St:=[(4,dI 0)]
def Ahj  (z0:Int):List Res:=[]
theorem k25 (x0:List Int) (x1:List Int) (r:Int) (h:F25 x0 x1=some r):CO 25 [.d (DS (pK .u64) x0),.d (DS (pK .u64) x1)] [] (.d (I r)) []:=by
 unfold F25 at h
 refine co 37 Tryz.func25 λ C hC=>?_
 refine ws Sl 26 [] [pl (pK .u64) x0,pl (pK .u64) x1] [] 0 [] (Xf x0 x1 0) (Acr 0) hC [] ?_
 obtain⟨w0,hm0,hret0,hnext0⟩:=Ak h
 clear h
 refine wc w0 (Aet) (Ahj) ?_ λ z0 hs0=>?_
 ·refine wb ?_
  refine ww (Xf x0 x1) (Acr) hm0 λ z0 w0b h hb0 hr0=>?_
  unfold Aif at h
  rcases cB h with⟨h1,h⟩ | ⟨h1,h⟩
  ·obtain⟨y2,h3,y4,h5,h⟩:=Ba h
   refine wn Sl 32 [true] [pl (pK .u64) x0,pL_ [(decide (z0>=(ln x0)),false)] (pK .u64) x1,pR (pK .u64) h3,pR (pK .u64) h5] [] 0 [] [0,1,4,5,10,11,34] hC [pq h1] ?_
   rcases cB h with⟨h6,h⟩ | ⟨h6,h⟩
   ·have hq:=hret0 _ (hr0 _ (sI h).symm)
    replace hq:=sI hq
    subst hq
    exact wr Sl 24 [true] [] [] 0 [] hC [pq h6]
   ·exact wx w0b (Xf x0 x1) (Acr) Sl 25 [false] [] [] 0 [] _ hC [pq h6] (sI h).symm
  ·exact wx w0 (Aet) (Ahj) Sl 26 [false] [] [] 0 [] z0 hC [pq h1] (hb0 _ (sI h).symm)
 ·have h:=hnext0 _ hs0
  replace h:=sI h
  subst h
  exact wr Sl 23 [] [] [] 0 [] hC []
theorem e25:EN 25:=en Tryz.func25
theorem k9 (x0:List Int) (r:Ad) (h:F9 x0=some r):CO 9 [.d (DS pI x0)] [] (.d (.o 0 0)) [.box 77 (d77 r)]:=by
 unfold F9 at h
 refine co 10 Tryz.func9 λ C hC=>?_
 obtain⟨y2,h1,h⟩:=Au h
 replace h:=sI h
 subst h
 exact wr [0,2] 25 [] [pl pI x0,⟨.cut (x0.map pI) 1 0 (min (ln x0) 600) (y2.map pI),Sz pI 1 (λ _=>rfl) h1⟩] [] 0 [0] hC []
theorem e9:EN 9:=en Tryz.func9
theorem k35 (x0:Int) (x1:Int) (r:Int) (h:F35 x0 x1=some r):CO 35 [.d (I x0),.d (I x1)] [] (.d (I r)) []:=by
 unfold F35 at h
 refine co 14 Tryz.func35 λ C hC=>?_
 rcases cB h with⟨h1,h⟩ | ⟨h1,h⟩
 ·replace h:=sI h
  subst h
  exact wr [0,1,4,6] 29 [true] [] [] 0 [] hC [pq h1]
 ·obtain⟨u3,h2,u5,h4,h⟩:=Ba h
  replace h:=sI h
  subst h
  exact wr [0,1,4,6] 30 [false] [⟨.nz x1,Yd h2⟩,⟨.nz x1,Yd h4⟩] [] 0 [] hC [pq h1]
theorem e35:EN 35:=en Tryz.func35
theorem k84 (x0:Aq) (x1:Aq) (r:Bool) (h:F84 x0 x1=r):CO 84 [.agg (d96 x0),.agg (d96 x1)] [] (.d (Bo r)) []:=by
 unfold F84 at h
 refine co 24 Tryz.func84 λ C hC=>?_
 subst h
 exact wr n5_ 25 [] [] [] 0 [] hC []
theorem e84:EN 84:=en Tryz.func84
theorem k37 (x0:Ab) (r:Ab) (h:F37 x0=some r):CO 37 [.agg (d39 x0)] [] (.agg [.os 0,.os 1,.os 2,.os 3]) (zp r []):=by
 unfold F37 at h
 refine co 16 Tryz.func37 λ C hC=>?_
 obtain⟨y1,h2,y3,h4,y5,h6,y7,h8,h⟩:=Dt h
 replace h:=sI h
 subst h
 exact wr n3_ 25 [] [⟨.app [] (x0.Am.map pB) 1 ((x0.Am.map pB).length*(1+1)) (y1.map pB),D4 pB 1 (λ _=>rfl) h2⟩,⟨.app [] (x0.Ac.map q93) 4 ((x0.Ac.map q93).length*(32+1)) (y3.map q93),D4 q93 4 (λ _=>rfl) h4⟩,⟨.app [] (x0.Aw.map pI) 1 ((x0.Aw.map pI).length*(8+1)) (y5.map pI),D4 pI 1 (λ _=>rfl) h6⟩,⟨.app [] (x0.As.map q96) 2 ((x0.As.map q96).length*(16+1)) (y7.map q96),D4 q96 2 (λ _=>rfl) h8⟩] [] 0 [3,5,7,9] hC []
theorem e37:EN 37:=en Tryz.func37
def E3:List Nat:=[0,1,2,3,4,6,7,8,9,10,11,19,20,21,23,24,25,26,53,65,66,67,72]
def Rv (y5:List Bool) (n0:Nat) (z0:(List Bool)):St:=[(3,dO 0 0),(4,dO 1 0),(6,.d (DS pI [])),(7,dS 2),(19,dI (ln y5)),(20,dI (cnt 0 n0))]
def jC (x0:Aa) (x1:Ab) (n0:Nat) (z0:(List Bool)):List Res:=[.box 30 (d30 x0),.box 39 (d39 x1),v3_ z0]
def vV  (z0:(List Bool)):St:=[(6,.d (DS pI [])),(7,dS 0)]
def zH  (z0:(List Bool)):List Res:=[v3_ z0]
def Mr (x0:Aa) (y5:List Bool) (n0:Nat) (n1:Nat) (z1:(List Bool)):St:=[(3,dO 0 0),(4,dO 1 0),(6,.d (DS pI [])),(7,dS 2),(19,dI (ln y5)),(20,dI (cnt 0 n0)),(23,.d (DS q70 x0.Ag)),(24,dI (ln x0.Ag)),(25,dI (cnt 0 n1))]
def Q2 (x0:Aa) (x1:Ab) (n1:Nat) (z1:(List Bool)):List Res:=[.box 30 (d30 x0),.box 39 (d39 x1),v3_ z1]
def vU (y5:List Bool) (n0:Nat) (z1:(List Bool)):St:=[(3,dO 0 0),(4,dO 1 0),(6,.d (DS pI [])),(7,dS 2),(19,dI (ln y5)),(20,dI (cnt 0 n0))]
def zG (x0:Aa) (x1:Ab) (z1:(List Bool)):List Res:=[.box 30 (d30 x0),.box 39 (d39 x1),v3_ z1]
def Mq (z0:(List Bool)) (n2:Nat) (z2:(List Int)):St:=[(6,.d (DS pI [])),(7,dS 0),(10,dS 1),(65,dI (ln z0)),(66,dI (cnt 0 n2))]
def Q1 (z0:(List Bool)) (n2:Nat) (z2:(List Int)):List Res:=[v3_ z0,v0_ z2]
def vT  (z2:(List Int)):St:=[(6,.d (DS pI [])),(10,dS 0)]
def zF  (z2:(List Int)):List Res:=[v0_ z2]
theorem Aqu (x0:Aa) (x1:Ab) (x2:Int) (r:(List Int)) (h:qZ x0 x1 x2=some r):CO 148 [.agg (d30 x0),.agg (d39 x1),.d (I x2)] [] (.d (.os 0)) [v0_ r]:=by
 unfold qZ at h
 refine co 79 Tryz.func148 λ C hC=>?_
 obtain⟨y1,h2,y3,h4,y5,h6,h⟩:=Cg h
 refine ws E3 30 [] [⟨.room (x0.Ap*(1+1)) (List.replicate (Int.toNat x0.Ap) (pB false)) (y1.map pB),Gm h2⟩,pr pB h4,pu pB h4 h6,pl pB y5] [] 0 n3_ (Rv y5 0 y5) (jC x0 x1 0 y5) hC [] ?_
 obtain⟨w0,hm0,hret0,hnext0⟩:=Ak h
 clear h
 refine wc w0 (vV) (zH) ?_ λ z0 hs0=>?_
 ·refine wb ?_
  refine Cc 7 2 rfl rfl λ hl0=>?_
  refine wl (Rv y5) (jC x0 x1) hm0 (λ z0 hn0=>?_) λ n0 a0 z0 w0b hi0 hx0 h hb0 hr0=>?_
  ·clear hm0
   exact wx w0 (vV) (zH) E3 26 [false] [] [] 0 [2] _ hC [pq (A6 hl0)] hn0
  ·unfold Ti at h
   refine ws E3 30 [true] [pl q70 x0.Ag] [] 0 n3_ (Mr x0 y5 n0 0 z0) (Q2 x0 x1 0 z0) hC [pq (A4 hi0 hl0)] ?_
   obtain⟨w1,hm1,hret1,hnext1⟩:=Ak h
   clear h
   refine wc w1 (vU y5 n0) (zG x0 x1) ?_ λ z1 hs1=>?_
   ·refine wb ?_
    refine Bn 23 rfl λ hl1=>?_
    refine wl (Mr x0 y5 n0) (Q2 x0 x1) hm1 (λ z1 hn1=>?_) λ n1 a1 z1 w1b hi1 hx1 h hb1 hr1=>?_
    ·clear hm1
     exact wx w1 (vU y5 n0) (zG x0 x1) E3 26 [false] [] [] 0 n3_ _ hC [pq (A6 hl1)] hn1
    ·unfold Th at h
     obtain⟨y7,h8,y9,h10,y11,h12,h⟩:=Cg h
     refine wn E3 32 [true] [pt hx1 hl1,pR pB h8,pR pB h10,pN pB h10,pR pB h12,pN pB h12] [] 0 n4_ [3,4,6,7,9,19,20,23,24,25,53] hC [pq (A4 hi1 hl1)] ?_
     rcases cB h with⟨h13,h⟩ | ⟨h13,h⟩
     ·obtain⟨y14,h15,y16,h17,y18,h19,y20,h21,h⟩:=Dt h
      exact wx w1b (Mr x0 y5 n0 (n1+1)) (Q2 x0 x1 (n1+1)) E3 25 [true] [pr pB h15,pu pB h15 h17,pr pB h19,pu pB h19 h21] [] 0 n3_ _ hC [pq h13] (sI h).symm
     ·exact wx w1b (Mr x0 y5 n0 (n1+1)) (Q2 x0 x1 (n1+1)) E3 25 [false] [] [] 0 n3_ _ hC [pq h13] (sI h).symm
   ·have h:=hnext1 _ hs1
    exact wx w0b (Rv y5 (n0+1)) (jC x0 x1 (n0+1)) E3 23 [] [] [] 0 n3_ _ hC [] (sI h).symm
 ·have h:=hnext0 _ hs0
  refine ws E3 26 [] [pl pB z0] [.own 10 3 1] 0 [0,1] (Mq z0 0 ([]:List Int)) (Q1 z0 0 ([]:List Int)) hC [] ?_
  obtain⟨w2,hm2,hret2,hnext2⟩:=Ak h
  clear h
  refine wc w2 (vT) (zF) ?_ λ z2 hs2=>?_
  ·refine wb ?_
   refine Cc 7 0 rfl rfl λ hl2=>?_
   refine wl (Mq z0) (Q1 z0) hm2 (λ z2 hn2=>?_) λ n2 a2 z2 w2b hi2 hx2 h hb2 hr2=>?_
   ·clear hm2
    exact wx w2 (vT) (zF) E3 26 [false] [] [] 0 [1] _ hC [pq (A6 hl2)] hn2
   ·unfold Tg at h
    rcases cB h with⟨h22,h⟩ | ⟨h22,h⟩
    ·obtain⟨y23,h24,h⟩:=Au h
     exact wx w2b (Mq z0 (n2+1)) (Q1 z0 (n2+1)) E3 36 [true,true] [pr pB (Bj hx2 hl2),pn pB (Bj hx2 hl2),pa pI 1 h24] [] 0 [0,2] _ hC [pq (A4 hi2 hl2),pq h22] (sI h).symm
    ·exact wx w2b (Mq z0 (n2+1)) (Q1 z0 (n2+1)) E3 36 [true,false] [pr pB (Bj hx2 hl2),pn pB (Bj hx2 hl2)] [] 0 [0,1] _ hC [pq (A4 hi2 hl2),pq h22] (sI h).symm
  ·have h:=hnext2 _ hs2
   replace h:=sI h
   subst h
   exact wr E3 23 [] [] [] 0 [0] hC []
theorem Arn:EN 148:=en Tryz.func148
def Cx:List Nat:=[0,1,2,3,4,6,7,8,10,11,12,13,23,25,26,37,38,47,48,57,61,62,63,64,69,74,75,76,82,86,87,88,94]
def K1 (x0:Aa) (n0:Nat) (z0:Unit):St:=[(1,dO 0 0),(2,dB false),(10,.d (DS q70 x0.Ag)),(11,dI (ln x0.Ag)),(12,dI (cnt 0 n0))]
def Qz (x0:Aa) (n0:Nat) (z0:Unit):List Res:=[.box 30 (d30 x0)]
def Aek  (z0:Unit):St:=[(1,dO 0 0),(2,dB false)]
def Aha (x0:Aa) (z0:Unit):List Res:=[.box 30 (d30 x0)]
def W0 (x0:Aa) (n0:Nat) (y9:List Af) (n1:Nat) (z1:Unit):St:=[(1,dO 0 0),(2,dB false),(4,dO 1 0),(10,.d (DS q70 x0.Ag)),(11,dI (ln x0.Ag)),(12,dI (cnt 0 n0)),(61,.d (DS q70 y9)),(62,dI (ln y9)),(63,dI (cnt 0 n1))]
def Aci (x0:Aa) (a0:Af) (n1:Nat) (z1:Unit):List Res:=[.box 30 (d30 x0),.box 70 (d70 a0)]
def Aej (x0:Aa) (n0:Nat) (z1:Unit):St:=[(1,dO 0 0),(2,dB false),(10,.d (DS q70 x0.Ag)),(11,dI (ln x0.Ag)),(12,dI (cnt 0 n0))]
def Ag9 (x0:Aa) (z1:Unit):List Res:=[.box 30 (d30 x0)]
def Wz (x0:Aa) (z2:Int):St:=[(1,dO 0 0),(2,dB false),(74,dI (ln x0.Ac)),(75,dI z2)]
def Ach (x0:Aa) (z2:Int):List Res:=[.box 30 (d30 x0)]
def Aei  (z2:Int):St:=[(1,dO 0 0),(2,dB false)]
def Ag8 (x0:Aa) (z2:Int):List Res:=[.box 30 (d30 x0)]
def Wy (x0:Aa) (z3:Int):St:=[(1,dO 0 0),(2,dB false),(86,dI (ln x0.Ah)),(87,dI z3)]
def Acg (x0:Aa) (z3:Int):List Res:=[.box 30 (d30 x0)]
def Aeh  (z3:Int):St:=[(2,dB false)]
def Ag7  (z3:Int):List Res:=[]
theorem k59 (x0 : Aa) (r : Bool) (h : F59 x0 = some r) : CO 59 [.agg (d30 x0)] [] (.d (Bo r)) [] := by
 unfold F59 at h
 refine co 96 Tryz.func59 λ C hC=>?_
 refine ws Cx 26 [] [pl q70 x0.Ag] [] 0 [0] (K1 x0 0 ()) (Qz x0 0 ()) hC [] ?_
 obtain⟨w0,hm0,hret0,hnext0⟩:=Ak h
 clear h
 refine wc w0 (Aek) (Aha x0) ?_ λ z0 hs0=>?_
 ·refine wb ?_
  refine Bn 10 rfl λ hl0=>?_
  refine wl (K1 x0) (Qz x0) hm0 (λ z0 hn0=>?_) λ n0 a0 z0 w0b hi0 hx0 h hb0 hr0=>?_
  ·clear hm0
   exact wx w0 (Aek) (Aha x0) Cx 26 [false] [] [] 0 [0] _ hC [pq (A6 hl0)] hn0
  ·unfold qE at h
   refine wn Cx 33 [true] [pt hx0 hl0,pc e82 (k82 a0.A 0 (w64 (x0.Ap-1)) _ rfl) []] [] 0 [0,1] [1,2,3,4,10,11,12,23] hC [pq (A4 hi0 hl0)] ?_
   rcases cB h with⟨h1,h⟩ | ⟨h1,h⟩
   ·have hq:=hret0 _ (hr0 _ (sI h).symm)
    replace hq:=sI hq
    subst hq
    exact wr Cx 24 [true] [] [] 0 [] hC [pq h1]
   ·rcases cB h with ⟨h2, h⟩ | ⟨h2, h⟩
    ·rcases cB h with⟨h3,h⟩ | ⟨h3,h⟩
     ·have hq:=hret0 _ (hr0 _ (sI h).symm)
      replace hq:=sI hq
      subst hq
      exact wr Cx 34 [false,true,true] [pc e82 (k82 a0.B (w64 (a0.A+1)) (w64 (x0.Ap-1)) _ rfl) []] [] 0 [] hC [pq h1,pq h2,pq h3]
     ·exact wx w0b (K1 x0 (n0+1)) (Qz x0 (n0+1)) Cx 36 [false,true,false] [pc e82 (k82 a0.B (w64 (a0.A+1)) (w64 (x0.Ap-1)) _ rfl) []] [] 0 [0] _ hC [pq h1,pq h2,pq h3] (sI h).symm
    ·rcases cB h with⟨h4,h⟩ | ⟨h4,h⟩
     ·refine wn Cx 34 [false,false,true] [pl q72 x0.Ac,pc e82 (k82 a0.B 0 (w64 ((ln x0.Ac)-1)) _ rfl) []] [] 0 [0] [1,2,10,11,12,47] hC [pq h1,pq h2,pq h4] ?_
      rcases cB h with⟨h5,h⟩ | ⟨h5,h⟩
      ·have hq:=hret0 _ (hr0 _ (sI h).symm)
       replace hq:=sI hq
       subst hq
       exact wr Cx 24 [true] [] [] 0 [] hC [pq h5]
      ·exact wx w0b (K1 x0 (n0+1)) (Qz x0 (n0+1)) Cx 26 [false] [] [] 0 [0] _ hC [pq h5] (sI h).symm
     ·rcases cB h with⟨h6,h⟩ | ⟨h6,h⟩
      ·refine wn Cx 38 [false,false,false,true] [pl q81 x0.Ah,pc e82 (k82 a0.B 0 (w64 ((ln x0.Ah)-1)) _ rfl) []] [] 0 [0,1] [1,2,3,4,10,11,12,57] hC [pq h1,pq h2,pq h4,pq h6] ?_
       rcases cB h with⟨h7,h⟩ | ⟨h7,h⟩
       ·have hq:=hret0 _ (hr0 _ (sI h).symm)
        replace hq:=sI hq
        subst hq
        exact wr Cx 24 [true] [] [] 0 [] hC [pq h7]
       ·obtain⟨y9,h8,h⟩:=Au h
        refine ws Cx 25 [false] [⟨.cut (x0.Ag.map q70) 3 0 (cnt 0 n0) (y9.map q70),Sz q70 3 (λ _=>rfl) h8⟩,pl q70 y9] [] 0 [0,1] (W0 x0 n0 y9 0 ()) (Aci x0 a0 0 ()) hC [pq h7] ?_
        obtain⟨w1,hm1,hret1,hnext1⟩:=Ak h
        clear h
        refine wc w1 (Aej x0 n0) (Ag9 x0) ?_ λ z1 hs1=>?_
        ·refine wb ?_
         refine Bn 61 rfl λ hl1=>?_
         refine wl (W0 x0 n0 y9) (Aci x0 a0) hm1 (λ z1 hn1=>?_) λ n1 a1 z1 w1b hi1 hx1 h hb1 hr1=>?_
         ·clear hm1
          exact wx w1 (Aej x0 n0) (Ag9 x0) Cx 26 [false] [] [] 0 [0] _ hC [pq (A6 hl1)] hn1
         ·unfold Q7 at h
          rcases cB h with⟨h10,h⟩ | ⟨h10,h⟩
          ·have hq:=hret1 _ (hr1 _ (sI h).symm)
           replace hq:=hret0 _ (hr0 _ (sI hq).symm)
           replace hq:=sI hq
           subst hq
           exact wr Cx 35 [true,true] [pt hx1 hl1] [] 0 [] hC [pq (A4 hi1 hl1),pq h10]
          ·exact wx w1b (W0 x0 n0 y9 (n1+1)) (Aci x0 a0 (n1+1)) Cx 36 [true,false] [pt hx1 hl1] [] 0 [0,1] _ hC [pq (A4 hi1 hl1),pq h10] (sI h).symm
        ·have h:=hnext1 _ hs1
         exact wx w0b (K1 x0 (n0+1)) (Qz x0 (n0+1)) Cx 24 [] [] [] 0 [0] _ hC [] (sI h).symm
      ·have hq:=hret0 _ (hr0 _ (sI h).symm)
       replace hq:=sI hq
       subst hq
       exact wr Cx 37 [false,false,false,false] [] [] 0 [] hC [pq h1,pq h2,pq h4,pq h6]
 ·have h:=hnext0 _ hs0
  refine ws Cx 24 [] [pl q72 x0.Ac] [] 0 [0] (Wz x0 0) (Ach x0 0) hC [] ?_
  obtain⟨w2,hm2,hret2,hnext2⟩:=Ak h
  clear h
  refine wc w2 (Aei) (Ag8 x0) ?_ λ z2 hs2=>?_
  ·refine wb ?_
   refine ww (Wz x0) (Ach x0) hm2 λ z2 w2b h hb2 hr2=>?_
   unfold qD at h
   rcases cB h with⟨h11,h⟩ | ⟨h11,h⟩
   ·obtain⟨y12,h13,h⟩:=Au h
    refine wn Cx 32 [true] [pc e83 (k83 x0 2 z2 _ h13) [],pl pI y12] [] 0 [0] [1,2,74,75,82] hC [pq h11] ?_
    rcases cB h with⟨h14,h⟩ | ⟨h14,h⟩
    ·have hq:=hret2 _ (hr2 _ (sI h).symm)
     replace hq:=sI hq
     subst hq
     exact wr Cx 24 [true] [] [] 0 [] hC [pq h14]
    ·exact wx w2b (Wz x0) (Ach x0) Cx 25 [false] [] [] 0 [0] _ hC [pq h14] (sI h).symm
   ·exact wx w2 (Aei) (Ag8 x0) Cx 26 [false] [] [] 0 [0] z2 hC [pq h11] (hb2 _ (sI h).symm)
  ·have h:=hnext2 _ hs2
   refine ws Cx 24 [] [pl q81 x0.Ah] [] 0 [0] (Wy x0 0) (Acg x0 0) hC [] ?_
   obtain⟨w3,hm3,hret3,hnext3⟩:=Ak h
   clear h
   refine wc w3 (Aeh) (Ag7) ?_ λ z3 hs3=>?_
   ·refine wb ?_
    refine ww (Wy x0) (Acg x0) hm3 λ z3 w3b h hb3 hr3=>?_
    unfold qC at h
    rcases cB h with⟨h15,h⟩ | ⟨h15,h⟩
    ·obtain⟨y16,h17,h⟩:=Au h
     refine wn Cx 32 [true] [pc e83 (k83 x0 3 z3 _ h17) [],pl pI y16] [] 0 [0] [1,2,86,87,94] hC [pq h15] ?_
     rcases cB h with⟨h18,h⟩ | ⟨h18,h⟩
     ·have hq:=hret3 _ (hr3 _ (sI h).symm)
      replace hq:=sI hq
      subst hq
      exact wr Cx 24 [true] [] [] 0 [] hC [pq h18]
     ·exact wx w3b (Wy x0) (Acg x0) Cx 25 [false] [] [] 0 [0] _ hC [pq h18] (sI h).symm
    ·exact wx w3 (Aeh) (Ag7) Cx 26 [false] [] [] 0 [] z3 hC [pq h15] (hb3 _ (sI h).symm)
   ·have h:=hnext3 _ hs3
    replace h:=sI h
    subst h
    exact wr Cx 23 [] [] [] 0 [] hC []
theorem e59:EN 59:=en Tryz.func59
def P0:List Nat:=[0,1,4,6,7,8,9,10,15]
def Ru (x0:List Int) (x1:Int) (n0:Nat) (z0:Unit):St:=[(1,dI x1),(4,dB false),(7,.d (DS pI x0)),(8,dI (ln x0)),(9,dI (cnt 0 n0))]
def jB  (n0:Nat) (z0:Unit):List Res:=[]
def vS  (z0:Unit):St:=[(4,dB false)]
def zE  (z0:Unit):List Res:=[]
theorem Am2 (x0:List Int) (x1:Int) (r:Bool) (h:Tf x0 x1=some r):CO 150 [.d (DS pI x0),.d (I x1)] [] (.d (Bo r)) []:=by
 unfold Tf at h
 refine co 17 Tryz.func150 λ C hC=>?_
 refine ws P0 26 [] [pl pI x0] [] 0 [] (Ru x0 x1 0 ()) (jB 0 ()) hC [] ?_
 obtain⟨w0,hm0,hret0,hnext0⟩:=Ak h
 clear h
 refine wc w0 (vS) (zE) ?_ λ z0 hs0=>?_
 ·refine wb ?_
  refine Bn 7 rfl λ hl0=>?_
  refine wl (Ru x0 x1) (jB) hm0 (λ z0 hn0=>?_) λ n0 a0 z0 w0b hi0 hx0 h hb0 hr0=>?_
  ·clear hm0
   exact wx w0 (vS) (zE) P0 26 [false] [] [] 0 [] _ hC [pq (A6 hl0)] hn0
  ·unfold Nj at h
   rcases cB h with⟨h1,h⟩ | ⟨h1,h⟩
   ·have hq:=hret0 _ (hr0 _ (sI h).symm)
    replace hq:=sI hq
    subst hq
    exact wr P0 35 [true,true] [pt hx0 hl0] [] 0 [] hC [pq (A4 hi0 hl0),pq h1]
   ·exact wx w0b (Ru x0 x1 (n0+1)) (jB (n0+1)) P0 36 [true,false] [pt hx0 hl0] [] 0 [] _ hC [pq (A4 hi0 hl0),pq h1] (sI h).symm
 ·have h:=hnext0 _ hs0
  replace h:=sI h
  subst h
  exact wr P0 23 [] [] [] 0 [] hC []
theorem Anx:EN 150:=en Tryz.func150
def Sh:List Nat:=[0,1,4,5,10,12,13,14,24]
def W8 (x0:List Bool) (x1:List Bool) (n0:Nat) (z0:Unit):St:=[(0,.d (DS pB x0)),(1,.d (DS pB x1)),(4,dB false),(12,dI (ln x0)),(13,dI (cnt 0 n0))]
def Ack  (n0:Nat) (z0:Unit):List Res:=[]
def Aem  (z0:Unit):St:=[(4,dB false)]
def Ahc  (z0:Unit):List Res:=[]
theorem k54 (x0:List Bool) (x1:List Bool) (r:Bool) (h:F54 x0 x1=some r):CO 54 [.d (DS pB x0),.d (DS pB x1)] [] (.d (Bo r)) []:=by
 unfold F54 at h
 refine co 26 Tryz.func54 λ C hC=>?_
 rcases cB h with⟨h1,h⟩ | ⟨h1,h⟩
 ·replace h:=sI h
  subst h
  exact wr Sh 29 [true] [pl pB x0,pl pB x1] [] 0 [] hC [pq h1]
 ·refine ws Sh 31 [false] [pl pB x0,pl pB x1,pl pB x0] [] 0 [] (W8 x0 x1 0 ()) (Ack 0 ()) hC [pq h1] ?_
  obtain⟨w0,hm0,hret0,hnext0⟩:=Ak h
  clear h
  refine wc w0 (Aem) (Ahc) ?_ λ z0 hs0=>?_
  ·refine wb ?_
   refine Bn 0 rfl λ hl0=>?_
   refine wl (W8 x0 x1) (Ack) hm0 (λ z0 hn0=>?_) λ n0 a0 z0 w0b hi0 hx0 h hb0 hr0=>?_
   ·clear hm0
    exact wx w0 (Aem) (Ahc) Sh 26 [false] [] [] 0 [] _ hC [pq (A6 hl0)] hn0
   ·unfold qG at h
    obtain⟨y2,h3,h⟩:=Au h
    rcases cB h with⟨h4,h⟩ | ⟨h4,h⟩
    ·have hq:=hret0 _ (hr0 _ (sI h).symm)
     replace hq:=sI hq
     subst hq
     exact wr Sh 35 [true,true] [pt hx0 hl0,pr pB h3] [] 0 [] hC [pq (A4 hi0 hl0),pq h4]
    ·exact wx w0b (W8 x0 x1 (n0+1)) (Ack (n0+1)) Sh 36 [true,false] [pt hx0 hl0,pr pB h3] [] 0 [] _ hC [pq (A4 hi0 hl0),pq h4] (sI h).symm
  ·have h:=hnext0 _ hs0
   replace h:=sI h
   subst h
   exact wr Sh 23 [] [] [] 0 [] hC []
theorem e54:EN 54:=en Tryz.func54
def Sg:List Nat:=[0,1,4,5,10,12,13,14,24]
def W7 (x0:List Int) (x1:List Int) (n0:Nat) (z0:Unit):St:=[(0,.d (DS pI x0)),(1,.d (DS pI x1)),(4,dB false),(12,dI (ln x0)),(13,dI (cnt 0 n0))]
def Acj  (n0:Nat) (z0:Unit):List Res:=[]
def Ael  (z0:Unit):St:=[(4,dB false)]
def Ahb  (z0:Unit):List Res:=[]
theorem k55 (x0:List Int) (x1:List Int) (r:Bool) (h:F55 x0 x1=some r):CO 55 [.d (DS pI x0),.d (DS pI x1)] [] (.d (Bo r)) []:=by
 unfold F55 at h
 refine co 26 Tryz.func55 λ C hC=>?_
 rcases cB h with⟨h1,h⟩ | ⟨h1,h⟩
 ·replace h:=sI h
  subst h
  exact wr Sg 29 [true] [pl pI x0,pl pI x1] [] 0 [] hC [pq h1]
 ·refine ws Sg 31 [false] [pl pI x0,pl pI x1,pl pI x0] [] 0 [] (W7 x0 x1 0 ()) (Acj 0 ()) hC [pq h1] ?_
  obtain⟨w0,hm0,hret0,hnext0⟩:=Ak h
  clear h
  refine wc w0 (Ael) (Ahb) ?_ λ z0 hs0=>?_
  ·refine wb ?_
   refine Bn 0 rfl λ hl0=>?_
   refine wl (W7 x0 x1) (Acj) hm0 (λ z0 hn0=>?_) λ n0 a0 z0 w0b hi0 hx0 h hb0 hr0=>?_
   ·clear hm0
    exact wx w0 (Ael) (Ahb) Sg 26 [false] [] [] 0 [] _ hC [pq (A6 hl0)] hn0
   ·unfold qF at h
    obtain⟨y2,h3,h⟩:=Au h
    rcases cB h with⟨h4,h⟩ | ⟨h4,h⟩
    ·have hq:=hret0 _ (hr0 _ (sI h).symm)
     replace hq:=sI hq
     subst hq
     exact wr Sg 35 [true,true] [pt hx0 hl0,pr pI h3] [] 0 [] hC [pq (A4 hi0 hl0),pq h4]
    ·exact wx w0b (W7 x0 x1 (n0+1)) (Acj (n0+1)) Sg 36 [true,false] [pt hx0 hl0,pr pI h3] [] 0 [] _ hC [pq (A4 hi0 hl0),pq h4] (sI h).symm
  ·have h:=hnext0 _ hs0
   replace h:=sI h
   subst h
   exact wr Sg 23 [] [] [] 0 [] hC []
theorem e55:EN 55:=en Tryz.func55
def Sk:List Nat:=[0,1,4,5,10,12,13,14,24]
def Xc (x0:List A3) (x1:List A3) (n0:Nat) (z0:Unit):St:=[(0,.d (DS q65 x0)),(1,.d (DS q65 x1)),(4,dB false),(12,dI (ln x0)),(13,dI (cnt 0 n0))]
def Aco  (n0:Nat) (z0:Unit):List Res:=[]
def Aeq  (z0:Unit):St:=[(4,dB false)]
def Ahg  (z0:Unit):List Res:=[]
theorem k34 (x0:List A3) (x1:List A3) (r:Bool) (h:F34 x0 x1=some r):CO 34 [.d (DS q65 x0),.d (DS q65 x1)] [] (.d (Bo r)) []:=by
 unfold F34 at h
 refine co 26 Tryz.func34 λ C hC=>?_
 rcases cB h with⟨h1,h⟩ | ⟨h1,h⟩
 ·replace h:=sI h
  subst h
  exact wr Sk 29 [true] [pl q65 x0,pl q65 x1] [] 0 [] hC [pq h1]
 ·refine ws Sk 31 [false] [pl q65 x0,pl q65 x1,pl q65 x0] [] 0 [] (Xc x0 x1 0 ()) (Aco 0 ()) hC [pq h1] ?_
  obtain⟨w0,hm0,hret0,hnext0⟩:=Ak h
  clear h
  refine wc w0 (Aeq) (Ahg) ?_ λ z0 hs0=>?_
  ·refine wb ?_
   refine Bn 0 rfl λ hl0=>?_
   refine wl (Xc x0 x1) (Aco) hm0 (λ z0 hn0=>?_) λ n0 a0 z0 w0b hi0 hx0 h hb0 hr0=>?_
   ·clear hm0
    exact wx w0 (Aeq) (Ahg) Sk 26 [false] [] [] 0 [] _ hC [pq (A6 hl0)] hn0
   ·unfold Aie at h
    obtain⟨y2,h3,h⟩:=Au h
    rcases cB h with⟨h4,h⟩ | ⟨h4,h⟩
    ·have hq:=hret0 _ (hr0 _ (sI h).symm)
     replace hq:=sI hq
     subst hq
     exact wr Sk 35 [true,true] [pt hx0 hl0,pr q65 h3] [] 0 [] hC [pq (A4 hi0 hl0),pq h4]
    ·exact wx w0b (Xc x0 x1 (n0+1)) (Aco (n0+1)) Sk 36 [true,false] [pt hx0 hl0,pr q65 h3] [] 0 [] _ hC [pq (A4 hi0 hl0),pq h4] (sI h).symm
  ·have h:=hnext0 _ hs0
   replace h:=sI h
   subst h
   exact wr Sk 23 [] [] [] 0 [] hC []
theorem e34:EN 34:=en Tryz.func34
def Sf:List Nat:=[0,1,2,4,6,7,8,9,29]
def Wx (x0:Aa) (n0:Nat) (z0:Unit):St:=[(2,dB false),(6,.d (DS q72 x0.Ac)),(7,dI (ln x0.Ac)),(8,dI (cnt 0 n0))]
def Acf  (n0:Nat) (z0:Unit):List Res:=[]
def Aeg  (z0:Unit):St:=[(2,dB false)]
def Ag6  (z0:Unit):List Res:=[]
theorem k60 (x0:Aa) (r:Bool) (h:F60 x0=some r):CO 60 [.agg (d30 x0)] [] (.d (Bo r)) []:=by
 unfold F60 at h
 refine co 31 Tryz.func60 λ C hC=>?_
 refine ws Sf 26 [] [pl q72 x0.Ac] [] 0 [] (Wx x0 0 ()) (Acf 0 ()) hC [] ?_
 obtain⟨w0,hm0,hret0,hnext0⟩:=Ak h
 clear h
 refine wc w0 (Aeg) (Ag6) ?_ λ z0 hs0=>?_
 ·refine wb ?_
  refine Bn 6 rfl λ hl0=>?_
  refine wl (Wx x0) (Acf) hm0 (λ z0 hn0=>?_) λ n0 a0 z0 w0b hi0 hx0 h hb0 hr0=>?_
  ·clear hm0
   exact wx w0 (Aeg) (Ag6) Sf 26 [false] [] [] 0 [] _ hC [pq (A6 hl0)] hn0
  ·unfold qB at h
   refine wn Sf 32 [true] [pt hx0 hl0,pc e82 (k82 a0.Rating 1 50000 _ rfl) [],⟨.when [(!(F82 a0.Rating 1 50000),false)] (.call 82 [dI a0.Least,dI 0,dI a0.Rating] [] (dB (F82 a0.Least 0 a0.Rating)) [] []),λ hg=>⟨e82,(k82 a0.Least 0 a0.Rating _ rfl)⟩⟩,⟨.when [(((!(F82 a0.Rating 1 50000)) || (!(F82 a0.Least 0 a0.Rating))),false)] (.call 82 [dI a0.Start,dI 0,dI 600] [] (dB (F82 a0.Start 0 600)) [] []),λ hg=>⟨e82,(k82 a0.Start 0 600 _ rfl)⟩⟩] [] 0 [] [2,6,7,8,29] hC [pq (A4 hi0 hl0)] ?_
   rcases cB h with⟨h1,h⟩ | ⟨h1,h⟩
   ·have hq:=hret0 _ (hr0 _ (sI h).symm)
    replace hq:=sI hq
    subst hq
    exact wr Sf 24 [true] [] [] 0 [] hC [pq h1]
   ·exact wx w0b (Wx x0 (n0+1)) (Acf (n0+1)) Sf 25 [false] [] [] 0 [] _ hC [pq h1] (sI h).symm
 ·have h:=hnext0 _ hs0
  replace h:=sI h
  subst h
  exact wr Sf 23 [] [] [] 0 [] hC []
theorem e60:EN 60:=en Tryz.func60
def H0:List Nat:=[0,1,2,3,4,5,6,8,9,10,11,44,46,47,48,49,71]
def Ww (x0:Aa) (n0:Nat) (z0:Unit):St:=[(2,dB false),(8,.d (DS q81 x0.Ah)),(9,dI (ln x0.Ah)),(10,dI (cnt 0 n0))]
def Ace  (n0:Nat) (z0:Unit):List Res:=[]
def Aef  (z0:Unit):St:=[(2,dB false)]
def Ag5  (z0:Unit):List Res:=[]
def Wv (x0:Aa) (n0:Nat) (a0:A1) (n1:Nat) (z1:Unit):St:=[(2,dB false),(3,dI (cnt 0 n0)),(4,dO 0 0),(8,.d (DS q81 x0.Ah)),(9,dI (ln x0.Ah)),(10,dI (cnt 0 n0)),(46,.d (DS pI a0.Needs)),(47,dI (ln a0.Needs)),(48,dI (cnt 0 n1))]
def Acd (a0:A1) (n1:Nat) (z1:Unit):List Res:=[.box 81 (d81 a0)]
def Aee (x0:Aa) (n0:Nat) (z1:Unit):St:=[(2,dB false),(8,.d (DS q81 x0.Ah)),(9,dI (ln x0.Ah)),(10,dI (cnt 0 n0))]
def Ag4  (z1:Unit):List Res:=[]
theorem k61 (x0:Aa) (r:Bool) (h:F61 x0=some r):CO 61 [.agg (d30 x0)] [] (.d (Bo r)) []:=by
 unfold F61 at h
 refine co 74 Tryz.func61 λ C hC=>?_
 refine ws H0 26 [] [pl q81 x0.Ah] [] 0 [] (Ww x0 0 ()) (Ace 0 ()) hC [] ?_
 obtain⟨w0,hm0,hret0,hnext0⟩:=Ak h
 clear h
 refine wc w0 (Aef) (Ag5) ?_ λ z0 hs0=>?_
 ·refine wb ?_
  refine Bn 8 rfl λ hl0=>?_
  refine wl (Ww x0) (Ace) hm0 (λ z0 hn0=>?_) λ n0 a0 z0 w0b hi0 hx0 h hb0 hr0=>?_
  ·clear hm0
   exact wx w0 (Aef) (Ag5) H0 26 [false] [] [] 0 [] _ hC [pq (A6 hl0)] hn0
  ·unfold qA at h
   refine wn H0 33 [true] [pt hx0 hl0,pc e82 (k82 a0.Load 0 50000 _ rfl) [],⟨.when [(!(F82 a0.Load 0 50000),false)] (.call 82 [dI a0.Least,dI 0,dI a0.Load] [] (dB (F82 a0.Least 0 a0.Load)) [] []),λ hg=>⟨e82,(k82 a0.Least 0 a0.Load _ rfl)⟩⟩,⟨.when [(((!(F82 a0.Load 0 50000)) || (!(F82 a0.Least 0 a0.Load))),false)] (.call 82 [dI a0.By,dI 0,dI 15] [] (dB (F82 a0.By 0 15)) [] []),λ hg=>⟨e82,(k82 a0.By 0 15 _ rfl)⟩⟩,⟨.when [((((!(F82 a0.Load 0 50000)) || (!(F82 a0.Least 0 a0.Load))) || (!(F82 a0.By 0 15))),false)] (.call 82 [dI a0.Thruster,dI (-1),dI 7] [] (dB (F82 a0.Thruster (-1) 7)) [] []),λ hg=>⟨e82,(k82 a0.Thruster (-1) 7 _ rfl)⟩⟩,pL_ [(((((!(F82 a0.Load 0 50000)) || (!(F82 a0.Least 0 a0.Load))) || (!(F82 a0.By 0 15))) || (!(F82 a0.Thruster (-1) 7))),false)] pI a0.Needs] [] 0 [0] [2,3,4,8,9,10,44] hC [pq (A4 hi0 hl0)] ?_
   rcases cB h with⟨h1,h⟩ | ⟨h1,h⟩
   ·have hq:=hret0 _ (hr0 _ (sI h).symm)
    replace hq:=sI hq
    subst hq
    exact wr H0 24 [true] [] [] 0 [] hC [pq h1]
   ·refine ws H0 25 [false] [pl pI a0.Needs] [] 0 [0] (Wv x0 n0 a0 0 ()) (Acd a0 0 ()) hC [pq h1] ?_
    obtain⟨w1,hm1,hret1,hnext1⟩:=Ak h
    clear h
    refine wc w1 (Aee x0 n0) (Ag4) ?_ λ z1 hs1=>?_
    ·refine wb ?_
     refine Bn 46 rfl λ hl1=>?_
     refine wl (Wv x0 n0 a0) (Acd a0) hm1 (λ z1 hn1=>?_) λ n1 a1 z1 w1b hi1 hx1 h hb1 hr1=>?_
     ·clear hm1
      exact wx w1 (Aee x0 n0) (Ag4) H0 26 [false] [] [] 0 [] _ hC [pq (A6 hl1)] hn1
     ·unfold jZ at h
      obtain⟨y2,h3,h⟩:=Au h
      refine wn H0 32 [true] [pt hx1 hl1,pc e82 (k82 a1 0 (w64 ((cnt 0 n0)-1)) _ rfl) [],pR pI h3] [] 0 [0] [2,3,4,8,9,10,46,47,48,71] hC [pq (A4 hi1 hl1)] ?_
      rcases cB h with⟨h4,h⟩ | ⟨h4,h⟩
      ·have hq:=hret1 _ (hr1 _ (sI h).symm)
       replace hq:=hret0 _ (hr0 _ (sI hq).symm)
       replace hq:=sI hq
       subst hq
       exact wr H0 24 [true] [] [] 0 [] hC [pq h4]
      ·exact wx w1b (Wv x0 n0 a0 (n1+1)) (Acd a0 (n1+1)) H0 25 [false] [] [] 0 [0] _ hC [pq h4] (sI h).symm
    ·have h:=hnext1 _ hs1
     exact wx w0b (Ww x0 (n0+1)) (Ace (n0+1)) H0 23 [] [] [] 0 [] _ hC [] (sI h).symm
 ·have h:=hnext0 _ hs0
  replace h:=sI h
  subst h
  exact wr H0 23 [] [] [] 0 [] hC []
theorem e61:EN 61:=en Tryz.func61
theorem Ajd (x0:List Int) (x1:Int) (r:Bool) (h:qW x0 x1=some r):CO 152 [.d (DS pI x0),.d (I x1)] [] (.d (Bo r)) []:=by
 unfold qW at h
 refine co 9 Tryz.func152 λ C hC=>?_
 obtain⟨y1,h2,h⟩:=Au h
 replace h:=sI h
 subst h
 exact wr [0,1,4] 25 [] [pc Arh (Aqo x0 x1 _ h2) []] [] 0 [] hC []
theorem Ajp:EN 152:=en Tryz.func152
def I6:List Nat:=[0,1,4,5,7,8,9,16]
def K3 (x0:List (List Int)) (n0:Nat) (z0:Unit):St:=[(0,.d (DS (pL pI) x0)),(1,.d (.fn (.func 154) [] [])),(4,dI 0),(7,dI (ln x0)),(8,dI (cnt 0 n0))]
def O0  (n0:Nat) (z0:Unit):List Res:=[]
def T4  (z0:Unit):St:=[(4,dI 0)]
def Uw  (z0:Unit):List Res:=[]
theorem Amr (x0:List (List Int)) (r:Int) (h:qM x0=some r):CO 187 [.d (DS (pL pI) x0),.d (.fn (.func 154) [] [])] [] (.d (I r)) []:=by
 unfold qM at h
 refine co 19 Tryz.func187 λ C hC=>?_
 refine ws I6 26 [] [pl (pL pI) x0] [] 0 [] (K3 x0 0 ()) (O0 0 ()) hC [] ?_
 obtain⟨w0,hm0,hret0,hnext0⟩:=Ak h
 clear h
 refine wc w0 (T4) (Uw) ?_ λ z0 hs0=>?_
 ·refine wb ?_
  refine Bn 0 rfl λ hl0=>?_
  refine wl (K3 x0) (O0) hm0 (λ z0 hn0=>?_) λ n0 a0 z0 w0b hi0 hx0 h hb0 hr0=>?_
  ·clear hm0
   exact wx w0 (T4) (Uw) I6 26 [false] [] [] 0 [] _ hC [pq (A6 hl0)] hn0
  ·unfold U_ at h
   rcases cB h with⟨h1,h⟩ | ⟨h1,h⟩
   ·have hq:=hret0 _ (hr0 _ (sI h).symm)
    replace hq:=sI hq
    subst hq
    exact wr I6 35 [true,true] [pt hx0 hl0,pc Anv (Am0 a0 _ rfl) []] [] 0 [] hC [pq (A4 hi0 hl0),pq h1]
   ·exact wx w0b (K3 x0 (n0+1)) (O0 (n0+1)) I6 36 [true,false] [pt hx0 hl0,pc Anv (Am0 a0 _ rfl) []] [] 0 [] _ hC [pq (A4 hi0 hl0),pq h1] (sI h).symm
 ·have h:=hnext0 _ hs0
  replace h:=sI h
  subst h
  exact wr I6 23 [] [] [] 0 [] hC []
theorem Anm:EN 187:=en Tryz.func187
theorem Aq2 (x0:A8) (r:Bool) (h:Ada x0=r):CO 114 [.agg (d72 x0)] [] (.d (Bo r)) []:=by
 unfold Ada at h
 refine co 18 Tryz.func114 λ C hC=>?_
 subst h
 exact wr n3_ 25 [] [pc e91 (k91 x0.Rating 1 50000 _ rfl) [],⟨.when [(F91 x0.Rating 1 50000,true)] (.call 91 [dI x0.Least,dI 0,dI x0.Rating] [] (dB (F91 x0.Least 0 x0.Rating)) [] []),λ hg=>⟨e91,(k91 x0.Least 0 x0.Rating _ rfl)⟩⟩,⟨.when [(((F91 x0.Rating 1 50000)&&(F91 x0.Least 0 x0.Rating)),true)] (.call 91 [dI x0.Start,dI 0,dI 600] [] (dB (F91 x0.Start 0 600)) [] []),λ hg=>⟨e91,(k91 x0.Start 0 600 _ rfl)⟩⟩] [] 0 [] hC []
theorem Arv:EN 114:=en Tryz.func114
def M3:List Nat:=[0,1,2,4,5,6,8,9,10,11,33]
def Rz (x0:A1) (x1:Int) (n0:Nat) (z0:Unit):St:=[(1,dI x1),(2,dO 0 0),(4,dB false),(8,.d (DS pI x0.Needs)),(9,dI (ln x0.Needs)),(10,dI (cnt 0 n0))]
def jG (x0:A1) (n0:Nat) (z0:Unit):List Res:=[.box 81 (d81 x0)]
def yC  (z0:Unit):St:=[(2,dO 0 0),(4,dB false)]
def zO (x0:A1) (z0:Unit):List Res:=[.box 81 (d81 x0)]
theorem Aq1 (x0:A1) (x1:Int) (r:Bool) (h:Akn x0 x1=some r):CO 115 [.agg (d81 x0),.d (I x1)] [] (.d (Bo r)) []:=by
 unfold Akn at h
 refine co 61 Tryz.func115 λ C hC=>?_
 refine ws M3 26 [] [pl pI x0.Needs] [] 0 [0] (Rz x0 x1 0 ()) (jG x0 0 ()) hC [] ?_
 obtain⟨w0,hm0,hret0,hnext0⟩:=Ak h
 clear h
 refine wc w0 (yC) (zO x0) ?_ λ z0 hs0=>?_
 ·refine wb ?_
  refine Bn 8 rfl λ hl0=>?_
  refine wl (Rz x0 x1) (jG x0) hm0 (λ z0 hn0=>?_) λ n0 a0 z0 w0b hi0 hx0 h hb0 hr0=>?_
  ·clear hm0
   exact wx w0 (yC) (zO x0) M3 26 [false] [] [] 0 [0] _ hC [pq (A6 hl0)] hn0
  ·unfold Aae at h
   obtain⟨y1,h2,h⟩:=Au h
   refine wn M3 32 [true] [pt hx0 hl0,pc e91 (k91 a0 0 (w64 (x1-1)) _ rfl) [],pR pI h2] [] 0 [0] [1,2,4,8,9,10,33] hC [pq (A4 hi0 hl0)] ?_
   rcases cB h with⟨h3,h⟩ | ⟨h3,h⟩
   ·have hq:=hret0 _ (hr0 _ (sI h).symm)
    replace hq:=sI hq
    subst hq
    exact wr M3 24 [true] [] [] 0 [] hC [pq h3]
   ·exact wx w0b (Rz x0 x1 (n0+1)) (jG x0 (n0+1)) M3 25 [false] [] [] 0 [0] _ hC [pq h3] (sI h).symm
 ·have h:=hnext0 _ hs0
  replace h:=sI h
  subst h
  exact wr M3 23 [] [pc e91 (k91 x0.Load 0 50000 _ rfl) [],⟨.when [(F91 x0.Load 0 50000,true)] (.call 91 [dI x0.Least,dI 0,dI x0.Load] [] (dB (F91 x0.Least 0 x0.Load)) [] []),λ hg=>⟨e91,(k91 x0.Least 0 x0.Load _ rfl)⟩⟩,⟨.when [(((F91 x0.Load 0 50000)&&(F91 x0.Least 0 x0.Load)),true)] (.call 91 [dI x0.By,dI 0,dI 15] [] (dB (F91 x0.By 0 15)) [] []),λ hg=>⟨e91,(k91 x0.By 0 15 _ rfl)⟩⟩,⟨.when [((((F91 x0.Load 0 50000)&&(F91 x0.Least 0 x0.Load))&&(F91 x0.By 0 15)),true)] (.call 91 [dI x0.Thruster,dI (-1),dI 7] [] (dB (F91 x0.Thruster (-1) 7)) [] []),λ hg=>⟨e91,(k91 x0.Thruster (-1) 7 _ rfl)⟩⟩,pL_ [(((((F91 x0.Load 0 50000)&&(F91 x0.Least 0 x0.Load))&&(F91 x0.By 0 15))&&(F91 x0.Thruster (-1) 7)),true)] pI x0.Needs] [] 0 [] hC []
theorem Aru:EN 115:=en Tryz.func115
def M2:List Nat:=[0,1,4,5,6,11,12,13,16,19]
theorem Anb (x0:Int) (x1:Int) (r:Int) (h:Mn x0 x1=r):CO 118 [.d (I x0),.d (I x1)] [] (.d (I r)) []:=by
 unfold Mn at h
 refine co 20 Tryz.func118 λ C hC=>?_
 rcases cB h with⟨h1,h⟩ | ⟨h1,h⟩
 ·rcases cB h with⟨h2,h⟩ | ⟨h2,h⟩
  ·subst h
   exact wr M2 37 [true,true] [pc Hc (G_ x0 _ rfl) [],pc Hc (G_ x1 _ rfl) []] [] 0 [] hC [pq h1,pq h2]
  ·subst h
   exact wr M2 38 [true,false] [pc Hc (G_ x0 _ rfl) [],pc Hc (G_ x1 _ rfl) []] [] 0 [] hC [pq h1,pq h2]
 ·rcases cB h with⟨h3,h⟩ | ⟨h3,h⟩
  ·subst h
   exact wr M2 38 [false,true] [pc Hc (G_ x0 _ rfl) [],pc Hc (G_ x1 _ rfl) []] [] 0 [] hC [pq h1,pq h3]
  ·rcases cB h with⟨h4,h⟩ | ⟨h4,h⟩
   ·subst h
    exact wr M2 43 [false,false,true] [pc Hc (G_ x0 _ rfl) [],pc Hc (G_ x1 _ rfl) []] [] 0 [] hC [pq h1,pq h3,pq h4]
   ·rcases cB h with⟨h5,h⟩ | ⟨h5,h⟩
    ·subst h
     exact wr M2 48 [false,false,false,true] [pc Hc (G_ x0 _ rfl) [],pc Hc (G_ x1 _ rfl) []] [] 0 [] hC [pq h1,pq h3,pq h4,pq h5]
    ·subst h
     exact wr M2 49 [false,false,false,false] [pc Hc (G_ x0 _ rfl) [],pc Hc (G_ x1 _ rfl) []] [] 0 [] hC [pq h1,pq h3,pq h4,pq h5]
theorem An7:EN 118:=en Tryz.func118
theorem k90 (x0:Ae) (r:Bool) (h:F90 x0=r):CO 90 [.agg (d93 x0)] [] (.d (Bo r)) []:=by
 unfold F90 at h
 refine co 21 Tryz.func90 λ C hC=>?_
 subst h
 exact wr n3_ 25 [] [pc e91 (k91 x0.State 0 3 _ rfl) [],⟨.when [(F91 x0.State 0 3,true)] (.call 91 [dI x0.Since,dI 0,dI 2147483648] [] (dB (F91 x0.Since 0 2147483648)) [] []),λ hg=>⟨e91,(k91 x0.Since 0 2147483648 _ rfl)⟩⟩,⟨.when [(((F91 x0.State 0 3)&&(F91 x0.Since 0 2147483648)),true)] (.call 91 [dI x0.An,dI 0,dI 6000] [] (dB (F91 x0.An 0 6000)) [] []),λ hg=>⟨e91,(k91 x0.An 0 6000 _ rfl)⟩⟩,⟨.when [((((F91 x0.State 0 3)&&(F91 x0.Since 0 2147483648))&&(F91 x0.An 0 6000)),true)] (.call 91 [dI x0.Phase,dI 0,dI 3599] [] (dB (F91 x0.Phase 0 3599)) [] []),λ hg=>⟨e91,(k91 x0.Phase 0 3599 _ rfl)⟩⟩] [] 0 [] hC []
theorem e90:EN 90:=en Tryz.func90
theorem k66 (x0:Ab) (r:Ab) (h:F66 x0=some r):CO 66 [.agg (d39 x0)] [] (.agg [.os 0,.os 1,.os 2,.os 3]) (zp r []):=by
 unfold F66 at h
 refine co 16 Tryz.func66 λ C hC=>?_
 obtain⟨y1,h2,y3,h4,y5,h6,y7,h8,h⟩:=Dt h
 replace h:=sI h
 subst h
 exact wr n3_ 25 [] [pc e93 (k93 x0.Am _ h2) [],pc e94 (k94 x0.Ac _ h4) [],pc e95 (k95 x0.Aw _ h6) [],pc e96 (k96 x0.As _ h8) []] [] 0 [2,3,4,5] hC []
theorem e66:EN 66:=en Tryz.func66
def Ai5:List Nat:=[0,1,2,3,4,6,7,23]
theorem k98 (x0:Aa) (x1:Ab) (x2:Int) (r:Int×Bool) (h:F98 x0 x1 x2=some r):CO 98 [.agg (d30 x0),.agg (d39 x1),.d (I x2)] [] (.tup [.d (I r.1),.d (Bo r.2)]) []:=by
 unfold F98 at h
 refine co 30 Tryz.func98 λ C hC=>?_
 obtain⟨y1,h2,h⟩:=Au h
 refine wn Ai5 26 [] [pl q93 x1.Ac,pc e91 (k91 x2 0 (w64 ((ln x1.Ac)-1)) _ rfl) [],pR q93 h2] [] 0 [0,1] [2,3,4,6,7,23] hC [] ?_
 rcases cB h with⟨h3,h⟩ | ⟨h3,h⟩
 ·replace h:=sI h
  subst h
  exact wr Ai5 24 [true] [] [] 0 [] hC [pq h3]
 ·obtain⟨y4,h5,h⟩:=Au h
  replace h:=sI h
  subst h
  exact wr Ai5 25 [false] [pc Arr (Aqy x0 x1 2 x2 _ h5) []] [] 0 [] hC [pq h3]
theorem e98:EN 98:=en Tryz.func98
def Ja:List Nat:=[0,1,4,5,7,8,9,16]
def La (x0:List Ai) (n0:Nat) (z0:Unit):St:=[(0,.d (DS Bh x0)),(1,.d (.fn (.func 101) [] [])),(4,dI 0),(7,dI (ln x0)),(8,dI (cnt 0 n0))]
def O7  (n0:Nat) (z0:Unit):List Res:=[]
def Ub  (z0:Unit):St:=[(4,dI 0)]
def U4  (z0:Unit):List Res:=[]
theorem Am9 (x0:List Ai) (r:Int) (h:uG x0=some r):CO 121 [.d (DS Bh x0),.d (.fn (.func 101) [] [])] [] (.d (I r)) []:=by
 unfold uG at h
 refine co 19 Tryz.func121 λ C hC=>?_
 refine ws Ja 26 [] [pl Bh x0] [] 0 [] (La x0 0 ()) (O7 0 ()) hC [] ?_
 obtain⟨w0,hm0,hret0,hnext0⟩:=Ak h
 clear h
 refine wc w0 (Ub) (U4) ?_ λ z0 hs0=>?_
 ·refine wb ?_
  refine Bn 0 rfl λ hl0=>?_
  refine wl (La x0) (O7) hm0 (λ z0 hn0=>?_) λ n0 a0 z0 w0b hi0 hx0 h hb0 hr0=>?_
  ·clear hm0
   exact wx w0 (Ub) (U4) Ja 26 [false] [] [] 0 [] _ hC [pq (A6 hl0)] hn0
  ·unfold Vh at h
   refine wn Ja 32 [true] [pt hx0 hl0,pc Ar2 (Aq9 a0 _ rfl) []] [] 0 [] [0,1,4,5,7,8,16] hC [pq (A4 hi0 hl0)] ?_
   rcases cB h with⟨h1,h⟩ | ⟨h1,h⟩
   ·cases h
   ·exact wx w0b (La x0 (n0+1)) (O7 (n0+1)) Ja 25 [false] [] [] 0 [] _ hC [pq h1] (sI h).symm
 ·have h:=hnext0 _ hs0
  replace h:=sI h
  subst h
  exact wr Ja 23 [] [] [] 0 [] hC []
theorem An5:EN 121:=en Tryz.func121
theorem k50 (x0:Ab) (x1:Ab) (r:Bool) (h:F50 x0 x1=some r):CO 50 [.agg (d39 x0),.agg (d39 x1)] [] (.d (Bo r)) []:=by
 unfold F50 at h
 refine co 31 Tryz.func50 λ C hC=>?_
 obtain⟨y1,h2,y3,h4,y5,h6,y7,h8,h⟩:=Dt h
 replace h:=sI h
 subst h
 exact wr n5_ 25 [] [pc e69 (k69 x0.Am x1.Am _ h2) [],pw e70 (λ hg=>k70 x0.Ac x1.Ac _ (A9 h4 hg)) [],pw e71 (λ hg=>k71 x0.Aw x1.Aw _ (A9 h6 hg)) [],pw e72 (λ hg=>k72 x0.As x1.As _ (A9 h8 hg)) []] [] 0 [] hC []
theorem e50:EN 50:=en Tryz.func50
theorem Apb (x0:Ar) (x1c0:Al) (r:Bool×Al) (h:Gs x0 x1c0=r):CO 52 [.agg (d84 x0),.d (.o 0 0)] [.box 111 [.fn (.func 48) [] [.o 1 0]],.box 43 (d43 x1c0)] (.d (Bo r.1)) [.box 111 [.fn (.func 48) [] [.o 1 0]],.box 43 (d43 r.2)]:=by
 unfold Gs at h
 refine co 16 Tryz.func52 λ C hC=>?_
 subst h
 exact wr n4_ 25 [] [pb Ak6 (Ak4 x0.High x1c0 _ rfl),⟨.when [(!(Ng x0.High x1c0),false)] (.callB 48 [dI x0.Low,.d (.ip [.v (.int .i64 x1c0.Time),.s (x1c0.Power.Am.map pB),.s (x1c0.Power.Ac.map q93),.s (x1c0.Power.Aw.map pI),.s (x1c0.Power.As.map q96),.s (x1c0.Av.map q84),.s (x1c0.A7.map q65)])] (dB (Ng x0.Low x1c0)) [[]] 0 []),λ hg=>Lv ⟨Ak6,(Ak4 x0.Low x1c0 _ rfl)⟩⟩] [] 2 [0,1] hC []
theorem Apq:EN 52:=en Tryz.func52
def J6:List Nat:=[0,1,2,3,4,6,7,14,21,27,39]
def yG (x1:A0) (z0:Bool):St:=[(2,dO 0 0),(3,dO 1 0),(4,dB false),(6,dI x1.Kind),(7,dB z0)]
def zS (x0:Aa) (x1:A0) (z0:Bool):List Res:=[.box 30 (d30 x0),.box 63 (d63 x1)]
def R7 (x1:A0) (z1:Bool):St:=[(2,dO 0 0),(3,dO 1 0),(4,dB false),(6,dI x1.Kind),(14,dB z1)]
def S5 (x0:Aa) (x1:A0) (z1:Bool):List Res:=[.box 30 (d30 x0),.box 63 (d63 x1)]
theorem Aq5 (x0 : Aa) (x1 : A0) (r : Bool) (h : Akp x0 x1 = some r) : CO 108 [.agg (d30 x0), .agg (d63 x1)] [] (.d (Bo r)) [] := by
 unfold Akp at h
 refine co 48 Tryz.func108 λ C hC=>?_
 refine wn J6 30 [] [] [] 0 [0,1] [2,3,4,6,7] hC [] ?_
 obtain⟨w0,h,hret0,hnext0⟩:=Ak h
 refine wc w0 (yG x1) (zS x0 x1) ?_ λ z0 hs0=>?_
 ·unfold Aah at h
  rcases cB h with⟨h1,h⟩ | ⟨h1,h⟩
  ·cases h
  ·exact wx w0 (yG x1) (zS x0 x1) J6 23 [false] [] [] 0 [0,1] _ hC [pq h1] (sI h).symm
 ·clear h; have h := hnext0 _ hs0
  rcases cB h with⟨h2,h⟩ | ⟨h2,h⟩
  ·cases h
  ·refine wn J6 25 [false] [] [] 0 [0,1] [2,3,4,6,14] hC [pq h2] ?_
   obtain⟨w1,h,hret1,hnext1⟩:=Ak h
   refine wc w1 (R7 x1) (S5 x0 x1) ?_ λ z1 hs1=>?_
   ·unfold Aag at h
    rcases cB h with⟨h3,h⟩ | ⟨h3,h⟩
    ·exact wx w1 (R7 x1) (S5 x0 x1) J6 23 [true] [] [] 0 [0,1] _ hC [pq h3] (sI h).symm
    ·exact wx w1 (R7 x1) (S5 x0 x1) J6 23 [false] [] [] 0 [0,1] _ hC [pq h3] (sI h).symm
   ·clear h;have h:=hnext1 _ hs1
    rcases cB h with⟨h4,h⟩ | ⟨h4,h⟩
    ·obtain⟨y5,h6,h⟩:=Au h
     replace h:=sI h
     subst h
     exact wr J6 24 [true] [pc Aro (Aqv x0 1 x1.Unit _ h6) []] [] 0 [] hC [pq h4]
    ·rcases cB h with⟨h7,h⟩ | ⟨h7,h⟩
     ·cases h
     ·rcases cB h with⟨h8,h⟩ | ⟨h8,h⟩
      ·cases h
      ·rcases cB h with⟨h9,h⟩ | ⟨h9,h⟩
       ·cases h
       ·rcases cB h with⟨h10,h⟩ | ⟨h10,h⟩
        ·cases h
        ·replace h:=sI h
         subst h
         exact wr J6 38 [false,false,false,false,false] [] [] 0 [] hC [pq h4,pq h7,pq h8,pq h9,pq h10]
theorem Ary:EN 108:=en Tryz.func108
theorem Aqm (x0:List Aq) (x1:Aq) (r:Bool) (h:Akd x0 x1=some r):CO 198 [.d (DS q96 x0),.agg (d96 x1)] [] (.d (Bo r)) []:=by
 unfold Akd at h
 refine co 9 Tryz.func198 λ C hC=>?_
 obtain⟨y1,h2,h⟩:=Au h
 replace h:=sI h
 subst h
 exact wr [0,1,3,4] 25 [] [pc Arc (Aqj x0 x1 _ h2) []] [] 0 [] hC []
theorem Arf:EN 198:=en Tryz.func198
def I7:List Nat:=[0,1,4,5,7,8,9,16]
def Tv (x0:List Af) (n0:Nat) (z0:Unit):St:=[(0,.d (DS q70 x0)),(1,.d (.fn (.func 211) [] [.o 0 0])),(4,dI 0),(7,dI (ln x0)),(8,dI (cnt 0 n0))]
def Z_ (x1c0:Int) (n0:Nat) (z0:Unit):List Res:=[.box 3 [I x1c0]]
def T5  (z0:Unit):St:=[(4,dI 0)]
def Ux (x1c0:Int) (z0:Unit):List Res:=[.box 3 [I x1c0]]
theorem Ams (x0:List Af) (x1c0:Int) (r:Int×Int) (h:qN x0 x1c0=some r):CO 172 [.d (DS q70 x0),.d (.fn (.func 211) [] [.o 0 0])] [.box 3 [I x1c0]] (.d (I r.1)) [.box 3 [I r.2]]:=by
 unfold qN at h
 refine co 19 Tryz.func172 λ C hC=>?_
 refine ws I7 26 [] [pl q70 x0] [] 1 [0] (Tv x0 0 ()) (Z_ x1c0 0 ()) hC [] ?_
 obtain⟨w0,hm0,hret0,hnext0⟩:=Ak h
 clear h
 refine wc w0 (T5) (Ux x1c0) ?_ λ z0 hs0=>?_
 ·refine wb ?_
  refine Bn 0 rfl λ hl0=>?_
  refine wl (Tv x0) (Z_ x1c0) hm0 (λ z0 hn0=>?_) λ n0 a0 z0 w0b hi0 hx0 h hb0 hr0=>?_
  ·clear hm0
   exact wx w0 (T5) (Ux x1c0) I7 26 [false] [] [] 1 [0] _ hC [pq (A6 hl0)] hn0
  ·unfold Va at h
   refine wn I7 32 [true] [pt hx0 hl0,pb Ani (Amn a0 x1c0 _ rfl)] [] 1 [0] [0,1,4,5,7,8,16] hC [pq (A4 hi0 hl0)] ?_
   rcases cB h with⟨h1,h⟩ | ⟨h1,h⟩
   ·have hq:=hret0 _ (hr0 _ (sI h).symm)
    replace hq:=sI hq
    subst hq
    exact wr I7 24 [true] [] [] 1 [0] hC [pq h1]
   ·cases h
 ·have h:=hnext0 _ hs0
  replace h:=sI h
  subst h
  exact wr I7 23 [] [] [] 1 [0] hC []
theorem Ann:EN 172:=en Tryz.func172
def I5:List Nat:=[0,1,2,6,7,8,9,13,30,35,54]
def Tu (x1:Int) (z0:Unit):St:=[(0,dS 0),(1,dI x1),(2,.d (.fn (.func 191) [] [.o 1 0])),(6,dI 20),(7,dI 0),(8,dI 20)]
def Z8 (x0:List Int) (x2c0:Aa) (z0:Unit):List Res:=[v0_ x0,.box 30 (d30 x2c0)]
def T2 (x1:Int) (z0:Unit):St:=[(0,dS 0),(1,dI x1),(2,.d (.fn (.func 191) [] [.o 1 0])),(6,dI 20),(7,dI 0),(8,dI 20)]
def Uu (x0:List Int) (x2c0:Aa) (z0:Unit):List Res:=[v0_ x0,.box 30 (d30 x2c0)]
def Tt (x1:Int) (z1:Unit):St:=[(0,dS 0),(1,dI x1),(2,.d (.fn (.func 191) [] [.o 1 0])),(6,dI 20),(7,dI 0),(8,dI 20)]
def Z7 (x0:List Int) (x2c0:Aa) (z1:Unit):List Res:=[v0_ x0,.box 30 (d30 x2c0)]
def T1  (z1:Unit):St:=[]
def Ut (x0:List Int) (x2c0:Aa) (z1:Unit):List Res:=[v0_ x0,.box 30 (d30 x2c0)]
theorem Amo (x0:List Int) (x1:Int) (x2c0:Aa) (r:Aa) (h:qJ x0 x1 x2c0=some r):CO 207 [.d (.os 0),.d (I x1),.d (.fn (.func 191) [] [.o 1 0])] [v0_ x0,.box 30 (d30 x2c0)] (.tup []) [v0_ x0,.box 30 (d30 r)]:=by
 unfold qJ at h
 refine co 63 Tryz.func207 λ C hC=>?_
 refine ws I5 26 [] [] [] 2 [0,1] (Tu x1 ()) (Z8 x0 x2c0 ()) hC [] ?_
 obtain⟨w0,hm0,hret0,hnext0⟩:=Ak h
 clear h
 refine wc w0 (T2 x1) (Uu x0 x2c0) ?_ λ z0 hs0=>?_
 ·refine wb ?_
  refine ww (Tu x1) (Z8 x0 x2c0) hm0 λ z0 w0b h hb0 hr0=>?_
  unfold U8 at h
  rcases cB h with⟨h1,h⟩ | ⟨h1,h⟩
  ·cases h
  ·exact wx w0 (T2 x1) (Uu x0 x2c0) I5 26 [false] [] [] 2 [0,1] () hC [pq h1] (hb0 _ (sI h).symm)
 ·have h:=hnext0 _ hs0
  obtain⟨y2,h3,h⟩:=Au h
  refine ws I5 23 [] [pb Anh (Amm x0 0 x1 x2c0 _ h3)] [] 2 [0,1] (Tt x1 ()) (Z7 x0 x2c0 ()) hC [] ?_
  obtain⟨w1,hm1,hret1,hnext1⟩:=Ak h
  clear h
  refine wc w1 (T1) (Ut x0 x2c0) ?_ λ z1 hs1=>?_
  ·refine wb ?_
   refine ww (Tt x1) (Z7 x0 x2c0) hm1 λ z1 w1b h hb1 hr1=>?_
   unfold U7 at h
   rcases cB h with⟨h4,h⟩ | ⟨h4,h⟩
   ·cases h
   ·exact wx w1 (T1) (Ut x0 x2c0) I5 26 [false] [] [] 2 [0,1] () hC [pq h4] (hb1 _ (sI h).symm)
  ·have h:=hnext1 _ hs1
   replace h:=sI h
   subst h
   exact wf I5 20 [] [] [] 2 [0,1] hC []
theorem Anj:EN 207:=en Tryz.func207
theorem Aqq (x0:Int) (x1:Int) (r:Int×Int) (h:Mm x0 x1=r):CO 164 [.d (.p (.v (.int .u64 x0))),.d (.p (.v (.int .u64 x1)))] [] (.tup [.d (.p (.v (.int .u64 r.1))),.d (.p (.v (.int .u64 r.2)))]) []:=by
 unfold Mm at h
 refine co 30 Tryz.func164 λ C hC=>?_
 subst h
 exact wr [0,1,4,5,6,7,8,9] 30 [false] [pc Arg (Aqn x0 x1 _ rfl) []] [] 0 [] hC [⟨(false,false),rfl⟩]
theorem Arj:EN 164:=en Tryz.func164
theorem k23 (x0:Al) (r:Int) (h:F23 x0=some r):CO 23 [.agg (d43 x0)] [] (.d (.p (.v (.int .u64 r)))) []:=by
 unfold F23 at h
 refine co 7 Tryz.func23 λ C hC=>?_
 obtain⟨y1,h2,y3,h4,h⟩:=Ba h
 replace h:=sI h
 subst h
 exact wr n3_ 25 [] [pc e42 (k42  _ rfl) [],pc e22 (k22 x0 _ h2) [],pc e41 (k41 F42 y1 _ h4) []] [] 0 [] hC []
theorem e23:EN 23:=en Tryz.func23
theorem k19 (x0:Ad) (x1:Int) (r:Int×Ad) (h:F19 x0 x1=some r):CO 19 [.d (.o 0 0),.d (I x1)] [.box 77 (d77 x0)] (.d (I r.1)) [.box 77 (d77 r.2)]:=by
 unfold F19 at h
 refine co 35 Tryz.func19 λ C hC=>?_
 rcases cB h with⟨h1,h⟩ | ⟨h1,h⟩
 ·replace h:=sI h
  subst h
  exact wr [0,1,4,14] 29 [true] [pl pI x0.L] [] 1 [0] hC [pq h1]
 ·obtain⟨y2,h3,y4,h5,h⟩:=Ba h
  replace h:=sI h
  subst h
  exact wr [0,1,4,14] 32 [false] [pl pI x0.L,pr pI h3,pc e35 (k35 y2 x1 _ h5) []] [] 1 [0] hC [pq h1]
theorem e19:EN 19:=en Tryz.func19
def Yo:List Nat:=[0,1,2,3,4,6,7,16,25,33]
theorem k64 (x0:Aa) (x1:Aq) (r:Bool) (h:F64 x0 x1=r):CO 64 [.agg (d30 x0),.agg (d96 x1)] [] (.d (Bo r)) []:=by
 unfold F64 at h
 refine co 42 Tryz.func64 λ C hC=>?_
 rcases cB h with⟨h1,h⟩ | ⟨h1,h⟩
 ·subst h
  exact wr Yo 32 [true] [pl q72 x0.Ac,pc e82 (k82 x1.Number 0 (w64 ((ln x0.Ac)-1)) _ rfl) []] [] 0 [] hC [pq h1]
 ·rcases cB h with⟨h2,h⟩ | ⟨h2,h⟩
  ·subst h
   exact wr Yo 35 [false,true] [pl q70 x0.Ag,pc e82 (k82 x1.Number 0 (w64 ((ln x0.Ag)-1)) _ rfl) []] [] 0 [] hC [pq h1,pq h2]
  ·rcases cB h with⟨h3,h⟩ | ⟨h3,h⟩
   ·subst h
    exact wr Yo 38 [false,false,true] [pc e82 (k82 x1.Number 0 (w64 (x0.Ap-1)) _ rfl) []] [] 0 [] hC [pq h1,pq h2,pq h3]
   ·rcases cB h with⟨h4,h⟩ | ⟨h4,h⟩
    ·subst h
     exact wr Yo 41 [false,false,false,true] [pl q81 x0.Ah,pc e82 (k82 x1.Number 0 (w64 ((ln x0.Ah)-1)) _ rfl) []] [] 0 [] hC [pq h1,pq h2,pq h3,pq h4]
    ·subst h
     exact wr Yo 43 [false,false,false,false] [] [] 0 [] hC [pq h1,pq h2,pq h3,pq h4]
theorem e64:EN 64:=en Tryz.func64
def H1:List Nat:=[0,1,2,3,4,5,6,38,41,42,43,55,59,60,61,73]
def Xe (x0:Ab) (z0:Int):St:=[(2,dO 0 0),(3,dO 1 0),(4,dB false),(41,dI (ln x0.Ac)),(42,dI z0)]
def Acq (x0:Ab) (x1:Ab) (z0:Int):List Res:=[.box 39 (d39 x0),.box 39 (d39 x1)]
def Aes  (z0:Int):St:=[(2,dO 0 0),(3,dO 1 0),(4,dB false)]
def Ahi (x0:Ab) (x1:Ab) (z0:Int):List Res:=[.box 39 (d39 x0),.box 39 (d39 x1)]
def Xd (x0:Ab) (z1:Int):St:=[(2,dO 0 0),(3,dO 1 0),(4,dB false),(59,dI (ln x0.As)),(60,dI z1)]
def Acp (x0:Ab) (x1:Ab) (z1:Int):List Res:=[.box 39 (d39 x0),.box 39 (d39 x1)]
def Aer  (z1:Int):St:=[(4,dB false)]
def Ahh  (z1:Int):List Res:=[]
theorem k33 (x0:Ab) (x1:Ab) (r:Bool) (h:F33 x0 x1=some r):CO 33 [.agg (d39 x0),.agg (d39 x1)] [] (.d (Bo r)) []:=by
 unfold F33 at h
 refine co 75 Tryz.func33 λ C hC=>?_
 obtain⟨y1,h2,y3,h4,h⟩:=Ba h
 refine wn H1 26 [] [pc e54 (k54 x0.Am x1.Am _ h2) [],pw e55 (λ hg=>k55 x0.Aw x1.Aw _ (A9 h4 hg)) [],pL_ [(((!y1) || (!y3)),false)] q93 x0.Ac,pL_ [(((!y1) || (!y3)),false)] q93 x1.Ac,pL_ [((((!y1) || (!y3)) || ((ln x0.Ac) != (ln x1.Ac))),false)] q96 x0.As,pL_ [((((!y1) || (!y3)) || ((ln x0.Ac) != (ln x1.Ac))),false)] q96 x1.As] [] 0 [0,1] [2,3,4,38] hC [] ?_
 rcases cB h with⟨h5,h⟩ | ⟨h5,h⟩
 ·replace h:=sI h
  subst h
  exact wr H1 24 [true] [] [] 0 [] hC [pq h5]
 ·refine ws H1 26 [false] [pl q93 x0.Ac] [] 0 [0,1] (Xe x0 0) (Acq x0 x1 0) hC [pq h5] ?_
  obtain⟨w0,hm0,hret0,hnext0⟩:=Ak h
  clear h
  refine wc w0 (Aes) (Ahi x0 x1) ?_ λ z0 hs0=>?_
  ·refine wb ?_
   refine ww (Xe x0) (Acq x0 x1) hm0 λ z0 w0b h hb0 hr0=>?_
   unfold Q9 at h
   rcases cB h with⟨h6,h⟩ | ⟨h6,h⟩
   ·obtain⟨y7,h8,y9,h10,h⟩:=Ba h
    rcases cB h with⟨h11,h⟩ | ⟨h11,h⟩
    ·have hq:=hret0 _ (hr0 _ (sI h).symm)
     replace hq:=sI hq
     subst hq
     exact wr H1 35 [true,true] [pr q93 h8,pr q93 h10] [] 0 [] hC [pq h6,pq h11]
    ·exact wx w0b (Xe x0) (Acq x0 x1) H1 36 [true,false] [pr q93 h8,pr q93 h10] [] 0 [0,1] _ hC [pq h6,pq h11] (sI h).symm
   ·exact wx w0 (Aes) (Ahi x0 x1) H1 26 [false] [] [] 0 [0,1] z0 hC [pq h6] (hb0 _ (sI h).symm)
  ·have h:=hnext0 _ hs0
   refine ws H1 24 [] [pl q96 x0.As] [] 0 [0,1] (Xd x0 0) (Acp x0 x1 0) hC [] ?_
   obtain⟨w1,hm1,hret1,hnext1⟩:=Ak h
   clear h
   refine wc w1 (Aer) (Ahh) ?_ λ z1 hs1=>?_
   ·refine wb ?_
    refine ww (Xd x0) (Acp x0 x1) hm1 λ z1 w1b h hb1 hr1=>?_
    unfold Q8 at h
    rcases cB h with⟨h12,h⟩ | ⟨h12,h⟩
    ·obtain⟨y13,h14,y15,h16,h⟩:=Ba h
     rcases cB h with⟨h17,h⟩ | ⟨h17,h⟩
     ·have hq:=hret1 _ (hr1 _ (sI h).symm)
      replace hq:=sI hq
      subst hq
      exact wr H1 35 [true,true] [pr q96 h14,pr q96 h16] [] 0 [] hC [pq h12,pq h17]
     ·exact wx w1b (Xd x0) (Acp x0 x1) H1 36 [true,false] [pr q96 h14,pr q96 h16] [] 0 [0,1] _ hC [pq h12,pq h17] (sI h).symm
    ·exact wx w1 (Aer) (Ahh) H1 26 [false] [] [] 0 [] z1 hC [pq h12] (hb1 _ (sI h).symm)
   ·have h:=hnext1 _ hs1
    replace h:=sI h
    subst h
    exact wr H1 23 [] [] [] 0 [] hC []
theorem e33:EN 33:=en Tryz.func33
theorem k43 (x0:Aa) (r:Int) (h:F43 x0=some r):CO 43 [.agg (d30 x0)] [] (.d (I r)) []:=by
 unfold F43 at h
 refine co 62 Tryz.func43 λ C hC=>?_
 refine wn [0,1,2,28,61] 26 [] [pL_ [(((decide (x0.Ap<1)) || (decide (x0.Ap>6))),false)] q70 x0.Ag,pL_ [((((decide (x0.Ap<1)) || (decide (x0.Ap>6))) || (decide ((ln x0.Ag)>24))),false)] q72 x0.Ac,pL_ [(((((decide (x0.Ap<1)) || (decide (x0.Ap>6))) || (decide ((ln x0.Ag)>24))) || (decide ((ln x0.Ac)>8))),false)] q81 x0.Ah] [] 0 [0] [1,2,28] hC [] ?_
 rcases cB h with⟨h1,h⟩ | ⟨h1,h⟩
 ·replace h:=sI h
  subst h
  exact wr [0,1,2,28,61] 24 [true] [] [] 0 [] hC [pq h1]
 ·obtain⟨y2,h3,y4,h5,y6,h7,h⟩:=Cg h
  refine wn [0,1,2,28,61] 26 [false] [pc e59 (k59 x0 _ h3) [],pw e60 (λ hg=>k60 x0 _ (A9 h5 hg)) [],pw e61 (λ hg=>k61 x0 _ (A9 h7 hg)) []] [] 0 [] [2,61] hC [pq h1] ?_
  rcases cB h with⟨h8,h⟩ | ⟨h8,h⟩
  ·replace h:=sI h
   subst h
   exact wr [0,1,2,28,61] 24 [true] [] [] 0 [] hC [pq h8]
  ·replace h:=sI h
   subst h
   exact wr [0,1,2,28,61] 25 [false] [] [] 0 [] hC [pq h8]
theorem e43:EN 43:=en Tryz.func43
theorem Am1 (x0:List (List Int)) (r:Bool) (h:qV x0=some r):CO 153 [.d (DS (pL pI) x0),.d (.fn (.func 154) [] [])] [] (.d (Bo r)) []:=by
 unfold qV at h
 refine co 9 Tryz.func153 λ C hC=>?_
 obtain⟨y1,h2,h⟩:=Au h
 replace h:=sI h
 subst h
 exact wr [0,1,4] 25 [] [pc Anm (Amr x0 _ h2) []] [] 0 [] hC []
theorem Anw:EN 153:=en Tryz.func153
def Se:List Nat:=[0,1,2,4,5,6,7,8,9,10,49]
def We (x1:List Aq) (n0:Nat) (z0:Unit):St:=[(1,.d (DS q96 x1)),(2,dO 0 0),(4,dB false),(7,.d (DS q96 x1)),(8,dI (ln x1)),(9,dI (cnt 0 n0))]
def Abx (x0:Aa) (n0:Nat) (z0:Unit):List Res:=[.box 30 (d30 x0)]
def Adu (x1:List Aq) (z0:Unit):St:=[(1,.d (DS q96 x1)),(4,dB false)]
def Agk  (z0:Unit):List Res:=[]
theorem k87 (x0:Aa) (x1:List Aq) (r:Bool) (h:F87 x0 x1=some r):CO 87 [.agg (d30 x0),.d (DS q96 x1)] [] (.d (Bo r)) []:=by
 unfold F87 at h
 refine co 54 Tryz.func87 λ C hC=>?_
 refine ws Se 26 [] [pl q96 x1] [] 0 [0] (We x1 0 ()) (Abx x0 0 ()) hC [] ?_
 obtain⟨w0,hm0,hret0,hnext0⟩:=Ak h
 clear h
 refine wc w0 (Adu x1) (Agk) ?_ λ z0 hs0=>?_
 ·refine wb ?_
  refine Bn 7 rfl λ hl0=>?_
  refine wl (We x1) (Abx x0) hm0 (λ z0 hn0=>?_) λ n0 a0 z0 w0b hi0 hx0 h hb0 hr0=>?_
  ·clear hm0
   exact wx w0 (Adu x1) (Agk) Se 26 [false] [] [] 0 [] _ hC [pq (A6 hl0)] hn0
  ·unfold Ah0 at h
   obtain⟨y1,h2,y3,h4,y5,h6,h⟩:=Cg h
   refine wn Se 32 [true] [pt hx0 hl0,pc Art (Aq0 x0 a0.Kind _ rfl) [],pc e91 (k91 a0.Number 0 (w64 ((Kr x0 a0.Kind)-1)) _ rfl) [],pR q96 h2,⟨.when [(!(F91 a0.Number 0 (w64 ((Kr x0 a0.Kind)-1))),false),(decide ((cnt 0 n0)>0),true)] (.call 118 [dI y1.Kind,dI a0.Kind] [] (dI (Mn y1.Kind a0.Kind)) [] []),λ hg=>⟨An7,(Anb y1.Kind a0.Kind _ rfl)⟩⟩,pR q96 h4,⟨.when [(!(F91 a0.Number 0 (w64 ((Kr x0 a0.Kind)-1))),false),(decide ((cnt 0 n0)>0),true)] (.call 118 [dI y3.Number,dI a0.Number] [] (dI (Mn y3.Number a0.Number)) [] []),λ hg=>⟨An7,(Anb y3.Number a0.Number _ rfl)⟩⟩,pw Ars (λ hg=>Aqz [Mn y1.Kind a0.Kind,Mn y3.Number a0.Number] _ (A9 h6 hg)) []] [] 0 [0] [1,2,4,7,8,9,49] hC [pq (A4 hi0 hl0)] ?_
   rcases cB h with⟨h7,h⟩ | ⟨h7,h⟩
   ·have hq:=hret0 _ (hr0 _ (sI h).symm)
    replace hq:=sI hq
    subst hq
    exact wr Se 24 [true] [] [] 0 [] hC [pq h7]
   ·exact wx w0b (We x1 (n0+1)) (Abx x0 (n0+1)) Se 25 [false] [] [] 0 [0] _ hC [pq h7] (sI h).symm
 ·have h:=hnext0 _ hs0
  replace h:=sI h
  subst h
  exact wr Se 23 [] [pl q96 x1] [] 0 [] hC []
theorem e87:EN 87:=en Tryz.func87
theorem k89 (x0:Ae) (r:Bool) (h:F89 x0=r):CO 89 [.agg (d93 x0)] [] (.d (Bo r)) []:=by
 unfold F89 at h
 refine co 6 Tryz.func89 λ C hC=>?_
 subst h
 exact wr n3_ 25 [] [pc e90 (k90 x0 _ rfl) []] [] 0 [] hC []
theorem e89:EN 89:=en Tryz.func89
theorem Afh (x0:List Ai) (r:(List Ai)) (h:Rk x0=some r):CO 100 [.d (.os 0),.d (.fn (.func 101) [] [])] [F0 x0] (.d (.os 1)) [.non,F0 r]:=by
 unfold Rk at h
 refine co 42 Tryz.func100 λ C hC=>?_
 obtain⟨y1,h2,h⟩:=Au h
 rcases cB h with⟨h3,h⟩ | ⟨h3,h⟩
 ·replace h:=sI h
  subst h
  exact wr [0,1,4,5,6,7,12,19,29] 31 [true] [pb An5 (Am9 x0 _ h2)] [.mv 0] 1 [0,1] hC [pq h3]
 ·cases h
theorem Af0:EN 100:=en Tryz.func100
def Lt:List Nat:=[0,1,4,5,7,8,9,16]
def N2 (x0:List Ar) (n0:Nat) (z0:Sg0):St:=[(0,.d (DS q84 x0)),(1,.d (.fn (.func 52) [] [.o 0 0])),(4,dI 0),(7,dI (ln x0)),(8,dI (cnt 0 n0))]
def S7  (n0:Nat) (z0:Sg0):List Res:=[.box 111 [.fn (.func 48) [] [.o 1 0]],.box 43 [I z0.1,DS pB z0.2.1,DS q93 z0.2.2.1,DS pI (g3_ z0),DS q96 (g4_ z0),DS q84 (g5_ z0),DS q65 (Ajh z0)]]
def Xs  (z0:Sg0):St:=[(4,dI 0)]
def Zr  (z0:Sg0):List Res:=[.box 111 [.fn (.func 48) [] [.o 1 0]],.box 43 [I z0.1,DS pB z0.2.1,DS q93 z0.2.2.1,DS pI (g3_ z0),DS q96 (g4_ z0),DS q84 (g5_ z0),DS q65 (Ajh z0)]]
theorem Ao9 (x0:List Ar) (x1c0c0:Al) (r:Int×Al) (h:Ac5 x0 x1c0c0=some r):CO 73 [.d (DS q84 x0),.d (.fn (.func 52) [] [.o 0 0])] [.box 111 [.fn (.func 48) [] [.o 1 0]],.box 43 (d43 x1c0c0)] (.d (I r.1)) [.box 111 [.fn (.func 48) [] [.o 1 0]],.box 43 (d43 r.2)]:=by
 unfold Ac5 at h
 refine co 19 Tryz.func73 λ C hC=>?_
 refine ws Lt 26 [] [pl q84 x0] [] 2 [0,1] (N2 x0 0 (x1c0c0.Time,zu x1c0c0.Power (x1c0c0.Av,x1c0c0.A7))) (S7 0 (x1c0c0.Time,zu x1c0c0.Power (x1c0c0.Av,x1c0c0.A7))) hC [] ?_
 obtain⟨w0,hm0,hret0,hnext0⟩:=Ak h
 clear h
 refine wc w0 (Xs) (Zr) ?_ λ z0 hs0=>?_
 ·refine wb ?_
  refine Bn 0 rfl λ hl0=>?_
  refine wl (N2 x0) (S7) hm0 (λ z0 hn0=>?_) λ n0 a0 z0 w0b hi0 hx0 h hb0 hr0=>?_
  ·clear hm0
   exact wx w0 (Xs) (Zr) Lt 26 [false] [] [] 2 [0,1] _ hC [pq (A6 hl0)] hn0
  ·unfold jO at h
   refine wn Lt 32 [true] [pt hx0 hl0,pc Apq (Apb a0 (⟨z0.1,(⟨z0.2.1,z0.2.2.1,(g3_ z0),(g4_ z0)⟩:Ab),(g5_ z0),(Ajh z0)⟩:Al) _ rfl) [0,1]] [] 2 [0,1] [0,1,4,5,7,8,16] hC [pq (A4 hi0 hl0)] ?_
   rcases cB h with⟨h1,h⟩ | ⟨h1,h⟩
   ·cases h
   ·exact wx w0b (N2 x0 (n0+1)) (S7 (n0+1)) Lt 25 [false] [] [] 2 [0,1] _ hC [pq h1] (sI h).symm
 ·have h:=hnext0 _ hs0
  replace h:=sI h
  subst h
  exact wr Lt 23 [] [] [] 2 [0,1] hC []
theorem Apo:EN 73:=en Tryz.func73
theorem k74 (x0:Aa) (x1:Al) (r:Ay) (h:F74 x0 x1=some r):CO 74 [.agg (d30 x0),.agg (d43 x1)] [] (.d (.o 0 0)) (.box 119 (I r.Ao.Time :: .os 1 :: .os 2 :: .os 3 :: .os 4 :: .os 5 :: .os 6::zb r.Aj [.os 7,.os 8])::zp r.Ao.Power [v2_ r.Ao.Av,v1_ r.Ao.A7,v1_ r.events,v7_ r.states]):=by
 unfold F74 at h
 refine co 21 Tryz.func74 λ C hC=>?_
 obtain⟨y1,h2,y3,h4,y5,h6,h⟩:=Cg h
 replace h:=sI h
 subst h
 exact wr n5_ 27 [] [pc e66 (k66 x1.Power _ h2) [],pc Ar1 (Aq8 x1.Av _ h4) [],pc e79 (k79 x1.A7 _ h6) []] [.ownb 8 13 65 5,.ownb 8 14 39 4] 0 [8,2,3,4,5,6,7,9,10] hC []
theorem e74:EN 74:=en Tryz.func74
theorem Ao8 (x0:Ay) (x1:Ab) (r:Ay) (h:Ac4 x0 x1=some r):CO 75 [.d (.o 0 0),.agg (d39 x1)] (.box 119 (I x0.Ao.Time :: .os 1 :: .os 2 :: .os 3 :: .os 4 :: .os 5 :: .os 6::zb x0.Aj [.os 7,.os 8])::zp x0.Ao.Power [v2_ x0.Ao.Av,v1_ x0.Ao.A7,v1_ x0.events,v7_ x0.states]) (.tup []) (.box 119 (I r.Ao.Time :: .os 1 :: .os 2 :: .os 3 :: .os 4 :: .os 5 :: .os 6::zb r.Aj [.os 7,.os 9])::zp r.Ao.Power [v2_ r.Ao.Av,v1_ r.Ao.A7,v1_ r.events,.non,v7_ r.states]):=by
 unfold Ac4 at h
 refine co 15 Tryz.func75 λ C hC=>?_
 obtain⟨y3,h4,y5,h6,h⟩:=Ba h
 replace h:=sI h
 subst h
 exact wf [0,1,3] 23 [] [⟨.call 66 [.agg (d39 x1)] [] (.agg (d39 y3)) [.non,.non,.non,.non] [],⟨e66,(CallOk.frzAll n4_ (show CO 66 [.agg (d39 x1)] [] (.agg [.os 0,.os 1,.os 2,.os 3]) (zp y3 []) from (k66 x1 _ h4)) (by kernel_rfl))⟩⟩,pa q39 4 h6] [] 9 [0,1,2,3,4,5,6,7,8,14] hC []
theorem Apn:EN 75:=en Tryz.func75
theorem Amt (x0:Ab) (x1:Int) (x2:Int) (r:Bool) (h:Ac9 x0 x1 x2=some r):CO 166 [.agg (d39 x0),.d (I x1),.d (I x2)] [] (.d (Bo r)) []:=by
 unfold Ac9 at h
 refine co 13 Tryz.func166 λ C hC=>?_
 obtain⟨y1,h2,h⟩:=Au h
 replace h:=sI h
 subst h
 exact wr [0,1,2,3,6] 25 [] [pc Arf (Aqm x0.As (⟨x1,x2⟩:Aq) _ h2) []] [] 0 [] hC []
theorem Ano:EN 166:=en Tryz.func166
theorem Aql (x0:Aa) (x1:Int) (r:Int) (h:Akc x0 x1=some r):CO 201 [.agg (d30 x0),.d (I x1)] [] (.d (I r)) []:=by
 unfold Akc at h
 refine co 9 Tryz.func201 λ C hC=>?_
 obtain⟨y1,h2,h⟩:=Au h
 replace h:=sI h
 subst h
 exact wr n5_ 25 [] [pc Ann (Ams x0.Ag x1 _ h2) [1]] [] 0 [] hC []
theorem Are:EN 201:=en Tryz.func201
theorem Aa1 (x0:Ay) (x1:Ab) (r:Ay) (h:Q6 x0 x1=some r):CO 75 [.d (.o 0 0),.agg [.os 9,.os 10,.os 11,.os 12]] (.box 119 (I x0.Ao.Time :: .os 1 :: .os 2 :: .os 3 :: .os 4 :: .os 5 :: .os 6::zb x0.Aj [.os 7,.os 8])::zp x0.Ao.Power (v2_ x0.Ao.Av::v1_ x0.Ao.A7::v1_ x0.events::v7_ x0.states::zp x1 [])) (.tup []) (.box 119 (I r.Ao.Time :: .os 1 :: .os 2 :: .os 3 :: .os 4 :: .os 5 :: .os 6::zb r.Aj [.os 7,.os 13])::zp r.Ao.Power (v2_ r.Ao.Av::v1_ r.Ao.A7::v1_ r.events :: .non::zp x1 [v7_ r.states])):=by
 unfold Q6 at h
 refine co 15 Tryz.func75 λ C hC=>?_
 obtain⟨y3,h4,y5,h6,h⟩:=Ba h
 replace h:=sI h
 subst h
 exact wf [0,1,3] 23 [] [⟨.call 66 [.agg [.os 0,.os 1,.os 2,.os 3]] (zp x1 []) (.agg (d39 y3)) (zp x1 [.non,.non,.non,.non]) [9,10,11,12],⟨e66,(CallOk.frzAll [4,5,6,7] (show CO 66 [.agg [.os 0,.os 1,.os 2,.os 3]] (zp x1 []) (.agg [.os 4,.os 5,.os 6,.os 7]) (zp x1 (zp y3 [])) from ((k66 x1 _ h4).lend (by kernel_rfl) (by kernel_rfl) (by kernel_rfl) ⟨Bc (λ _=>rfl),Bc (λ _=>rfl),Bc (λ _=>rfl),Bc (λ _=>rfl),trivial⟩ (by kernel_rfl) (by kernel_rfl))) (by kernel_rfl))⟩⟩,pa q39 4 h6] [] 13 [0,1,2,3,4,5,6,7,8,9,10,11,12,18] hC []
theorem Abd:EN 75:=en Tryz.func75
theorem Amq (x0:List Int) (x1c0:Aa) (r:Aa) (h:qL x0 x1c0=some r):CO 190 [.d (.os 0),.d (.fn (.func 191) [] [.o 1 0])] [v0_ x0,.box 30 (d30 x1c0)] (.tup []) [v0_ x0,.box 30 (d30 r)]:=by
 unfold qL at h
 refine co 9 Tryz.func190 λ C hC=>?_
 obtain⟨y1,h2,h⟩:=Au h
 replace h:=sI h
 subst h
 exact wf [0,1] 21 [] [pl pI x0,pc Anj (Amo x0 (ln x0) x1c0 _ h2) [0,1]] [] 2 [0,1] hC []
theorem Anl:EN 190:=en Tryz.func190
theorem Amu (x0:Int) (x1:Ai) (r:Bool) (h:qO x0 x1=some r):CO 161 [.d (I x0),.d (.ip [.s (x1.Ap.map pI),.s (x1.Ac.map pI),.s (x1.Ah.map pI)])] [] (.d (Bo r)) []:=by
 unfold qO at h
 refine co 9 Tryz.func161 λ C hC=>?_
 obtain⟨y1,h2,h⟩:=Au h
 replace h:=sI h
 subst h
 exact wr [0,1,3] 25 [] [pc Ajp (Ajd x1.Ah x0 _ h2) []] [] 0 [] hC []
theorem Anp:EN 161:=en Tryz.func161
def J5:List Nat:=[0,1,4,5,6,7,8,10,26,37]
def vZ (x0:List Ar) (x1:Int) (z0:Unit):St:=[(0,.d (DS q84 x0)),(1,dI x1),(4,.d (DS q84 []))]
def zL  (z0:Unit):List Res:=[]
def vY (x0:List Ar) (x1:Int) (z1:Unit):St:=[(0,.d (DS q84 x0)),(4,.d (DS q84 [])),(6,.d (.p (.v (.int .u64 ((Mm (IntKind.wrap .u64 (ln x0)) (IntKind.wrap .u64 x1)).2)))))]
def zK  (z1:Unit):List Res:=[]
def vJ (x0:List Ar) (y3:List Ar) (z2:Unit):St:=[(4,.d (DS q84 [])),(7,dS 0),(8,dI ((Nat.min x0.length y3.length):Int))]
def Aht (x0:List Ar) (y3:List Ar) (z2:Unit):List Res:=[v2_ (Mb y3 0 y3.length x0)]
def vX  (z2:Unit):St:=[(4,.d (DS q84 [])),(7,dS 0)]
def zJ (x0:List Ar) (y3:List Ar) (z2:Unit):List Res:=[v2_ (Mb y3 0 y3.length x0)]
theorem Aqx (x0:List Ar) (x1:Int) (r:(List Ar)) (h:Akk x0 x1=some r):CO 126 [.d (DS q84 x0),.d (I x1)] [] (.d (.os 0)) [v2_ r]:=by
 unfold Akk at h
 refine co 48 Tryz.func126 λ C hC=>?_
 refine wn J5 26 [] [] [] 0 [] [0,1,4,10] hC [] ?_
 obtain⟨w0,h,hret0,hnext0⟩:=Ak h
 refine wc w0 (vZ x0 x1) (zL) ?_ λ z0 hs0=>?_
 ·unfold Aaa at h
  rcases cB h with⟨h1,h⟩ | ⟨h1,h⟩
  ·cases h
  ·exact wx w0 (vZ x0 x1) (zL) J5 23 [false] [] [] 0 [] _ hC [pq h1] (sI h).symm
 ·clear h;have h:=hnext0 _ hs0
  refine wn J5 26 [] [pl q84 x0,pc Arj (Aqq (IntKind.wrap .u64 (ln x0)) (IntKind.wrap .u64 x1) _ rfl) []] [] 0 [] [0,4,6,26] hC [] ?_
  obtain⟨w1,h,hret1,hnext1⟩:=Ak h
  refine wc w1 (vY x0 x1) (zK) ?_ λ z1 hs1=>?_
  ·unfold zZ at h
   rcases cB h with⟨h2,h⟩ | ⟨h2,h⟩
   ·cases h
   ·exact wx w1 (vY x0 x1) (zK) J5 23 [false] [] [] 0 [] _ hC [pq h2] (sI h).symm
  ·clear h;have h:=hnext1 _ hs1
   obtain⟨y3,h4,h⟩:=Au h
   refine ws J5 26 [] [⟨.room ((w64 ((Mm (IntKind.wrap .u64 (ln x0)) (IntKind.wrap .u64 x1)).2))*(16+1)) (List.replicate (Int.toNat (w64 ((Mm (IntKind.wrap .u64 (ln x0)) (IntKind.wrap .u64 x1)).2))) (q84 (⟨0,0⟩:Ar))) (y3.map q84),Gm h4⟩,⟨.cpy (x0.map q84) 2 ((y3.map q84).length) (Nat.min x0.length y3.length) ((y3.map q84).take 0++((x0.map q84).take (Nat.min x0.length y3.length)++(y3.map q84).drop (0+(Nat.min x0.length y3.length)))) ((Mb y3 0 y3.length x0).map q84),Al0 q84 2 (λ _=>rfl) rfl (by simp)⟩] [] 0 [0] (vJ x0 y3 ()) (Aht x0 y3 ()) hC [] ?_
   obtain⟨w2,hm2,hret2,hnext2⟩:=Ak h
   clear h
   refine wc w2 (vX) (zJ x0 y3) ?_ λ z2 hs2=>?_
   ·refine wb ?_
    refine ww (vJ x0 y3) (Aht x0 y3) hm2 λ z2 w2b h hb2 hr2=>?_
    unfold Aab at h
    rcases cB h with⟨h5,h⟩ | ⟨h5,h⟩
    ·cases h
    ·exact wx w2 (vX) (zJ x0 y3) J5 26 [false] [pl q84 (Mb y3 0 y3.length x0)] [] 0 [0] () hC [pq h5] (hb2 _ (sI h).symm)
   ·have h:=hnext2 _ hs2
    replace h:=sI h
    subst h
    exact wr J5 23 [] [] [] 0 [0] hC []
theorem Arq:EN 126:=en Tryz.func126
theorem Ao7 (x0:Ay) (x1:Ab) (r:Ay) (h:Ac3 x0 x1=some r):CO 75 [.d (.o 0 0),.agg [.os 1,.os 2,.os 3,.os 4]] (.box 119 (I x0.Ao.Time :: .os 1 :: .os 2 :: .os 3 :: .os 4 :: .os 5 :: .os 6::zb x0.Aj [.os 7,.os 8])::zp x0.Ao.Power [v2_ x0.Ao.Av,v1_ x0.Ao.A7,v1_ x0.events,v7_ x0.states]) (.tup []) (.box 119 (I r.Ao.Time :: .os 1 :: .os 2 :: .os 3 :: .os 4 :: .os 5 :: .os 6::zb r.Aj [.os 7,.os 9])::zp r.Ao.Power [v2_ r.Ao.Av,v1_ r.Ao.A7,v1_ r.events,.non,v7_ r.states]):=by
 unfold Ac3 at h
 refine co 15 Tryz.func75 λ C hC=>?_
 obtain⟨y3,h4,y5,h6,h⟩:=Ba h
 replace h:=sI h
 subst h
 exact wf [0,1,3] 23 [] [⟨.call 66 [.agg [.os 0,.os 1,.os 2,.os 3]] (zp x0.Ao.Power []) (.agg (d39 y3)) (zp x0.Ao.Power [.non,.non,.non,.non]) [1,2,3,4],⟨e66,(CallOk.frzAll [4,5,6,7] (show CO 66 [.agg [.os 0,.os 1,.os 2,.os 3]] (zp x0.Ao.Power []) (.agg [.os 4,.os 5,.os 6,.os 7]) (zp x0.Ao.Power (zp y3 [])) from ((k66 x0.Ao.Power _ h4).lend (by kernel_rfl) (by kernel_rfl) (by kernel_rfl) ⟨Bc (λ _=>rfl),Bc (λ _=>rfl),Bc (λ _=>rfl),Bc (λ _=>rfl),trivial⟩ (by kernel_rfl) (by kernel_rfl))) (by kernel_rfl))⟩⟩,pa q39 4 h6] [] 9 [0,1,2,3,4,5,6,7,8,14] hC []
theorem Apm:EN 75:=en Tryz.func75
theorem k26 (x0:Ad) (x1:Int) (x2:Int) (r:Int×Ad) (h:F26 x0 x1 x2=some r):CO 26 [.d (.o 0 0),.d (I x1),.d (I x2)] [.box 77 (d77 x0)] (.d (I r.1)) [.box 77 (d77 r.2)]:=by
 unfold F26 at h
 refine co 15 Tryz.func26 λ C hC=>?_
 obtain⟨y1,h2,h⟩:=Au h
 replace h:=sI h
 subst h
 exact wr [0,1,2,6] 25 [] [pc e19 (k19 x0 (w64 ((w64 (x2-x1))+1)) _ h2) [0]] [] 1 [0] hC []
theorem e26:EN 26:=en Tryz.func26
theorem k27 (x0:Ad) (x1:List Int) (r:Int×Ad) (h:F27 x0 x1=some r):CO 27 [.d (.o 0 0),.d (DS pI x1)] [.box 77 (d77 x0)] (.d (I r.1)) [.box 77 (d77 r.2)]:=by
 unfold F27 at h
 refine co 12 Tryz.func27 λ C hC=>?_
 obtain⟨y1,h2,y3,h4,h⟩:=Ba h
 replace h:=sI h
 subst h
 exact wr [0,1,4] 25 [] [pl pI x1,pc e19 (k19 x0 (ln x1) _ h2) [0],pr pI h4] [] 1 [0] hC []
theorem e27:EN 27:=en Tryz.func27
def H2:List Nat:=[0,1,2,3,4,5,6,7,9,10,14,19,29,30,31,42,43,44,45,61]
def Xi (x0:Aa) (z0:Int×(List Ae)):St:=[(2,dO 0 0),(4,dO 1 0),(5,dI 0),(7,dO 9 0),(29,dI (ln x0.Ac)),(30,dI z0.1)]
def Acv (x0:Aa) (y5:List Bool) (z0:Int×(List Ae)):List Res:=(.box 30 (d30 x0) :: .box 43 [I 0,.os 2,.os 3,.os 4,.os 5,.os 6,.os 7]::ze [v2_ ([]:List Ar),v1_ ([]:List A3),v3_ y5,.box 43 [I 0,.os 8,.os 10,.os 11,.os 12,.os 13,.os 14],v4_ z0.2,v0_ ([]:List Int),v5_ ([]:List Aq),v2_ ([]:List Ar),v1_ ([]:List A3)])
def Aew  (z0:Int×(List Ae)):St:=[(2,dO 0 0),(4,dO 1 0),(5,dI 0),(7,dO 9 0)]
def Ahm (x0:Aa) (y5:List Bool) (z0:Int×(List Ae)):List Res:=(.box 30 (d30 x0) :: .box 43 [I 0,.os 2,.os 3,.os 4,.os 5,.os 6,.os 7]::ze [v2_ ([]:List Ar),v1_ ([]:List A3),v3_ y5,.box 43 [I 0,.os 8,.os 10,.os 11,.os 12,.os 13,.os 14],v4_ z0.2,v0_ ([]:List Int),v5_ ([]:List Aq),v2_ ([]:List Ar),v1_ ([]:List A3)])
def Xh (x0:Aa) (n1:Nat) (z1:(List Int)):St:=[(2,dO 0 0),(4,dO 1 0),(5,dI 0),(7,dO 9 0),(42,.d (DS q81 x0.Ah)),(43,dI (ln x0.Ah)),(44,dI (cnt 0 n1))]
def Acu (x0:Aa) (y5:List Bool) (z0:Int×(List Ae)) (n1:Nat) (z1:(List Int)):List Res:=(.box 30 (d30 x0) :: .box 43 [I 0,.os 2,.os 3,.os 4,.os 5,.os 6,.os 7]::ze [v2_ ([]:List Ar),v1_ ([]:List A3),v3_ y5,.box 43 [I 0,.os 8,.os 10,.os 11,.os 12,.os 13,.os 14],v4_ z0.2,v0_ z1,v5_ ([]:List Aq),v2_ ([]:List Ar),v1_ ([]:List A3)])
def Aev  (z1:(List Int)):St:=[(2,dO 0 0),(4,dO 1 0),(5,dI 0),(7,dO 9 0)]
def Ahl (x0:Aa) (y5:List Bool) (z0:Int×(List Ae)) (z1:(List Int)):List Res:=(.box 30 (d30 x0) :: .box 43 [I 0,.os 2,.os 3,.os 4,.os 5,.os 6,.os 7]::ze [v2_ ([]:List Ar),v1_ ([]:List A3),v3_ y5,.box 43 [I 0,.os 8,.os 10,.os 11,.os 12,.os 13,.os 14],v4_ z0.2,v0_ z1,v5_ ([]:List Aq),v2_ ([]:List Ar),v1_ ([]:List A3)])
def Xg  (z2:Int×(List Ar)):St:=[(2,dO 0 0),(4,dO 1 0),(5,dI 0),(7,dO 9 0),(10,dI z2.1)]
def Acs (x0:Aa) (y5:List Bool) (z0:Int×(List Ae)) (z1:(List Int)) (z2:Int×(List Ar)):List Res:=(.box 30 (d30 x0) :: .box 43 [I 0,.os 2,.os 3,.os 4,.os 5,.os 6,.os 7]::ze [v2_ ([]:List Ar),v1_ ([]:List A3),v3_ y5,.box 43 [I 0,.os 8,.os 10,.os 11,.os 12,.os 13,.os 14],v4_ z0.2,v0_ z1,v5_ ([]:List Aq),v2_ z2.2,v1_ ([]:List A3)])
def Aeu  (z2:Int×(List Ar)):St:=[(4,dO 0 0),(5,dI 0),(7,dO 8 0)]
def Ahk (y5:List Bool) (z0:Int×(List Ae)) (z1:(List Int)) (z2:Int×(List Ar)):List Res:=(.box 43 [I 0,.os 1,.os 2,.os 3,.os 4,.os 5,.os 6]::ze [v2_ ([]:List Ar),v1_ ([]:List A3),v3_ y5,.box 43 [I 0,.os 7,.os 9,.os 10,.os 11,.os 12,.os 13],v4_ z0.2,v0_ z1,v5_ ([]:List Aq),v2_ z2.2,v1_ ([]:List A3)])
theorem k24 (x0:Aa) (x1:Bd) (r:Al×Int) (h:F24 x0 x1=some r):CO 24 [.agg (d30 x0),.agg (d33 x1)] [] (.tup [.agg [I r.1.Time,.os 0,.os 1,.os 2,.os 3,.os 4,.os 5],.d (I r.2)]) (zp r.1.Power [v2_ r.1.Av,v1_ r.1.A7]):=by
 unfold F24 at h
 refine co 71 Tryz.func24 λ C hC=>?_
 obtain⟨y1,h2,h⟩:=Au h
 rcases cB h with⟨h3,h⟩ | ⟨h3,h⟩
 ·cases h
 ·refine wn H2 33 [false] [pc e43 (k43 x0 _ h2) [],pc e44 (k44 x1 _ rfl) []] [.ownb 2 1 4 1,.ownb 2 2 93 4,.ownb 2 3 3 1,.ownb 2 4 96 2,.ownb 2 5 84 2,.ownb 2 6 65 5] 0 [0,2,3,4,5,6,7,8] [2,4,5,19] hC [pq h3] ?_
  rcases cB h with⟨h4,h⟩ | ⟨h4,h⟩
  ·cases h
  ·obtain⟨y5,h6,h⟩:=Au h
   refine ws H2 28 [false] [pl q70 x0.Ag,⟨.room ((ln x0.Ag)*(1+1)) (List.replicate (Int.toNat (ln x0.Ag)) (pB false)) (y5.map pB),Gm h6⟩,pl q72 x0.Ac] [.ownb 9 2 93 4,.ownb 9 3 3 1,.ownb 9 4 96 2,.ownb 9 5 84 2,.ownb 9 6 65 5] 0 C1 (Xi x0 (0,([]:List Ae))) (Acv x0 y5 (0,([]:List Ae))) hC [pq h4] ?_
   obtain⟨w0,hm0,hret0,hnext0⟩:=Ak h
   clear h
   refine wc w0 (Aew) (Ahm x0 y5) ?_ λ z0 hs0=>?_
   ·refine wb ?_
    refine ww (Xi x0) (Acv x0 y5) hm0 λ z0 w0b h hb0 hr0=>?_
    unfold Aii at h
    rcases cB h with⟨h7,h⟩ | ⟨h7,h⟩
    ·obtain⟨y8,h9,h⟩:=Au h
     exact wx w0b (Xi x0) (Acv x0 y5) H2 31 [true] [pa q93 4 h9] [] 0 [0,1,2,3,4,5,6,7,8,9,15,11,12,13,14] _ hC [pq h7] (sI h).symm
    ·exact wx w0 (Aew) (Ahm x0 y5) H2 26 [false] [] [] 0 C1 (z0.1,z0.2) hC [pq h7] (hb0 _ (sI h).symm)
   ·have h:=hnext0 _ hs0
    refine ws H2 24 [] [pl q81 x0.Ah] [] 0 C1 (Xh x0 0 ([]:List Int)) (Acu x0 y5 z0 0 ([]:List Int)) hC [] ?_
    obtain⟨w1,hm1,hret1,hnext1⟩:=Ak h
    clear h
    refine wc w1 (Aev) (Ahl x0 y5 z0) ?_ λ z1 hs1=>?_
    ·refine wb ?_
     refine Bn 42 rfl λ hl1=>?_
     refine wl (Xh x0) (Acu x0 y5 z0) hm1 (λ z1 hn1=>?_) λ n1 a1 z1 w1b hi1 hx1 h hb1 hr1=>?_
     ·clear hm1
      exact wx w1 (Aev) (Ahl x0 y5 z0) H2 26 [false] [] [] 0 C1 _ hC [pq (A6 hl1)] hn1
     ·unfold Aih at h
      obtain⟨y10,h11,h⟩:=Au h
      exact wx w1b (Xh x0 (n1+1)) (Acu x0 y5 z0 (n1+1)) H2 33 [true] [pt hx1 hl1,pa pI 1 h11] [] 0 [0,1,2,3,4,5,6,7,8,9,10,16,12,13,14] _ hC [pq (A4 hi1 hl1)] (sI h).symm
    ·have h:=hnext1 _ hs1
     refine ws H2 24 [] [] [] 0 C1 (Xg (0,([]:List Ar))) (Acs x0 y5 z0 z1 (0,([]:List Ar))) hC [] ?_
     obtain⟨w2,hm2,hret2,hnext2⟩:=Ak h
     clear h
     refine wc w2 (Aeu) (Ahk y5 z0 z1) ?_ λ z2 hs2=>?_
     ·refine wb ?_
      refine ww (Xg) (Acs x0 y5 z0 z1) hm2 λ z2 w2b h hb2 hr2=>?_
      unfold Aig at h
      rcases cB h with⟨h12,h⟩ | ⟨h12,h⟩
      ·obtain⟨y13,h14,h⟩:=Au h
       exact wx w2b (Xg) (Acs x0 y5 z0 z1) H2 31 [true] [pa q84 2 h14] [] 0 [0,1,2,3,4,5,6,7,8,9,10,11,12,15,14] _ hC [pq h12] (sI h).symm
      ·exact wx w2 (Aeu) (Ahk y5 z0 z1) H2 26 [false] [] [] 0 [1,2,3,4,5,6,7,8,9,10,11,12,13,14] (z2.1,z2.2) hC [pq h12] (hb2 _ (sI h).symm)
     ·have h:=hnext2 _ hs2
      replace h:=sI h
      subst h
      exact wr H2 23 [] [] [] 0 [7,9,10,11,12,13] hC []
theorem e24:EN 24:=en Tryz.func24
def Og:List Nat:=[0,1,2,3,4,5,35,38,39,40,52]
def Xj (x0:Al) (z0:Int):St:=[(2,dO 0 0),(3,dO 1 0),(4,dB false),(38,dI (ln x0.Av)),(39,dI z0)]
def Acw (x0:Al) (x1:Al) (z0:Int):List Res:=[.box 43 (d43 x0),.box 43 (d43 x1)]
def Aex  (z0:Int):St:=[(4,dB false)]
def Ahn  (z0:Int):List Res:=[]
theorem k17 (x0:Al) (x1:Al) (r:Bool) (h:F17 x0 x1=some r):CO 17 [.agg (d43 x0),.agg (d43 x1)] [] (.d (Bo r)) []:=by
 unfold F17 at h
 refine co 54 Tryz.func17 λ C hC=>?_
 obtain⟨y1,h2,y3,h4,h⟩:=Ba h
 refine wn Og 26 [] [pw e33 (λ hg=>k33 x0.Power x1.Power _ (A9 h2 hg)) [],pL_ [(((x0.Time != x1.Time) || (!y1)),false)] q84 x0.Av,pL_ [(((x0.Time != x1.Time) || (!y1)),false)] q84 x1.Av,pw e34 (λ hg=>k34 x0.A7 x1.A7 _ (A9 h4 hg)) []] [] 0 [0,1] [2,3,4,35] hC [] ?_
 rcases cB h with⟨h5,h⟩ | ⟨h5,h⟩
 ·replace h:=sI h
  subst h
  exact wr Og 24 [true] [] [] 0 [] hC [pq h5]
 ·refine ws Og 26 [false] [pl q84 x0.Av] [] 0 [0,1] (Xj x0 0) (Acw x0 x1 0) hC [pq h5] ?_
  obtain⟨w0,hm0,hret0,hnext0⟩:=Ak h
  clear h
  refine wc w0 (Aex) (Ahn) ?_ λ z0 hs0=>?_
  ·refine wb ?_
   refine ww (Xj x0) (Acw x0 x1) hm0 λ z0 w0b h hb0 hr0=>?_
   unfold Rc at h
   rcases cB h with⟨h6,h⟩ | ⟨h6,h⟩
   ·obtain⟨y7,h8,y9,h10,h⟩:=Ba h
    rcases cB h with⟨h11,h⟩ | ⟨h11,h⟩
    ·have hq:=hret0 _ (hr0 _ (sI h).symm)
     replace hq:=sI hq
     subst hq
     exact wr Og 35 [true,true] [pr q84 h8,pr q84 h10] [] 0 [] hC [pq h6,pq h11]
    ·exact wx w0b (Xj x0) (Acw x0 x1) Og 36 [true,false] [pr q84 h8,pr q84 h10] [] 0 [0,1] _ hC [pq h6,pq h11] (sI h).symm
   ·exact wx w0 (Aex) (Ahn) Og 26 [false] [] [] 0 [] z0 hC [pq h6] (hb0 _ (sI h).symm)
  ·have h:=hnext0 _ hs0
   replace h:=sI h
   subst h
   exact wr Og 23 [] [] [] 0 [] hC []
theorem e17:EN 17:=en Tryz.func17
def Ik:List Nat:=[0,1,2,3,4,6,16,17,18,19,28,29,44,71]
def R5 (x0:Aa) (n0:Nat) (z0:(List Int)):St:=[(1,dO 0 0),(2,dB false),(3,dS 1),(4,dS 2),(16,.d (DS q70 x0.Ag)),(17,dI (ln x0.Ag)),(18,dI (cnt 0 n0))]
def jH (x0:Aa) (y3:List (List Int)) (n0:Nat) (z0:(List Int)):List Res:=[.box 30 (d30 x0),v0_ z0,.dsl 22 1 3,.gh 1 [(3,1)] (y3.map (pL pI)) none]
def yD  (z0:(List Int)):St:=[(2,dB false),(3,dS 0),(4,dS 1)]
def zP (y3:List (List Int)) (z0:(List Int)):List Res:=[v0_ z0,.dsl 22 1 2,.gh 1 [(3,1)] (y3.map (pL pI)) none]
theorem Aq3 (x0:Aa) (r:Bool) (h:Ako x0=some r):CO 113 [.agg (d30 x0)] [] (.d (Bo r)) []:=by
 unfold Ako at h
 refine co 116 Tryz.func113 λ C hC=>?_
 obtain⟨y1,h2,y3,h4,h⟩:=Ba h
 refine ws Ik 28 [] [⟨.flts [v0_ y1,.zsl 22 1 (y3.map (pL pI))],trivial⟩,pl q72 x0.Ac,⟨.fltm 1 (.room ((ln x0.Ac)*(8+1)) (List.replicate (Int.toNat (ln x0.Ac)) (pI 0)) (y1.map pI)) (v0_ y1) (v0_ y1),⟨Gm h2,rfl⟩⟩,pl q81 x0.Ah,⟨.fltm 2 (.roomZ ((ln x0.Ah)*(24+1)) (List.replicate (Int.toNat (ln x0.Ah)) ((pL pI) ([]:List Int))) (y3.map (pL pI))) (.zsl 22 1 (y3.map (pL pI))) (.zsl 22 1 (y3.map (pL pI))),⟨Lq h4,rfl⟩⟩,pl q70 x0.Ag] [.deep 2 [(3,1)]] 0 n4_ (R5 x0 0 y1) (jH x0 y3 0 y1) hC [] ?_
 obtain⟨w0,hm0,hret0,hnext0⟩:=Ak h
 clear h
 refine wc w0 (yD) (zP y3) ?_ λ z0 hs0=>?_
 ·refine wb ?_
  refine Bn 16 rfl λ hl0=>?_
  refine wl (R5 x0) (jH x0 y3) hm0 (λ z0 hn0=>?_) λ n0 a0 z0 w0b hi0 hx0 h hb0 hr0=>?_
  ·clear hm0
   exact wx w0 (yD) (zP y3) Ik 26 [false] [] [] 0 [1,2,3] _ hC [pq (A6 hl0)] hn0
  ·unfold Aaf at h
   refine wn Ik 33 [true] [pt hx0 hl0,pc e91 (k91 a0.A 0 (w64 (x0.Ap-1)) _ rfl) []] [] 0 n5_ [1,2,3,4,6,16,17,18,28] hC [pq (A4 hi0 hl0)] ?_
   rcases cB h with⟨h5,h⟩ | ⟨h5,h⟩
   ·cases h
   ·refine wn Ik 26 [false] [⟨.when [((a0.Kind==1),true)] (.call 91 [dI a0.B,dI (w64 (a0.A+1)),dI (w64 (x0.Ap-1))] [] (dB (F91 a0.B (w64 (a0.A+1)) (w64 (x0.Ap-1)))) [] []),λ hg=>⟨e91,(k91 a0.B (w64 (a0.A+1)) (w64 (x0.Ap-1)) _ rfl)⟩⟩] [] 0 n5_ [1,2,3,4,6,16,17,18,29] hC [pq h5] ?_
    rcases cB h with⟨h6,h⟩ | ⟨h6,h⟩
    ·cases h
    ·obtain⟨y7,h8,h⟩:=Au h
     refine wn Ik 24 [false] [pL_ [((a0.Kind==2),true)] pI z0,⟨.when [((a0.Kind==2),true)] (.call 91 [dI a0.B,dI 0,dI (w64 ((ln z0)-1))] [] (.d (Bo (F91 a0.B 0 (w64 ((ln z0)-1))))) [] []),λ hg=>⟨e91,(k91 a0.B 0 (w64 ((ln z0)-1)) _ rfl)⟩⟩,pR pI h8,pN pI h8] [] 0 n5_ [1,2,3,4,6,16,17,18,44] hC [pq h6] ?_
     rcases cB h with⟨h9,h⟩ | ⟨h9,h⟩
     ·obtain⟨y10,h11,y12,h13,h⟩:=Ba h
      exact wx w0b (R5 x0 (n0+1)) (jH x0 y3 (n0+1)) Ik 26 [true] [pr pI h11,pn pI h11,pr pI h11,pu pI h11 h13] [] 0 n4_ _ hC [pq h9] (sI h).symm
     ·cases h
 ·have h:=hnext0 _ hs0
  refine wn Ik 1 [] [] [.flat 1] 0 [0,1] [2,3,4] hC [] ?_
  obtain⟨y16,h17,y18,h19,h⟩:=Ba h
  replace h:=sI h
  subst h
  exact wr Ik 22 [] [pb Ajp (Ajd z0 0 _ h17),pv Anw (λ hg=>Am1 y3 _ (A9 h19 hg))] [] 0 [] hC []
theorem Arw:EN 113:=en Tryz.func113
def Jb:List Nat:=[0,1,4,5,7,8,9,16]
def Lb (x0:List Ae) (n0:Nat) (z0:Unit):St:=[(0,.d (DS q93 x0)),(1,.d (.fn (.func 89) [] [])),(4,dI 0),(7,dI (ln x0)),(8,dI (cnt 0 n0))]
def O8  (n0:Nat) (z0:Unit):List Res:=[]
def Uc  (z0:Unit):St:=[(4,dI 0)]
def U5  (z0:Unit):List Res:=[]
theorem Ana (x0:List Ae) (r:Int) (h:uH x0=some r):CO 119 [.d (DS q93 x0),.d (.fn (.func 89) [] [])] [] (.d (I r)) []:=by
 unfold uH at h
 refine co 19 Tryz.func119 λ C hC=>?_
 refine ws Jb 26 [] [pl q93 x0] [] 0 [] (Lb x0 0 ()) (O8 0 ()) hC [] ?_
 obtain⟨w0,hm0,hret0,hnext0⟩:=Ak h
 clear h
 refine wc w0 (Uc) (U5) ?_ λ z0 hs0=>?_
 ·refine wb ?_
  refine Bn 0 rfl λ hl0=>?_
  refine wl (Lb x0) (O8) hm0 (λ z0 hn0=>?_) λ n0 a0 z0 w0b hi0 hx0 h hb0 hr0=>?_
  ·clear hm0
   exact wx w0 (Uc) (U5) Jb 26 [false] [] [] 0 [] _ hC [pq (A6 hl0)] hn0
  ·unfold Vi at h
   refine wn Jb 32 [true] [pt hx0 hl0,pc e89 (k89 a0 _ rfl) []] [] 0 [] [0,1,4,5,7,8,16] hC [pq (A4 hi0 hl0)] ?_
   rcases cB h with⟨h1,h⟩ | ⟨h1,h⟩
   ·cases h
   ·exact wx w0b (Lb x0 (n0+1)) (O8 (n0+1)) Jb 25 [false] [] [] 0 [] _ hC [pq h1] (sI h).symm
 ·have h:=hnext0 _ hs0
  replace h:=sI h
  subst h
  exact wr Jb 23 [] [] [] 0 [] hC []
theorem An6:EN 119:=en Tryz.func119
theorem Apc (x0:List Ar) (x1c0c0:Al) (r:Bool×Al) (h:Ac7 x0 x1c0c0=some r):CO 51 [.d (DS q84 x0),.d (.fn (.func 52) [] [.o 0 0])] [.box 111 [.fn (.func 48) [] [.o 1 0]],.box 43 (d43 x1c0c0)] (.d (Bo r.1)) [.box 111 [.fn (.func 48) [] [.o 1 0]],.box 43 (d43 r.2)]:=by
 unfold Ac7 at h
 refine co 9 Tryz.func51 λ C hC=>?_
 obtain⟨y1,h2,h⟩:=Au h
 replace h:=sI h
 subst h
 exact wr [0,1,4] 25 [] [pc Apo (Ao9 x0 x1c0c0 _ h2) [0,1]] [] 2 [0,1] hC []
theorem Apr:EN 51:=en Tryz.func51
theorem Aff (x0:A_) (x1:Int) (r:Bool) (h:Re x0 x1=some r):CO 175 [.d (.ip [.v (.int .i64 x0.Aj.Ap),.s (x0.Aj.Ag.map q70),.s (x0.Aj.Ac.map q72),.s (x0.Aj.Ah.map q81),.v (.int .i64 x0.Aj.Phase),.v (.int .i64 x0.Aj.An),.s (x0.Az.Am.map pB),.s (x0.Az.Ac.map q93),.s (x0.Az.Aw.map pI),.s (x0.Az.As.map q96),.v (.int .i64 x0.time)]),.d (I x1)] [] (.d (Bo r)) []:=by
 unfold Re at h
 refine co 19 Tryz.func175 λ C hC=>?_
 obtain⟨y1,h2,y3,h4,h⟩:=Ba h
 replace h:=sI h
 subst h
 exact wr [0,1,4] 25 [] [pc Are (Aql x0.Aj x1 _ h2) [],pr pB h4] [] 0 [] hC []
theorem Afy:EN 175:=en Tryz.func175
theorem P6 (x0:Int) (x1:Int) (x2:Ax) (r:Bool×Ax) (h:Jr x0 x1 x2=some r):CO 189 [.d (I x0),.d (I x1),.d (.o 0 0)] (.box 190 [.o 1 0] :: .box 214 (zb x2.Aj [.os 2,.os 3,.os 4,.os 5,.os 6])::zp x2.Az [v6_ x2.acts]) (.d (Bo r.1)) (.box 190 [.o 1 0] :: .box 214 (zb r.2.Aj [.os 2,.os 3,.os 4,.os 5,.os 6])::zp r.2.Az [v6_ r.2.acts]):=by
 unfold Jr at h
 refine co 13 Tryz.func189 λ C hC=>?_
 obtain⟨y1,h2,h⟩:=Au h
 replace h:=sI h
 subst h
 exact wr [0,1,2,5] 25 [] [pb Ano (Amt x2.Az x0 x1 _ h2)] [] 7 n7_ hC []
theorem Qf:EN 189:=en Tryz.func189
def Ho:List Nat:=[0,1,4,5,7,8,9,16]
def K2 (x0:List Int) (n0:Nat) (z0:Unit):St:=[(0,dS 0),(1,.d (.fn (.func 161) [] [.o 1 0])),(4,dI 0),(7,dI (ln x0)),(8,dI (cnt 0 n0))]
def Oz (x0:List Int) (x1c0:Ai) (n0:Nat) (z0:Unit):List Res:=[v0_ x0,.box 137 (Kf x1c0)]
def T3  (z0:Unit):St:=[(4,dI 0)]
def Uv (x0:List Int) (x1c0:Ai) (z0:Unit):List Res:=[v0_ x0,.box 137 (Kf x1c0)]
theorem Amp (x0:List Int) (x1c0:Ai) (r:Int×Ai) (h:qK x0 x1c0=some r):CO 192 [.d (.os 0),.d (.fn (.func 161) [] [.o 1 0])] [v0_ x0,.box 137 (Kf x1c0)] (.d (I r.1)) [v0_ x0,.box 137 (Kf r.2)]:=by
 unfold qK at h
 refine co 19 Tryz.func192 λ C hC=>?_
 refine ws Ho 26 [] [pl pI x0] [] 2 [0,1] (K2 x0 0 ()) (Oz x0 x1c0 0 ()) hC [] ?_
 obtain⟨w0,hm0,hret0,hnext0⟩:=Ak h
 clear h
 refine wc w0 (T3) (Uv x0 x1c0) ?_ λ z0 hs0=>?_
 ·refine wb ?_
  refine Cc 0 0 rfl rfl λ hl0=>?_
  refine wl (K2 x0) (Oz x0 x1c0) hm0 (λ z0 hn0=>?_) λ n0 a0 z0 w0b hi0 hx0 h hb0 hr0=>?_
  ·clear hm0
   exact wx w0 (T3) (Uv x0 x1c0) Ho 26 [false] [] [] 2 [0,1] _ hC [pq (A6 hl0)] hn0
  ·unfold U9 at h
   obtain⟨y1,h2,h⟩:=Au h
   refine wn Ho 32 [true] [pr pI (Bj hx0 hl0),pn pI (Bj hx0 hl0),pb Anp (Amu a0 x1c0 _ h2)] [] 2 [0,1] [0,1,4,5,7,8,16] hC [pq (A4 hi0 hl0)] ?_
   rcases cB h with⟨h3,h⟩ | ⟨h3,h⟩
   ·have hq:=hret0 _ (hr0 _ (sI h).symm)
    replace hq:=sI hq
    subst hq
    exact wr Ho 24 [true] [] [] 2 [0,1] hC [pq h3]
   ·exact wx w0b (K2 x0 (n0+1)) (Oz x0 x1c0 (n0+1)) Ho 25 [false] [] [] 2 [0,1] _ hC [pq h3] (sI h).symm
 ·have h:=hnext0 _ hs0
  replace h:=sI h
  subst h
  exact wr Ho 23 [] [] [] 2 [0,1] hC []
theorem Ank:EN 192:=en Tryz.func192
theorem Aq6 (x0:Int) (r:(List Ar)) (h:Akq x0=some r):CO 105 [.d (I x0)] [] (.d (.os 0)) [v2_ r]:=by
 unfold Akq at h
 refine co 7 Tryz.func105 λ C hC=>?_
 obtain⟨y1,h2,h⟩:=Au h
 replace h:=sI h
 subst h
 exact wr [0,2] 25 [] [pc Arq (Aqx [(⟨(-1),(-1)⟩:Ar)] x0 _ h2) []] [] 0 [0] hC []
theorem Arz:EN 105:=en Tryz.func105
def D8:List Nat:=[0,2,3,4,5,6,7,8,9,10,11,24,29,47,60,96,121,155]
def Pq  (z0:Sg2):St:=[(0,dO 0 0),(2,dO 1 0),(3,dO 2 0),(4,dI z0.1)]
def V4 (y1:Int×Ad) (y3:Int×Ad) (y5:Int×Ad) (z0:Sg2):List Res:=[.box 77 [DS pI z0.2.1,I z0.2.2.1],.box 30 [I 0,.os 3,.os 4,.os 5,I 0,I 0],.box 30 [I y1.1,.os 6,.os 7,.os 8,I y3.1,I y5.1],v8_ ([]:List Af),v9_ ([]:List A8),Fa ([]:List A1),v8_ (D3 z0),v9_ ([]:List A8),Fa ([]:List A1)]
def Ae1  (z0:Sg2):St:=[(0,dO 0 0),(2,dO 1 0),(3,dO 2 0)]
def Ahr (y1:Int×Ad) (y3:Int×Ad) (y5:Int×Ad) (z0:Sg2):List Res:=[.box 77 [DS pI z0.2.1,I z0.2.2.1],.box 30 [I 0,.os 3,.os 4,.os 5,I 0,I 0],.box 30 [I y1.1,.os 6,.os 7,.os 8,I y3.1,I y5.1],v8_ ([]:List Af),v9_ ([]:List A8),Fa ([]:List A1),v8_ (D3 z0),v9_ ([]:List A8),Fa ([]:List A1)]
def X5  (z1:(List Af)):St:=[(0,dO 0 0),(2,dO 1 0),(3,dO 2 0)]
def Z4 (y1:Int×Ad) (y3:Int×Ad) (y5:Int×Ad) (y15:Int×Ad) (z1:(List Af)):List Res:=[.box 77 (d77 y15.2),.box 30 [I 0,.os 3,.os 4,.os 5,I 0,I 0],.box 30 [I y1.1,.os 6,.os 7,.os 8,I y3.1,I y5.1],v8_ ([]:List Af),v9_ ([]:List A8),Fa ([]:List A1),v8_ z1,v9_ ([]:List A8),Fa ([]:List A1)]
def Xl  (z2:Sg4):St:=[(0,dO 0 0),(2,dO 1 0),(3,dO 2 0),(5,dI z2.1)]
def Acy (y1:Int×Ad) (y3:Int×Ad) (y5:Int×Ad) (z2:Sg4):List Res:=[.box 77 [DS pI z2.2.1,I z2.2.2.1],.box 30 [I 0,.os 3,.os 4,.os 5,I 0,I 0],.box 30 [I y1.1,.os 6,.os 7,.os 8,I y3.1,I y5.1],v8_ ([]:List Af),v9_ ([]:List A8),Fa ([]:List A1),v8_ (g3_ z2),v9_ (Fm z2),Fa ([]:List A1)]
def Ae0  (z2:Sg4):St:=[(0,dO 0 0),(2,dO 1 0),(3,dO 2 0)]
def Ahq (y1:Int×Ad) (y3:Int×Ad) (y5:Int×Ad) (z2:Sg4):List Res:=[.box 77 [DS pI z2.2.1,I z2.2.2.1],.box 30 [I 0,.os 3,.os 4,.os 5,I 0,I 0],.box 30 [I y1.1,.os 6,.os 7,.os 8,I y3.1,I y5.1],v8_ ([]:List Af),v9_ ([]:List A8),Fa ([]:List A1),v8_ (g3_ z2),v9_ (Fm z2),Fa ([]:List A1)]
def Pp  (z3:Sg3):St:=[(0,dO 0 0),(2,dO 1 0),(3,dO 2 0),(7,dI z3.1)]
def V3 (y1:Int×Ad) (y3:Int×Ad) (y5:Int×Ad) (z2:Sg4) (z3:Sg3):List Res:=[.box 77 [DS pI z3.2.1,I z3.2.2.1],.box 30 [I 0,.os 3,.os 4,.os 5,I 0,I 0],.box 30 [I y1.1,.os 6,.os 7,.os 8,I y3.1,I y5.1],v8_ ([]:List Af),v9_ ([]:List A8),Fa ([]:List A1),v8_ (g3_ z3),v9_ (Fm z2),Fa (Fm z3)]
def Aez  (z3:Sg3):St:=[(2,dO 1 0),(3,dO 2 0)]
def Ahp (y1:Int×Ad) (y3:Int×Ad) (y5:Int×Ad) (z2:Sg4) (z3:Sg3):List Res:=[.box 77 [DS pI z3.2.1,I z3.2.2.1],.box 30 [I 0,.os 3,.os 4,.os 5,I 0,I 0],.box 30 [I y1.1,.os 6,.os 7,.os 8,I y3.1,I y5.1],v8_ ([]:List Af),v9_ ([]:List A8),Fa ([]:List A1),v8_ (g3_ z3),v9_ (Fm z2),Fa (Fm z3)]
def X4 (z3:Sg3) (z4:(List Af)):St:=[(0,dO 0 0),(2,dO 1 0),(3,dO 2 0),(7,dI z3.1),(8,dI (ln (Fm z3)))]
def Z3 (y1:Int×Ad) (y3:Int×Ad) (y5:Int×Ad) (z2:Sg4) (z3:Sg3) (y42:Int×Ad) (z4:(List Af)):List Res:=[.box 77 (d77 y42.2),.box 30 [I 0,.os 3,.os 4,.os 5,I 0,I 0],.box 30 [I y1.1,.os 8,.os 6,.os 7,I y3.1,I y5.1],v8_ ([]:List Af),v9_ ([]:List A8),Fa ([]:List A1),v9_ (Fm z2),Fa (Fm z3),v8_ z4]
set_option maxHeartbeats 4000000 in
theorem k10 (x0 : Ad) (r : Aa × Ad) (h : F10 x0 = some r) : CO 10 [.d (.o 0 0)] [.box 77 (d77 x0)] (.agg [I r.1.Ap, .os 1, .os 2, .os 3, I r.1.Phase, I r.1.An]) (.box 77 (d77 r.2) :: zs r.1 []) := by
 unfold F10 at h
 refine co 168 Tryz.func10 λ C hC=>?_
 obtain⟨y1,h2,y3,h4,y5,h6,h⟩:=Cg h
 refine ws D8 28 [] [pc e26 (k26 x0 1 4 _ h2) [0],pc e27 (k27 y1.2 [0,50,200,1800] _ h4) [0],pc e27 (k27 y3.2 [0,10,50] _ h6) [0]] [.ownb 1 1 70 3,.ownb 1 2 72 3,.ownb 1 3 81 5,.ownb 2 1 70 3,.ownb 2 2 72 3,.ownb 2 3 81 5] 1 n9_ (Pq (1,y5.2.L,y5.2.At,([]:List Af))) (V4 y1 y3 y5 (1,y5.2.L,y5.2.At,([]:List Af))) hC [] ?_
 obtain⟨w0,hm0,hret0,hnext0⟩:=Ak h
 clear h
 refine wc w0 (Ae1) (Ahr y1 y3 y5) ?_ λ z0 hs0=>?_
 ·refine wb ?_
  refine ww (Pq) (V4 y1 y3 y5) hm0 λ z0 w0b h hb0 hr0=>?_
  unfold Ri at h
  rcases cB h with⟨h7,h⟩ | ⟨h7,h⟩
  ·obtain⟨y8,h9,h⟩:=Au h
   rcases cB h with⟨h10,h⟩ | ⟨h10,h⟩
   ·obtain⟨y11,h12,y13,h14,h⟩:=Ba h
    exact wx w0b (Pq) (V4 y1 y3 y5) D8 34 [true,true] [pc e19 (k19 (⟨z0.2.1,z0.2.2.1⟩:Ad) 6 _ h9) [0],pc e19 (k19 y8.2 z0.1 _ h12) [0],pa q70 3 h14] [] 1 [0,1,2,3,4,5,9,7,8] _ hC [pq h7,pq h10] (sI h).symm
   ·exact wx w0b (Pq) (V4 y1 y3 y5) D8 34 [true,false] [pc e19 (k19 (⟨z0.2.1,z0.2.2.1⟩:Ad) 6 _ h9) [0]] [] 1 n9_ _ hC [pq h7,pq h10] (sI h).symm
  ·exact wx w0 (Ae1) (Ahr y1 y3 y5) D8 26 [false] [] [] 1 n9_ (z0.1,z0.2.1,z0.2.2.1,(D3 z0)) hC [pq h7] (hb0 _ (sI h).symm)
 ·have h := hnext0 _ hs0
  obtain⟨y15,h16,h⟩:=Au h
  refine wn D8 24 [] [⟨.whenR [(decide (y1.1>2),true)] (.call 19 [dO 0 0,dI 2] [.box 77 [DS pI z0.2.1,I z0.2.2.1]] (dI y15.1) [.box 77 (d77 y15.2)] [0]),⟨λ hg=>⟨e19,(k19 (⟨z0.2.1,z0.2.2.1⟩:Ad) 2 _ (A9 h16 hg))⟩,λ hg=>by have e:=E5 h16 hg;subst e;rfl⟩⟩] [] 1 n9_ [0,2,3,47] hC [] ?_
  obtain⟨w1,h,hret1,hnext1⟩:=Ak h
  refine wc w1 (X5) (Z4 y1 y3 y5 y15) ?_ λ z1 hs1=>?_
  ·unfold uK at h
   rcases cB h with⟨h17,h⟩ | ⟨h17,h⟩
   ·obtain⟨y18,h19,h⟩:=Au h
    exact wx w1 (X5) (Z4 y1 y3 y5 y15) D8 23 [true] [pa q70 3 h19] [] 1 [0,1,2,3,4,5,9,7,8] _ hC [pq h17] (sI h).symm
   ·exact wx w1 (X5) (Z4 y1 y3 y5 y15) D8 23 [false] [] [] 1 n9_ _ hC [pq h17] (sI h).symm
  ·clear h;have h:=hnext1 _ hs1
   obtain⟨y20,h21,h⟩:=Au h
   refine ws D8 24 [] [pc e19 (k19 y15.2 5 _ h21) [0]] [] 1 n9_ (Xl (y20.1,y20.2.L,y20.2.At,z1,([]:List A8))) (Acy y1 y3 y5 (y20.1,y20.2.L,y20.2.At,z1,([]:List A8))) hC [] ?_
   obtain⟨w2,hm2,hret2,hnext2⟩:=Ak h
   clear h
   refine wc w2 (Ae0) (Ahq y1 y3 y5) ?_ λ z2 hs2=>?_
   ·refine wb ?_
    refine ww (Xl) (Acy y1 y3 y5) hm2 λ z2 w2b h hb2 hr2=>?_
    unfold Rh at h
    rcases cB h with⟨h22,h⟩ | ⟨h22,h⟩
    ·obtain⟨y23,h24,y25,h26,y27,h28,y29,h30,h⟩:=Dt h
     obtain⟨y31,h32,y33,h34,h⟩:=Ba h
     exact wx w2b (Xl) (Acy y1 y3 y5) D8 35 [true] [pc e19 (k19 (⟨z2.2.1,z2.2.2.1⟩:Ad) y1.1 _ h24) [0],pl q72 (Fm z2),pa q70 3 h26,pc e27 (k27 y23.2 [10,50,100] _ h28) [0],pc e27 (k27 y27.2 [0,5,y27.1] _ h30) [0],pc e27 (k27 y29.2 [0,1,3] _ h32) [0],pa q72 3 h34] [] 1 [0,1,2,3,4,5,9,10,8] _ hC [pq h22] (sI h).symm
    ·exact wx w2 (Ae0) (Ahq y1 y3 y5) D8 26 [false] [] [] 1 n9_ (z2.1,z2.2.1,z2.2.2.1,(g3_ z2),(Fm z2)) hC [pq h22] (hb2 _ (sI h).symm)
   ·have h:=hnext2 _ hs2
    obtain⟨y35,h36,h⟩:=Au h
    refine ws D8 24 [] [pc e19 (k19 (⟨z2.2.1,z2.2.2.1⟩:Ad) 6 _ h36) [0]] [] 1 n9_ (Pp (y35.1,y35.2.L,y35.2.At,(g3_ z2),([]:List A1))) (V3 y1 y3 y5 z2 (y35.1,y35.2.L,y35.2.At,(g3_ z2),([]:List A1))) hC [] ?_
    obtain⟨w3,hm3,hret3,hnext3⟩:=Ak h
    clear h
    refine wc w3 (Aez) (Ahp y1 y3 y5 z2) ?_ λ z3 hs3=>?_
    ·refine wb ?_
     refine ww (Pp) (V3 y1 y3 y5 z2) hm3 λ z3 w3b h hb3 hr3=>?_
     unfold Rg at h
     rcases cB h with⟨h37,h⟩ | ⟨h37,h⟩
     ·obtain⟨y38,h39,y40,h41,y42,h43,h⟩:=Cg h
      refine wn D8 37 [true] [pl q81 (Fm z3),pc e19 (k19 (⟨z3.2.1,z3.2.2.1⟩:Ad) y1.1 _ h39) [0],pa q70 3 h41,⟨.whenR [(decide (y1.1>1),true)] (.call 19 [dO 0 0,dI 4] [.box 77 (d77 y38.2)] (dI y42.1) [.box 77 (d77 y42.2)] [0]),⟨λ hg=>⟨e19,(k19 y38.2 4 _ (A9 h43 hg))⟩,λ hg=>by have e:=E5 h43 hg;subst e;rfl⟩⟩] [] 1 [0,1,2,3,4,5,7,8,9] [0,2,3,7,8,9,121] hC [pq h37] ?_
      obtain⟨w4,h,hret4,hnext4⟩:=Ak h
      refine wc w4 (X4 z3) (Z3 y1 y3 y5 z2 z3 y42) ?_ λ z4 hs4=>?_
      ·unfold uJ at h
       rcases cB h with⟨h44,h⟩ | ⟨h44,h⟩
       ·obtain⟨u46,h45,y47,h48,h⟩:=Ba h
        exact wx w4 (X4 z3) (Z3 y1 y3 y5 z2 z3 y42) D8 23 [true] [⟨.nz y1.1,Yd h45⟩,pa q70 3 h48] [] 1 [0,1,2,3,4,5,6,7,9] _ hC [pq h44] (sI h).symm
       ·exact wx w4 (X4 z3) (Z3 y1 y3 y5 z2 z3 y42) D8 23 [false] [] [] 1 n9_ _ hC [pq h44] (sI h).symm
      ·clear h;have h:=hnext4 _ hs4
       obtain⟨y49,h50,y51,h52,y53,h54,h⟩:=Cg h
       obtain⟨y55,h56,y57,h58,h⟩:=Ba h
       refine wn D8 28 [] [pc e27 (k27 y42.2 [0,5,20,40] _ h50) [0],⟨.nz 2,Yc rfl⟩,pc e27 (k27 y49.2 [0,w64 (Int.tdiv y49.1 2),y49.1] _ h52) [0],pc e19 (k19 y51.2 3 _ h54) [0],pc e26 (k26 y53.2 (-1) 2 _ h56) [0],⟨.whenR [(decide ((ln (Fm z3))>0),true)] (.call 19 [dO 0 0,dI 4] [.box 77 (d77 y55.2)] (dI y57.1) [.box 77 (d77 y57.2)] [0]),⟨λ hg=>⟨e19,(k19 y55.2 4 _ (A9 h58 hg))⟩,λ hg=>by have e:=E5 h58 hg;subst e;rfl⟩⟩] [.ownb 9 4 3 1] 1 Aau [0,2,3,7,8,11,155] hC [] ?_
       rcases cB h with⟨h59,h⟩ | ⟨h59,h⟩
       ·obtain⟨y60,h61,y62,h63,h⟩:=Ba h
        exact wx w3b (Pp) (V3 y1 y3 y5 z2) D8 26 [true] [pc e19 (k19 y57.2 (ln (Fm z3)) _ h61) [0],pa q81 5 h63] [] 1 [0,1,2,3,4,5,8,6,11] _ hC [pq h59] (sI h).symm
       ·refine wn D8 2 [false] [] [.frz 10] 1 Gl [0,2,3,7,11] hC [pq h59] ?_
        obtain⟨y64,h65,h⟩:=Au h
        exact wx w3b (Pp) (V3 y1 y3 y5 z2) D8 24 [] [pa q81 5 h65] [] 1 [0,1,2,3,4,5,8,6,10] _ hC [] (sI h).symm
     ·exact wx w3 (Aez) (Ahp y1 y3 y5 z2) D8 26 [false] [] [] 1 n9_ (z3.1,z3.2.1,z3.2.2.1,(g3_ z3),(Fm z3)) hC [pq h37] (hb3 _ (sI h).symm)
    ·have h:=hnext3 _ hs3
     replace h:=sI h
     subst h
     exact wr D8 23 [] [] [] 1 [0,6,7,8] hC []
theorem e10:EN 10:=en Tryz.func10
end Go.Proofs.YtpdbkiafikdgpaaGreatDoor
