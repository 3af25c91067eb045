import Derived.Test.YtiaaaghdkhnonaaGreatRows
import Derived.Test.YtiaaaghdkhnonaaGreatMo
import Derived.Test.YtiaaaghdkhnonaaGreatSlJ2
import Derived.Test.YtiaaaghdkhnonaaGreatIn
import Derived.Test.YtiaaaghdkhnonaaGreatFo
set_option linter.unusedVariables false
set_option maxHeartbeats 4000000
namespace Go.Proofs.YtiaaaghdkhnonaaGreat
open Go.SL
abbrev v0_ (l:List Int):Res:=.sl 3 1 (l.map pI)
abbrev v1_ (l:List Ab):Res:=.sl 88 2 (l.map q88)
abbrev v2_ (l:List Bu):Res:=.sl 217 5 (l.map Er)
abbrev v3_ (l:List Aw):Res:=.sl 133 3 (l.map E4)
abbrev v4_ (l:List Aj):Res:=.sl 160 4 (l.map Bf)
abbrev v5_ (l:List Bool):Res:=.sl 4 1 (l.map pB)
abbrev v6_ (l:List A9):Res:=.sl 141 2 (l.map Cs)
abbrev v7_ (l:List Ay):Res:=.sl 104 6 (l.map Ej)
abbrev v8_ (l:List Ad):Res:=.sl 64 4 (l.map q64)
abbrev v9_ (l:List A6):Res:=.sl 156 4 (l.map Es)
abbrev Jk (l:List Bn):Res:=.sl 166 2 (l.map Gk)
abbrev Jj (l:List B5):Res:=.sl 346 3 (l.map G4)
abbrev L8 (l:List Ak):Res:=.sl 168 3 (l.map Bs)
abbrev Qn (l:List Ap):Res:=.sl 237 3 (l.map Br)
abbrev Oy (l:List Il):Res:=.sl 252 4 (l.map Z6)
abbrev Si (l:List A7):Res:=.sl 172 5 (l.map B0)
abbrev Wn (l:List Cf):Res:=.sl 305 2 (l.map F_)
abbrev CO:=CallOk Tryz.prog
abbrev EN:=Em Tryz.prog
abbrev Dx {α0 α1 α2 α3:Type} (z:α0×α1×α2×α3):α3:=z.2.2.2
abbrev g3_ {α0 α1 α2 α3 α4:Type} (z:α0×α1×α2×α3×α4):α3:=z.2.2.2.1
abbrev qA {α0 α1 α2 α3 α4:Type} (z:α0×α1×α2×α3×α4):α4:=z.2.2.2.2
abbrev g4_ {α0 α1 α2 α3 α4 α5:Type} (z:α0×α1×α2×α3×α4×α5):α4:=z.2.2.2.2.1
abbrev Aya {α0 α1 α2 α3 α4 α5:Type} (z:α0×α1×α2×α3×α4×α5):α5:=z.2.2.2.2.2
abbrev g5_ {α0 α1 α2 α3 α4 α5 α6:Type} (z:α0×α1×α2×α3×α4×α5×α6):α5:=z.2.2.2.2.2.1
abbrev Arh {α0 α1 α2 α3 α4 α5 α6:Type} (z:α0×α1×α2×α3×α4×α5×α6):α6:=z.2.2.2.2.2.2
abbrev g6_ {α0 α1 α2 α3 α4 α5 α6 α7:Type} (z:α0×α1×α2×α3×α4×α5×α6×α7):α6:=z.2.2.2.2.2.2.1
abbrev jV {α0 α1 α2 α3 α4 α5 α6 α7:Type} (z:α0×α1×α2×α3×α4×α5×α6×α7):α7:=z.2.2.2.2.2.2.2
abbrev g7_ {α0 α1 α2 α3 α4 α5 α6 α7 α8:Type} (z:α0×α1×α2×α3×α4×α5×α6×α7×α8):α7:=z.2.2.2.2.2.2.2.1
abbrev Ai0 {α0 α1 α2 α3 α4 α5 α6 α7 α8:Type} (z:α0×α1×α2×α3×α4×α5×α6×α7×α8):α8:=z.2.2.2.2.2.2.2.2
abbrev g8_ {α0 α1 α2 α3 α4 α5 α6 α7 α8 α9:Type} (z:α0×α1×α2×α3×α4×α5×α6×α7×α8×α9):α8:=z.2.2.2.2.2.2.2.2.1
abbrev g9_ {α0 α1 α2 α3 α4 α5 α6 α7 α8 α9 α10:Type} (z:α0×α1×α2×α3×α4×α5×α6×α7×α8×α9×α10):α9:=z.2.2.2.2.2.2.2.2.2.1
abbrev Lj {α0 α1 α2 α3 α4 α5 α6 α7 α8 α9 α10:Type} (z:α0×α1×α2×α3×α4×α5×α6×α7×α8×α9×α10):α10:=z.2.2.2.2.2.2.2.2.2.2
abbrev O5 {α0 α1 α2 α3 α4 α5 α6 α7 α8 α9 α10 α11:Type} (z:α0×α1×α2×α3×α4×α5×α6×α7×α8×α9×α10×α11):α10:=z.2.2.2.2.2.2.2.2.2.2.1
abbrev Ol {α0 α1 α2 α3 α4 α5 α6 α7 α8 α9 α10 α11:Type} (z:α0×α1×α2×α3×α4×α5×α6×α7×α8×α9×α10×α11):α11:=z.2.2.2.2.2.2.2.2.2.2.2
abbrev Ayf {α0 α1 α2 α3 α4 α5 α6 α7 α8 α9 α10 α11 α12:Type} (z:α0×α1×α2×α3×α4×α5×α6×α7×α8×α9×α10×α11×α12):α11:=z.2.2.2.2.2.2.2.2.2.2.2.1
abbrev Aye {α0 α1 α2 α3 α4 α5 α6 α7 α8 α9 α10 α11 α12 α13:Type} (z:α0×α1×α2×α3×α4×α5×α6×α7×α8×α9×α10×α11×α12×α13):α12:=z.2.2.2.2.2.2.2.2.2.2.2.2.1
abbrev Ayd {α0 α1 α2 α3 α4 α5 α6 α7 α8 α9 α10 α11 α12 α13 α14:Type} (z:α0×α1×α2×α3×α4×α5×α6×α7×α8×α9×α10×α11×α12×α13×α14):α13:=z.2.2.2.2.2.2.2.2.2.2.2.2.2.1
abbrev Ayc {α0 α1 α2 α3 α4 α5 α6 α7 α8 α9 α10 α11 α12 α13 α14 α15:Type} (z:α0×α1×α2×α3×α4×α5×α6×α7×α8×α9×α10×α11×α12×α13×α14×α15):α14:=z.2.2.2.2.2.2.2.2.2.2.2.2.2.2.1
abbrev Ayb {α0 α1 α2 α3 α4 α5 α6 α7 α8 α9 α10 α11 α12 α13 α14 α15 α16:Type} (z:α0×α1×α2×α3×α4×α5×α6×α7×α8×α9×α10×α11×α12×α13×α14×α15×α16):α15:=z.2.2.2.2.2.2.2.2.2.2.2.2.2.2.2.1
abbrev Atz {α0 α1 α2 α3 α4 α5 α6 α7 α8 α9 α10 α11 α12 α13 α14 α15 α16:Type} (z:α0×α1×α2×α3×α4×α5×α6×α7×α8×α9×α10×α11×α12×α13×α14×α15×α16):α16:=z.2.2.2.2.2.2.2.2.2.2.2.2.2.2.2.2
theorem sI {α:Type} {a b:α} (h:some a=some b):a=b:=bc h
abbrev zb (b:Aa) (l:List D):List D:=I b.Am::DS Bs b.Ah::DS Cd b.Ae::DS B0 b.Ag::I b.Phase::I b.Aq::l
abbrev zp (p:Ad) (l:List Res):List Res:=.sl 4 1 (p.Ai.map pB) :: .sl 160 4 (p.Ae.map Bf) :: .sl 3 1 (p.An.map pI) :: .sl 88 2 (p.Al.map q88)::l
abbrev ze (l:List Res):List Res:=.sl 4 1 (([]:List Bool).map pB) :: .sl 160 4 (([]:List Aj).map Bf) :: .sl 3 1 (([]:List Int).map pI) :: .sl 88 2 (([]:List Ab).map q88)::l
abbrev zs (b:Aa) (l:List Res):List Res:=.sl 168 3 (b.Ah.map Bs) :: .sl 170 3 (b.Ae.map Cd) :: .sl 172 5 (b.Ag.map B0)::l
abbrev n3_:List Nat:=[0,1,2]
abbrev n4_:List Nat:=[0,1,2,3]
abbrev n5_:List Nat:=[0,1,2,3,4]
abbrev n6_:List Nat:=[0,1,2,3,4,5]
abbrev n7_:List Nat:=[0,1,2,3,4,5,6]
abbrev n8_:List Nat:=[0,1,2,3,4,5,6,7]
abbrev n9_:List Nat:=[0,1,2,3,4,5,6,7,8]
abbrev Ia:List Nat:=[0,1,2,3,4,5,6,7,8,9]
abbrev O2:List Nat:=[0,1,2,3,4,5,6,7,8,9,10]
abbrev Eu:List Nat:=[0,1,2,3,4,5,6,7,8,9,10,11]
abbrev E5:List Nat:=[0,1,2,3,4,5,6,7,8,9,10,11,12]
abbrev Aqx:List Nat:=[0,1,2,3,4,5,6,7,8,9,10,11,12,13]
abbrev D6:List Nat:=[0,1,2,3,4,5,6,7,8,9,10,11,12,13,14]
abbrev Jo:List Nat:=[0,1,2,3,4,5,6,7,8,9,10,11,12,13,14,15]
abbrev Axu:List Nat:=[0,1,2,3,4,5,6,7,8,9,10,11,12,13,14,15,16,17,18]
abbrev A3g:List Nat:=[0,1,2,3,4,5,6,7,8,9,10,11,12,13,14,15,16,17,18,19,20]
abbrev A3f:List Nat:=[0,1,2,3,4,5,6,7,8,9,10,11,12,13,14,15,16,17,18,19,20,21]
abbrev Aqw:List Nat:=[0,1,2,3,4,5,6,7,8,9,10,11,12,13,14,15,16,17,18,19,20,21,22]
abbrev Axt:List Nat:=[0,1,2,3,4,5,6,7,8,9,10,11,12,13,14,15,16,17,18,19,20,21,22,23,24,25]
abbrev Aqv:List Nat:=[0,1,2,3,4,5,6,7,8,9,10,11,12,13,14,15,16,17,18,19,20,21,22,23,24,25,26,27,28,29,30,31,32,33,34,35,36,37,38]
abbrev Aio:List Nat:=[0,1,2,3,4,5,6,7,8,9,10,11,12,13,14,15,16,17,18,19,20,21,22,23,24,25,26,27,28,29,30,31,32,33,34,35,36,37,38,39]
abbrev A3e:List Nat:=[0,1,2,3,4,5,6,7,8,9,10,11,12,13,14,15,16,17,18,19,20,21,22,23,24,25,26,27,28,29,30,31,32,33,34,35,36,37,38,39,40]
abbrev A3d:List Nat:=[0,1,2,3,4,5,6,7,8,9,10,11,12,13,14,15,16,17,18,19,20,21,22,23,24,25,26,27,28,29,30,31,32,33,34,35,36,37,38,39,40,41,42]
abbrev A3c:List Nat:=[0,1,2,3,4,5,6,7,8,9,10,11,12,13,14,15,16,17,18,19,20,21,22,23,24,25,26,27,28,29,30,31,32,33,34,35,36,37,38,39,40,41,42,43,44,45]
abbrev Fk (f:FuncId) (args:List AV) (R:List Res) {φ:Type} (res:φ->AV) (R2:φ->List Res) (o:Option φ):Prop:=FnOk Tryz.prog f args R res R2 o
abbrev Fv (f:FuncId) (args:List AV) {φ:Type} (res:φ->AV) (o:Option φ):Prop:=FnOk Tryz.prog f args [] res (λ _=>[]) o
instance:Ec Hd:=⟨q28⟩
instance:Ec Lc:=⟨q30⟩
instance:Ec Cf:=⟨F_⟩
instance:Ec Ay:=⟨Ej⟩
instance:Ec Ak:=⟨Bs⟩
instance:Ec B1:=⟨Cd⟩
instance:Ec A7:=⟨B0⟩
instance:Ec Ab:=⟨q88⟩
instance:Ec A6:=⟨Es⟩
instance:Ec Bn:=⟨Gk⟩
instance:Ec Dm:=⟨Kh⟩
instance:Ec Il:=⟨Z6⟩
instance:Ec Aj:=⟨Bf⟩
instance:Ec Ad:=⟨q64⟩
instance:Ec A9:=⟨Cs⟩
instance:Ec Aw:=⟨E4⟩
instance:Ec Bu:=⟨Er⟩
instance:Ec Ap:=⟨Br⟩
instance:Ec Cg:=⟨Ep⟩
instance:Ec B5:=⟨G4⟩
instance:Ec Be:=⟨q98⟩
theorem mixed:Tryz.prog.follows .mixedOrders=true:=by kernel_rfl
abbrev PC:={c:Cl // Cl.ok Tryz.prog c}
abbrev PB:={p:Bool×Bool // p.1=p.2}
theorem okP:∀ l:List PC,C1 Tryz.prog (l.map (·.1))
 | []=>trivial
 | c::l=>⟨c.2,okP l⟩
theorem okB:∀ l:List PB,Dc (l.map (·.1))
 | []=>trivial
 | ⟨(_,_),h⟩::l=>⟨h,okB l⟩
def pq {a b:Bool} (h:a=b):PB:=⟨(a,b),h⟩
def pc {f:FuncId} {args:List AV} {R R2:List Res} {res:AV} (e:Em Tryz.prog f) (k:CallOk Tryz.prog f args R res R2) (pi:List Nat):PC:=⟨.call f args R res R2 pi,e,k⟩
def pb {f:FuncId} {args:List AV} {res:AV} (e:Em Tryz.prog f) (k:CallOk Tryz.prog f args [] res []):PC:=⟨.callB f args res [[]] 0 [],Ez ⟨e,k⟩⟩
def pw {g:List (Bool×Bool)} {f:FuncId} {args:List AV} {R R2:List Res} {res:AV} (e:Em Tryz.prog f) (k:Dc g->CallOk Tryz.prog f args R res R2) (pi:List Nat):PC:=⟨.when g (.call f args R res R2 pi),λ h=>⟨e,k h⟩⟩
def pv {g:List (Bool×Bool)} {f:FuncId} {args:List AV} {res:AV} (e:Em Tryz.prog f) (k:Dc g->CallOk Tryz.prog f args [] res []):PC:=⟨.when g (.callB f args res [[]] 0 []),λ h=>Ez ⟨e,k h⟩⟩
section
variable {α:Type}
def pl (q:α->List Pd) (l:List α):PC:=⟨.len ((l.map q).length:Int) (l.length:Int),G5 l q⟩
def pL_ (g:List (Bool×Bool)) (q:α->List Pd) (l:List α):PC:=⟨.when g (.len ((l.map q).length:Int) (l.length:Int)),λ _=>G5 l q⟩
def pr (q:α->List Pd) {l:List α} {n:Int} {x:α} (h:getI l n=some x):PC:=⟨.row (l.map q) n (q x),Az h⟩
def pn (q:α->List Pd) {l:List α} {n:Int} {x:α} (h:getI l n=some x):PC:=⟨.row (l.map q) ((n.toNat:Nat):Int) (q x),Bi h⟩
def pt {q:α->List Pd} {l:List α} {i:Nat} {x:α} (hx:l[i]? = some x) (hl:(l.map q).length<=maxLen):PC:=⟨.row (l.map q) (cnt 0 i) (q x),Bm hx hl⟩
def pR (q:α->List Pd) {g:List (Bool×Bool)} {l:List α} {n:Int} {x d:α} (h:Ar g (getI l n) d=some x):PC:=⟨.when g (.row (l.map q) n (q x)),λ hg=>Az (B4 h hg)⟩
def pN (q:α->List Pd) {g:List (Bool×Bool)} {l:List α} {n:Int} {x d:α} (h:Ar g (getI l n) d=some x):PC:=⟨.when g (.row (l.map q) ((n.toNat:Nat):Int) (q x)),λ hg=>Bi (B4 h hg)⟩
def pa (q:α->List Pd) (size:Nat) {B:Nat} {l m y:List α} (h:appI (B+1) l m=some y) (hs:∀ x,(q x).length=size:=by exact λ _=>rfl):PC:=⟨.app (l.map q) (m.map q) size (((l.map q).length+(m.map q).length)*(B+1)) (y.map q),A8 q size hs h⟩
def pu (q:α->List Pd) {l y:List α} {n:Int} {x x':α} (hx:getI l n=some x) (h:setI l n x'=some y):PC:=⟨.upd (l.map q) n.toNat (q x) (q x') (y.map q),B3 hx h⟩
end
theorem ws {ro:Option Nat} {n:Nat} {C:Ctx} {Q:Exit->Act->World->Prop} {st:St} {R:List Res} {items:List It} (lv:List Nat) (fuel:Nat) (ds:List Bool) (cls:List PC) (adj:List Adj) (k:Nat) (pi:List Nat) (st':St) (R':List Res) (hk:C.h.length<=k) (bs:List PB) (hW:WI ro Tryz.prog n C Q (Bv fuel items ds) st' R') (h:Cu Tryz.prog n lv fuel items st R ds (cls.map (·.1)) adj k pi (Ib st')=some (st',R',cls.map (·.1),bs.map (·.1)):=by kernel_rfl):WI ro Tryz.prog n C Q items st R:=C8 mixed lv fuel ds (cls.map (·.1)) adj k pi st' R' hk (okP cls) (okB bs) h hW
def wo (o:Option (St×List Res×List Cl×List (Bool×Bool))):St×List Res:=match o with
 | some (s,r,_,_)=>(s,r)
 | none=>([],[])
theorem wn {ro:Option Nat} {n:Nat} {C:Ctx} {Q:Exit->Act->World->Prop} {st:St} {R:List Res} {items:List It} (lv:List Nat) (fuel:Nat) (ds:List Bool) (cls:List PC) (adj:List Adj) (k:Nat) (pi:List Nat) (ks:List Nat) (hk:C.h.length<=k) (bs:List PB) (hW:WI ro Tryz.prog n C Q (Bv fuel items ds) (wo (Cu Tryz.prog n lv fuel items st R ds (cls.map (·.1)) adj k pi ks)).1 (wo (Cu Tryz.prog n lv fuel items st R ds (cls.map (·.1)) adj k pi ks)).2) (h:(Cu Tryz.prog n lv fuel items st R ds (cls.map (·.1)) adj k pi ks).map (λ x=>(Ib x.1,x.2.2.1,x.2.2.2))=some (ks,cls.map (·.1),bs.map (·.1)):=by kernel_rfl):WI ro Tryz.prog n C Q items st R:=by
 cases e:Cu Tryz.prog n lv fuel items st R ds (cls.map (·.1)) adj k pi ks with
 | none=>rw [e] at h;cases h
 | some x=>
  obtain⟨s,r,c,b⟩:=x
  rw [e] at h hW
  simp only [aU,ah,aq] at h
  obtain⟨h1,h2,h3⟩:=h
  subst h1;subst h2;subst h3
  exact C8 mixed lv fuel ds _ adj k pi s r hk (okP cls) (okB bs) e hW
theorem we {ro:Option Nat} {n:Nat} {C:Ctx} {Q:Exit->Act->World->Prop} {st:St} {R:List Res} {items:List It} {σ:Type} {φ:σ->Prop} {st':σ->St} {R':σ->List Res} (lv:List Nat) (fuel:Nat) (ds:List Bool) (cls:List PC) (adj:List Adj) (k:Nat) (pi:List Nat) (s:σ) (hk:C.h.length<=k) (bs:List PB) (h1:φ s) (hi:hdK (Bv fuel items ds)=Ex n C φ st' R':=by kernel_rfl) (h:Cu Tryz.prog n lv fuel items st R ds (cls.map (·.1)) adj k pi (Ib (st' s))=some (st' s,R' s,cls.map (·.1),bs.map (·.1)):=by kernel_rfl):WI ro Tryz.prog n C Q items st R:=Gg mixed lv fuel ds (cls.map (·.1)) adj k pi s hk (okP cls) (okB bs) hi h h1
theorem wx {σ:Type} {τ:Type} (w:Ctl σ τ) (st':σ->St) (R':σ->List Res) {ro:Option Nat} {n:Nat} {C:Ctx} {Q:Exit->Act->World->Prop} {st:St} {R:List Res} {items:List It} (lv:List Nat) (fuel:Nat) (ds:List Bool) (cls:List PC) (adj:List Adj) (k:Nat) (pi:List Nat) (s:σ) (hk:C.h.length<=k) (bs:List PB) (h1:w = .next s) (hi:hdK (Bv fuel items ds)=Ex n C (λ s'=>w = .next s') st' R':=by kernel_rfl) (h:Cu Tryz.prog n lv fuel items st R ds (cls.map (·.1)) adj k pi (Ib (st' s))=some (st' s,R' s,cls.map (·.1),bs.map (·.1)):=by kernel_rfl):WI ro Tryz.prog n C Q items st R:=Gg mixed lv fuel ds (cls.map (·.1)) adj k pi s hk (okP cls) (okB bs) hi h h1
theorem wc {ro:Option Nat} {n:Nat} {C:Ctx} {Q:Exit->Act->World->Prop} {st:St} {R:List Res} {items:List It} {σ τ:Type} (w:Ctl σ τ) (st':σ->St) (R':σ->List Res) (h:WI ro Tryz.prog n C Q (.c (hdC items) :: .k (Ex n C (λ s=>w = .next s) st' R')::tlI items) st R) (hK:∀ s,w = .next s->WI ro Tryz.prog n C Q (tlI items) (st' s) (R' s)) (hi:isC items=true:=by kernel_rfl):WI ro Tryz.prog n C Q items st R:=P9 hi _ st' R' h hK
theorem L5 {α β γ:Type} {o:Option α} {f:α->Option β} {g:α->β->Option γ} {r:γ} (h:(o.bind λ a=>(f a).bind λ b=>g a b)=some r):∃ a,o=some a/\∃ b,f a=some b/\g a b=some r:=by
 obtain⟨a,h1,h⟩:=Dk h
 obtain⟨b,h2,h⟩:=Dk h
 exact⟨a,h1,b,h2,h⟩
theorem An5 {α β γ δ:Type} {o:Option α} {f:α->Option β} {g:α->β->Option γ} {k:α->β->γ->Option δ} {r:δ} (h:(o.bind λ a=>(f a).bind λ b=>(g a b).bind λ c=>k a b c)=some r):∃ a,o=some a/\∃ b,f a=some b/\∃ c,g a b=some c/\k a b c=some r:=by
 obtain⟨a,h1,h⟩:=Dk h
 obtain⟨b,h2,c,h3,h⟩:=L5 h
 exact⟨a,h1,b,h2,c,h3,h⟩
theorem A0r {α β γ δ ε:Type} {o:Option α} {f:α->Option β} {g:α->β->Option γ} {k:α->β->γ->Option δ} {l:α->β->γ->δ->Option ε} {r:ε} (h:(o.bind λ a=>(f a).bind λ b=>(g a b).bind λ c=>(k a b c).bind λ d=>l a b c d)=some r):∃ a,o=some a/\∃ b,f a=some b/\∃ c,g a b=some c/\∃ d,k a b c=some d/\l a b c d=some r:=by
 obtain⟨a,h1,h⟩:=Dk h
 obtain⟨b,h2,c,h3,d,h4,h⟩:=An5 h
 exact⟨a,h1,b,h2,c,h3,d,h4,h⟩
theorem wl {ro:Option Nat} {n:Nat} {C:Ctx} {Q:Exit->Act->World->Prop} {st:St} {R:List Res} {α σ τ:Type} {items:List It} {f:Nat->α->σ->Option (Ctl σ τ)} (stF:Nat->σ->St) (RF:Nat->σ->List Res) {r:Ctl σ τ} {xs:List α} {s:σ} (hm:foldI f xs 0 s=some r) (hnil:∀ s,r = .next s->WI ro Tryz.prog n C Q (.c (lpC items) :: .k (λ _ _=>False)::tlI items) (stF xs.length s) (RF xs.length s)) (hcons:∀ i x s k,i<xs.length->xs[i]? = some x->f i x s=some k->(∀ s',k = .brk s'->r = .next s')->(∀ v,k = .ret v->r = .ret v)->WI ro Tryz.prog n C Q (.c (lpC items) :: .k (Ex n C (λ s'=>k = .next s') (stF (i+1)) (RF (i+1)))::tlI items) (stF i s) (RF i s)) (hi:isL items=true:=by kernel_rfl) (h0:st=stF 0 s:=by rfl) (h1:R=RF 0 s:=by rfl):WI ro Tryz.prog n C Q items st R:=N5 hi f stF RF r xs s hm h0 h1 hnil hcons
theorem ww {ro:Option Nat} {n:Nat} {C:Ctx} {Q:Exit->Act->World->Prop} {st:St} {R:List Res} {σ τ:Type} {items:List It} {f:σ->Option (Ctl σ τ)} (stF:σ->St) (RF:σ->List Res) {r:Ctl σ τ} {fuel:Nat} {s:σ} (hm:whileN f fuel s=some r) (h:∀ s k,f s=some k->(∀ s',k = .brk s'->r = .next s')->(∀ v,k = .ret v->r = .ret v)->WI ro Tryz.prog n C Q (.c (lpC items) :: .k (Ex n C (λ s'=>k = .next s') stF RF)::tlI items) (stF s) (RF s)) (hi:isL items=true:=by kernel_rfl) (h0:st=stF s:=by rfl) (h1:R=RF s:=by rfl):WI ro Tryz.prog n C Q items st R:=Adc hi f stF RF r fuel s hm h0 h1 h
theorem cB {α:Type} {c:Bool} {x y z:α} (h:(bif c then x else y)=z):(c=true/\x=z)\/(c=false/\y=z):=by cases c;exact .inr ⟨rfl,h⟩;exact .inl ⟨rfl,h⟩
theorem wb {ro:Option Nat} {n:Nat} {C:Ctx} {Q:Exit->Act->World->Prop} {st:St} {R:List Res} {items:List It} (h:WI ro Tryz.prog n C Q (.c (Ase items) :: .b (Asd items)::tlI items) st R) (hi:isB items=true:=by kernel_rfl):WI ro Tryz.prog n C Q items st R:=P_ hi h
theorem co {f:FuncId} {fn:Func} {c:Code} {args:List AV} {res:AV} {R R2:List Res} (n:Nat) (hf:Tryz.prog.funcs[f]? = some fn) (h:∀ C:Ctx,C.h.length<=R.length->WI none Tryz.prog n C.z (Ld Tryz.prog fn C.z res R2) [.c c] (Vx 0 args) R) (hb:fn.body=some c:=by rfl) (hn:fn.ntmps=n:=by rfl) (hl:Nat.ble args.length n=true:=by rfl):CallOk Tryz.prog f args R res R2:=D8 n hf hb hn hl h
theorem wr {ro:Option Nat} {n:Nat} {C:Ctx} {st:St} {R:List Res} {fn:Func} {res:AV} {R2:List Res} {items:List It} (lv:List Nat) (fuel:Nat) (ds:List Bool) (cls:List PC) (adj:List Adj) (k:Nat) (pi:List Nat) (hk:C.h.length<=k) (bs:List PB) (h:M_ Tryz.prog n lv fuel items st R ds (cls.map (·.1)) adj fn.results.toList k pi=some (res,R2,cls.map (·.1),bs.map (·.1)):=by kernel_rfl):WI ro Tryz.prog n C.z (Ld Tryz.prog fn C.z res R2) items st R:=Im mixed lv fuel ds (cls.map (·.1)) adj _ k pi rfl hk (okP cls) (okB bs) h
theorem wf {ro:Option Nat} {n:Nat} {C:Ctx} {st:St} {R:List Res} {fn:Func} {res:AV} {R2:List Res} {items:List It} (lv:List Nat) (fuel:Nat) (ds:List Bool) (cls:List PC) (adj:List Adj) (k:Nat) (pi:List Nat) (hk:C.h.length<=k) (bs:List PB) (hn:Aim (Bv fuel items ds)=true:=by kernel_rfl) (h:Sg Tryz.prog n lv fuel items st R ds (cls.map (·.1)) adj fn.results.toList k pi=some (res,R2,cls.map (·.1),bs.map (·.1)):=by kernel_rfl):WI ro Tryz.prog n C.z (Ld Tryz.prog fn C.z res R2) items st R:=Vz mixed lv fuel ds (cls.map (·.1)) adj _ k pi rfl hk (okP cls) (okB bs) hn h
theorem en {f : FuncId} {fn : Func} (hf : Tryz.prog.funcs[f]? = some fn) (hb : fn.body.isNone = false := by kernel_rfl) (hn : (fn.name == "runtime.NumGoroutine") = false := by kernel_rfl) : Em Tryz.prog f := Go.SL.Dg hf hb hn
abbrev ln {α:Type} (l:List α):Int:=(l.length:Int)
abbrev dI (x:Int):AV:=.d (I x)
abbrev dB (x:Bool):AV:=.d (Bo x)
abbrev dO (a b:Nat):AV:=.d (.o a b)
abbrev dS (a:Nat):AV:=.d (.os a)
instance k142 (x0:Int) (x1:Int) (x2:Int):Fv 142 [dI x0,dI x1,dI x2] (λ (r:Bool)=>dB r) (some (Ce x0 x1 x2)):=
 fnJ Tryz.func142 [0,1,2,6]<|jZ 25 [] []
instance k145 (x0:Aa) (x1:Int) (x2:Int):Fk 145 [.agg (d38 x0),dI x1,dI x2] [] (λ (r:(List Int))=>dS 0) (λ r=>[v0_ r]) (R6 x0 x1 x2):=
 fnJ Tryz.func145 [0,1,2,3,6,7,8,9,11,12,13,14,37]<|jl Bs x0.Ah<|jG 28 [.own 7 3 1] [1] [1,2,6,7,11,12,13] (kF λ n0 z0=>[(13,dI (cnt 0 n0))]) (uF λ n0 z0=>[(0,v0_ z0)]) (kA [6,7] λ z0=>[]) (uA λ z0=>[(0,v0_ z0)]) (lnS Bs 11) 26 [0] (λ _ _ _ _ _ _ _ _=>jI (λ h1=>jB λ y2 h3=>jC [⟨_,A8 pI 1 (λ _=>rfl) h3⟩]<|jX 36 [] [2]) λ h1=>jX 36 [] [0]) λ z0=>jZ 23 [] [0]
instance k123 (x0:Bt):Fv 123 [.agg (d40 x0)] (λ (r:Bool)=>dB r) (some (Jy x0)):=
 fnJ Tryz.func123 n3_<|jZ 25 [] []
instance k144 (x0:Ab) (x1:Ab):Fv 144 [.agg (d88 x0),.agg (d88 x1)] (λ (r:Bool)=>dB r) (some (Aes x0 x1)):=
 fnJ Tryz.func144 n5_<|jZ 25 [] []
instance k76 (x0:Ad):Fk 76 [.agg (d64 x0)] [] (λ (r:Ad)=>.agg [.os 0,.os 1,.os 2,.os 3]) (λ r=>(zp r [])) (F76 x0):=
 fnJ Tryz.func76 n3_<|jB λ y1 h2=>jC [⟨_,Jt pB 1 (λ _=>rfl) h2⟩]<|jB λ y3 h4=>jC [⟨_,Jt Bf 4 (λ _=>rfl) h4⟩]<|jB λ y5 h6=>jC [⟨_,Jt pI 1 (λ _=>rfl) h6⟩]<|jB λ y7 h8=>jC [⟨_,Jt q88 2 (λ _=>rfl) h8⟩]<|jZ 25 [] [3,5,7,9]
instance k218 (x0:Aa) (x1:Ad) (x2:Int):Fk 218 [.agg (d38 x0),.agg (d64 x1),dI x2] [] (λ (r:(List Int))=>dS 0) (λ r=>[v0_ r]) (Akj x0 x1 x2):=
 fnJ Tryz.func218 [0,1,2,3,4,6,7,8,9,10,11,19,20,21,23,24,25,26,53,65,66,67,72]<|jB λ y1 h2=>jC [⟨.room (x0.Am*(1+1)) (List.replicate (Int.toNat x0.Am) (pB false)) (y1.map pB),He h2⟩]<|jB λ y3 h4=>jC [⟨_,Az (enc:=pB) h4⟩]<|jB λ y5 h6=>jC [⟨_,B3 (enc:=pB) h4 h6⟩]<|jl pB y5<|jF 30 [] n3_ [3,4,6,7,19,20] (kF λ n0 z0=>[(20,dI (cnt 0 n0))]) (uF λ n0 z0=>[(2,v5_ z0)]) (cA λ z0=>[(6,.d (DS pI [])),(7,dS 0)]) (cA λ z0=>[v5_ z0]) (lnO pB 7 2 4 1) 26 [2] (λ _ _ _ _ _ _ _ _=>jl Bs x0.Ah<|jF 30 [] n3_ [3,4,6,7,19,20,23,24,25] (kF λ n1 z1=>[(25,dI (cnt 0 n1))]) (uF λ n1 z1=>[(2,v5_ z1)]) (kA [3,4,6,7,19,20] λ z1=>[]) (uA λ z1=>[(2,v5_ z1)]) (lnS Bs 23) 26 n3_ (λ _ _ _ _ _ hl1 _ hx1=>jC [⟨_,Bm hx1 hl1⟩]<|jb [] λ y7=>jr λ y9 _=>jr λ y11 _=>jS 32 [] n4_ [3,4,6,7,9,19,20,23,24,25,53]<|jI (λ h13=>jB λ y14 h15=>jC [⟨_,Az (enc:=pB) h15⟩]<|jB λ y16 h17=>jC [⟨_,B3 (enc:=pB) h15 h17⟩]<|jB λ y18 h19=>jC [⟨_,Az (enc:=pB) h19⟩]<|jB λ y20 h21=>jC [⟨_,B3 (enc:=pB) h19 h21⟩]<|jX 25 [] n3_) λ h13=>jX 25 [] n3_) λ z1=>jX 23 [] n3_) λ z0=>jl pB z0<|jF 26 [.own 10 3 1] [0,1] [6,7,10,65,66] (kF λ n2 z2=>[(66,dI (cnt 0 n2))]) (uF λ n2 z2=>[(1,v0_ z2)]) (cA λ z2=>[(6,.d (DS pI [])),(10,dS 0)]) (cA λ z2=>[v0_ z2]) (lnO pB 7 0 4 1) 26 [1] (λ _ _ _ _ _ hl2 _ hx2=>jC [⟨_,Az (enc:=pB) (Bd hx2 hl2)⟩,⟨_,Bi (enc:=pB) (Bd hx2 hl2)⟩]<|jI (λ h22=>jB λ y23 h24=>jC [⟨_,A8 pI 1 (λ _=>rfl) h24⟩]<|jX 36 [] [0,2]) λ h22=>jX 36 [] [0,1]) λ z2=>jZ 23 [] [0]
instance k220 (x0:List Int) (x1:Int):Fv 220 [.d (DS pI x0),dI x1] (λ (r:Bool)=>dB r) (Ph x0 x1):=
 fnJ Tryz.func220 [0,1,4,6,7,8,9,10,15]<|jl pI x0<|jG 26 [] [] [1,4,7,8,9] (kF λ n0 z0=>[(9,dI (cnt 0 n0))]) iF (kA [4] λ z0=>[]) iA (lnS pI 7) 26 [] (λ _ _ _ _ _ _ _ _=>jI (λ h1=>jZ1 35 [] []) λ h1=>jX 36 [] []) λ z0=>jZ 23 [] []
instance k133 (x0:List Bool) (x1:List Bool):Fv 133 [.d (DS pB x0),.d (DS pB x1)] (λ (r:Bool)=>dB r) (A2a x0 x1):=
 fnJ Tryz.func133 [0,1,4,5,10,12,13,14,24]<|jl pB x0<|jl pB x1<|jI (λ h1=>jN) λ h1=>jl pB x0<|jF 31 [] [] [0,1,4,12,13] (kF λ n0 z0=>[(13,dI (cnt 0 n0))]) iF (kA [4] λ z0=>[]) iA (lnS pB 0) 26 [] (λ _ _ _ _ _ hl0 _ hx0=>jC [⟨_,Bm hx0 hl0⟩]<|jb [] λ y2=>jI (λ h4=>jN) λ h4=>jX 36 [] []) λ z0=>jZ 23 [] []
instance k16 (x0:List Int) (x1:List Int):Fv 16 [.d (DS pI x0),.d (DS pI x1)] (λ (r:Bool)=>dB r) (F16 x0 x1):=
 fnJ Tryz.func16 [0,1,4,5,10,12,13,14,24]<|jl pI x0<|jl pI x1<|jI (λ h1=>jN) λ h1=>jl pI x0<|jF 31 [] [] [0,1,4,12,13] (kF λ n0 z0=>[(13,dI (cnt 0 n0))]) iF (kA [4] λ z0=>[]) iA (lnS pI 0) 26 [] (λ _ _ _ _ _ hl0 _ hx0=>jC [⟨_,Bm hx0 hl0⟩]<|jb [] λ y2=>jI (λ h4=>jN) λ h4=>jX 36 [] []) λ z0=>jZ 23 [] []
instance k202 (x0:Ad) (x1:Int) (x2:Int):Fv 202 [.agg (d64 x0),dI x1,dI x2] (λ (r:Bool)=>dB r) (Hk x0 x1 x2):=
 fnJ Tryz.func202 [0,1,2,3,6,8,10,11,12,13,25]<|jl q88 x0.Al<|jG 26 [] [] [1,2,6,10,11,12] (kF λ n0 z0=>[(12,dI (cnt 0 n0))]) iF (kA [6] λ z0=>[]) iA (lnS q88 10) 26 [] (λ _ _ _ _ _ _ _ _=>jI (λ h1=>jZ1 35 [] []) λ h1=>jX 36 [] []) λ z0=>jZ 23 [] []
instance k268 (x0:Int):Fv 268 [dI x0] (λ (r:Int)=>dI r) (some (Kx x0)):=
 fnJ Tryz.func268 [0,2]<|jC [⟨.nz 3600,H_ rfl⟩,⟨.nz 3600,H_ rfl⟩]<|jZ 25 [] []
instance k128s0 (x0:As) (x1:Aw) (x2:Int):Fk 128 [.agg [I x0.Time,DS pB x0.Power.Ai,DS Bf x0.Power.Ae,DS pI x0.Power.An,DS q88 x0.Power.Al,DS Cs x0.Ba,.os 0],.agg (O9 x1),dI x2] [v2_ x0.Bh] (λ (r:As)=>.agg [I r.Time,DS pB r.Power.Ai,DS Bf r.Power.Ae,DS pI r.Power.An,DS q88 r.Power.Al,DS Cs r.Ba,.os 1]) (λ r=>[v2_ x0.Bh,v2_ r.Bh]) (Aet x0 x1 x2):=
 fnJ Tryz.func128 [0,1,2,3,4,6]<|jB λ y1 h2=>jC [⟨_,Jt Er 5 (λ _=>rfl) h2⟩]<|jB λ y3 h4=>jC [⟨_,A8 Er 5 (λ _=>rfl) h4⟩]<|jZ 27 [] [0,6]
instance k288 (x0:Bool) (x1:Int) (x2:Int):Fv 288 [dB x0,dI x1,dI x2] (λ (r:Int)=>dI r) (Ath x0 x1 x2):=
 fnJ Tryz.func288 [0,1,2,6,8,10]<|jI (λ h1=>jZ 29 [] []) λ h1=>jN
instance k180 (x0:Int) (x1:Int) (x2:Int):Fv 180 [dI x0,dI x1,dI x2] (λ (r:Bool)=>dB r) (some (Bl x0 x1 x2)):=
 fnJ Tryz.func180 [0,1,2,6]<|jZ 25 [] []
instance k341 (x0:List Int) (x1:Int):Fv 341 [.d (DS pI x0),dI x1] (λ (r:Int)=>dI r) (Atb x0 x1):=
 fnJ Tryz.func341 [0,1,4,5,7,8,9,16]<|jl pI x0<|jG 26 [] [] [0,1,4,7,8] (kF λ n0 z0=>[(8,dI (cnt 0 n0))]) iF (kA [4] λ z0=>[]) iA (lnS pI 0) 26 [] (λ _ _ _ _ _ _ _ _=>jI (λ h1=>jZ1 35 [] []) λ h1=>jX 36 [] []) λ z0=>jZ 23 [] []
instance k300 (x0:List Int):Fv 300 [.d (DS pI x0)] (λ (r:Bool)=>dB r) (some (Atg x0)):=
 fnJ Tryz.func300 [0,2]<|jl pI x0<|jZ 25 [] []
instance k249 (x0:Aa) (x1:Int):Fv 249 [.agg (d38 x0),dI x1] (λ (r:Int)=>dI r) (some (Mj x0 x1)):=
 fnJ Tryz.func249 [0,1,2,4,5,6,11,16,20]<|jIp (λ h1=>jl Cd x0.Ae<|jZ 32 [] []) λ h1=>jIp (λ h2=>jl Bs x0.Ah<|jZ 35 [] []) λ h2=>jIp (λ h3=>jZ 38 [] []) λ h3=>jIp (λ h4=>jl B0 x0.Ag<|jZ 41 [] []) λ h4=>jZ 43 [] []
instance k245 (x0:Int):Fv 245 [dI x0] (λ (r:Bool)=>dB r) (some (Pg x0)):=
 fnJ Tryz.func245 [0,2]<|jZ 25 [] []
instance k166 (x0:List Int):Fv 166 [.d (DS pI x0)] (λ (r:Int)=>dI r) (U5 x0):=
 fnJ Tryz.func166 [0,2,3,5,6,7,8,9,14]<|jl pI x0<|jG 28 [] [] [2,3,6,7,8] (kF λ n0 z0=>[(8,dI (cnt 0 n0))]) iF (kA [2,3] λ z0=>[]) iA (lnS pI 6) 26 [] (λ _ _ _ _ _ _ _ _=>jI (λ h1=>jZ1 35 [] []) λ h1=>jX 36 [] []) λ z0=>jZ 23 [] []
instance k181 (x0:Aa) (x1:Ad) (x2:Int):Fv 181 [.agg (d38 x0),.agg (d64 x1),dI x2] (λ (r:Int)=>dI r) (Ako x0 x1 x2):=
 fnJ Tryz.func181 [0,1,2,3,4,6,7,8,9,11,12,13,14,33]<|jl Bs x0.Ah<|jF 28 [] [1] [2,4,6,11,12,7,13] (kF λ n0 z0=>[(7,dI z0),(13,dI (cnt 0 n0))]) iF (cA λ z0=>[(6,dI 0),(7,dI z0)]) (cA λ z0=>[]) (lnS Bs 11) 26 [] (λ _ _ _ _ _ hl0 _ hx0=>jC [⟨_,Bm hx0 hl0⟩]<|jb [] λ y1=>jI (λ h3=>jX 36 [] [0]) λ h3=>jX 36 [] [0]) λ z0=>jZ 23 [] []
theorem Ax3 (x0:List Bool) (r:List Bool) (h:uZ x0=some r):CO 120 [.d (.p (.s (x0.map pB)))] [] (.d (.os 0)) [v5_ r]:=by
 unfold uZ at h
 refine co 8 Tryz.func120 λ C hC=>?_
 refine ws [0,4] 40 [] [] [] 0 [] [(0,.d (.p (.s (x0.map pB)))),(4,.d (.nq (x0.map pB)))] [] hC [] ?_
 refine Rx 4 (by kernel_rfl) (by kernel_rfl) rfl (λ hn=>?_) ?_
 ·have hx:x0=[]:=by cases x0 with | nil=>rfl | cons=>cases hn
  subst hx
  have hr:r=[]:=by simpa [appI] using h.symm
  subst hr
  exact wr [2] 40 [] [] [.own 2 4 1] 0 [0] hC []
 ·exact wr [2] 40 [] [⟨.own,trivial⟩,⟨.app [] (x0.map pB) 1 ((([]:List (List Pd)).length+(x0.map pB).length)*(1+1)) (r.map pB),A8 (l:=[]) pB 1 (λ _=>rfl) h⟩] [] 0 [1] hC []
theorem Aza:EN 120:=en Tryz.func120
theorem Ax2 (x0:List Aj) (r:List Aj) (h:uY x0=some r):CO 121 [.d (.p (.s (x0.map Bf)))] [] (.d (.os 0)) [v4_ r]:=by
 unfold uY at h
 refine co 8 Tryz.func121 λ C hC=>?_
 refine ws [0,4] 40 [] [] [] 0 [] [(0,.d (.p (.s (x0.map Bf)))),(4,.d (.nq (x0.map Bf)))] [] hC [] ?_
 refine Rx 4 (by kernel_rfl) (by kernel_rfl) rfl (λ hn=>?_) ?_
 ·have hx:x0=[]:=by cases x0 with | nil=>rfl | cons=>cases hn
  subst hx
  have hr:r=[]:=by simpa [appI] using h.symm
  subst hr
  exact wr [2] 40 [] [] [.own 2 160 4] 0 [0] hC []
 ·exact wr [2] 40 [] [⟨.own,trivial⟩,⟨.app [] (x0.map Bf) 4 ((([]:List (List Pd)).length+(x0.map Bf).length)*(32+1)) (r.map Bf),A8 (l:=[]) Bf 4 (λ _=>rfl) h⟩] [] 0 [1] hC []
theorem Ay9:EN 121:=en Tryz.func121
theorem Ais (x0:List Int) (r:List Int) (h:Pj x0=some r):CO 122 [.d (.p (.s (x0.map pI)))] [] (.d (.os 0)) [v0_ r]:=by
 unfold Pj at h
 refine co 8 Tryz.func122 λ C hC=>?_
 refine ws [0,4] 40 [] [] [] 0 [] [(0,.d (.p (.s (x0.map pI)))),(4,.d (.nq (x0.map pI)))] [] hC [] ?_
 refine Rx 4 (by kernel_rfl) (by kernel_rfl) rfl (λ hn=>?_) ?_
 ·have hx:x0=[]:=by cases x0 with | nil=>rfl | cons=>cases hn
  subst hx
  have hr:r=[]:=by simpa [appI] using h.symm
  subst hr
  exact wr [2] 40 [] [] [.own 2 3 1] 0 [0] hC []
 ·exact wr [2] 40 [] [⟨.own,trivial⟩,⟨.app [] (x0.map pI) 1 ((([]:List (List Pd)).length+(x0.map pI).length)*(8+1)) (r.map pI),A8 (l:=[]) pI 1 (λ _=>rfl) h⟩] [] 0 [1] hC []
theorem Ajb:EN 122:=en Tryz.func122
theorem Aq5 (x0:List Ab) (r:List Ab) (h:R7 x0=some r):CO 105 [.d (.p (.s (x0.map q88)))] [] (.d (.os 0)) [v1_ r]:=by
 unfold R7 at h
 refine co 8 Tryz.func105 λ C hC=>?_
 refine ws [0,4] 40 [] [] [] 0 [] [(0,.d (.p (.s (x0.map q88)))),(4,.d (.nq (x0.map q88)))] [] hC [] ?_
 refine Rx 4 (by kernel_rfl) (by kernel_rfl) rfl (λ hn=>?_) ?_
 ·have hx:x0=[]:=by cases x0 with | nil=>rfl | cons=>cases hn
  subst hx
  have hr:r=[]:=by simpa [appI] using h.symm
  subst hr
  exact wr [2] 40 [] [] [.own 2 88 2] 0 [0] hC []
 ·exact wr [2] 40 [] [⟨.own,trivial⟩,⟨.app [] (x0.map q88) 2 ((([]:List (List Pd)).length+(x0.map q88).length)*(16+1)) (r.map q88),A8 (l:=[]) q88 2 (λ _=>rfl) h⟩] [] 0 [1] hC []
theorem Azf:EN 105:=en Tryz.func105
instance k228 (x0:Aa) (x1:Ad):Fk 228 [.agg (d38 x0),.agg (d64 x1)] [] (λ (r:(List Int))=>dS 0) (λ r=>[v0_ r]) (Aei x0 x1):=
 fnJ Tryz.func228 [0,1,2,3,4,5,6,7,8,9,14,15,16,24,25,26,28,29,30,31,44]<|jB λ y1 h2=>jC [⟨.room (x0.Am*(8+1)) (List.replicate (Int.toNat x0.Am) (pI 0)) (y1.map pI),He h2⟩]<|jl pI y1<|jF 28 [] n3_ [2,3,4,5,14,15] (kF λ n0 z0=>[(15,dI (cnt 0 n0))]) (uF λ n0 z0=>[(2,v0_ z0)]) (kA [2,3,4,5] λ z0=>[]) (uA λ z0=>[(2,v0_ z0)]) (lnO pI 5 2 3 1) 26 n3_ (λ _ _ _ _ _ _ _ _=>jB λ y3 h4=>jC [⟨_,Az (enc:=pI) h4⟩]<|jB λ y5 h6=>jC [⟨_,B3 (enc:=pI) h4 h6⟩]<|jX 33 [] n3_) λ z0=>jl pI z0<|jF 24 [] n3_ [2,3,4,5,24,25] (kF λ n1 z1=>[(25,dI (cnt 0 n1))]) (uF λ n1 z1=>[(2,v0_ z1)]) (cA λ z1=>[(4,.d (DS pI [])),(5,dS 0)]) (cA λ z1=>[v0_ z1]) (lnO pI 5 2 3 1) 26 [2] (λ _ _ _ _ _ _ _ _=>jl Bs x0.Ah<|jF 30 [] n3_ [2,3,4,5,24,25,28,29,30] (kF λ n2 z2=>[(30,dI (cnt 0 n2))]) (uF λ n2 z2=>[(2,v0_ z2)]) (kA [2,3,4,5,24,25] λ z2=>[]) (uA λ z2=>[(2,v0_ z2)]) (lnS Bs 28) 26 n3_ (λ _ _ _ _ _ hl2 _ hx2=>jC [⟨_,Bm hx2 hl2⟩]<|jb [] λ y7=>jI (λ h9=>jr λ y10 h11=>jr λ y12 _=>jC [⟨_,Az (enc:=pI) h11⟩]<|jB λ y14 h15=>jC [⟨_,B3 (enc:=pI) h11 h15⟩]<|jB λ y16 h17=>jC [⟨_,Az (enc:=pI) h17⟩]<|jB λ y18 h19=>jC [⟨_,B3 (enc:=pI) h17 h19⟩]<|jX 38 [] n3_) λ h9=>jX 36 [] n3_) λ z2=>jX 23 [] n3_) λ z1=>jZ 23 [] [0]
theorem A3z:EN 228:=en Tryz.func228
instance k291 (x0:Aa) (x1:Ad) (x2:Int) (x3:Int):Fv 291 [.agg (d38 x0),.agg (d64 x1),dI x2,dI x3] (λ (r:Int×Bool)=>.tup [dI r.1,dB r.2]) (Ad5 x0 x1 x2 x3):=
 fnJ Tryz.func291 [0,1,2,3,4,5,8,9,10,11,13,14,15,16,36]<|jl Bs x0.Ah<|jF 26 [] [1] [2,3,5,8,9,13,14,15] (kF λ n0 z0=>[(15,dI (cnt 0 n0))]) iF (cA λ z0=>[(8,dI 0),(9,dB false)]) (cA λ z0=>[]) (lnS Bs 13) 26 [] (λ _ _ _ _ _ hl0 _ hx0=>jC [⟨_,Bm hx0 hl0⟩]<|jb [] λ y1=>jI (λ h3=>jZ1 35 [] []) λ h3=>jX 36 [] [0]) λ z0=>jZ 23 [] []
instance k232 (x0:Ap):Fv 232 [.agg (T0 x0)] (λ (r:Bool)=>dB r) (some (Ake x0)):=
 fnJ Tryz.func232 n3_<|jl pI x0.Am<|jZ 25 [] []
theorem A3y:EN 232:=en Tryz.func232
instance k154s0 (x0:Ad) (x1:List Int) (x2:Aj):Fk 154 [.agg [.os 0,.os 1,.os 2,.os 3],.d (DS pI x1),.agg (W7 x2)] (zp x0 []) (λ (r:(List Aj))=>.tup []) (λ r=>[v5_ x0.Ai,v4_ r,v0_ x0.An,v1_ x0.Al]) (Qk x0 x1 x2):=
 fnJ Tryz.func154 [0,1,2,3,5,7,8,9,10,11]<|jl pI x1<|jF 25 [] n6_ [3,5,8,9,10] (kF λ n0 z0=>[(10,dI (cnt 0 n0))]) (uF λ n0 z0=>[(1,v4_ z0)]) (cA λ z0=>[]) (cA λ z0=>[v5_ x0.Ai,v4_ z0,v0_ x0.An,v1_ x0.Al]) (lnS pI 8) 26 n4_ (λ _ _ _ _ _ hl0 _ hx0=>jC [⟨_,Bm hx0 hl0⟩]<|jB λ y1 h2=>jC [⟨_,Az (enc:=Bf) h2⟩]<|jB λ y3 h4=>jC [⟨_,B3 (enc:=Bf) h2 h4⟩]<|jB λ y5 h6=>jC [⟨_,Az (enc:=Bf) h6⟩]<|jB λ y7 h8=>jC [⟨_,B3 (enc:=Bf) h6 h8⟩]<|jX 33 [] n6_) λ z0=>jE id 20 [] n4_
instance k98 (x0:Bt):Fv 98 [.agg (d40 x0)] (λ (r:Bool)=>dB r) (some (F98 x0)):=
 fnJ Tryz.func98 n3_<|jZ 25 [] []
instance k155 (x0:List Bool) (x1:List Bool):Fv 155 [.d (DS pB x0),.d (DS pB x1)] (λ (r:Bool)=>dB r) (uU x0 x1):=
 fnJ Tryz.func155 [0,1,4,5,10,12,13,14,24]<|jl pB x0<|jl pB x1<|jI (λ h1=>jZ 29 [] []) λ h1=>jl pB x0<|jF 31 [] [] [0,1,4,12,13] (kF λ n0 z0=>[(13,dI (cnt 0 n0))]) iF (kA [4] λ z0=>[]) iA (lnS pB 0) 26 [] (λ _ _ _ _ _ hl0 _ hx0=>jC [⟨_,Bm hx0 hl0⟩]<|jb [] λ y2=>jI (λ h4=>jZ1 35 [] []) λ h4=>jX 36 [] []) λ z0=>jZ 23 [] []
instance k156 (x0:List Aj) (x1:List Aj):Fv 156 [.d (DS Bf x0),.d (DS Bf x1)] (λ (r:Bool)=>dB r) (uS x0 x1):=
 fnJ Tryz.func156 [0,1,4,5,10,12,13,14,24]<|jl Bf x0<|jl Bf x1<|jI (λ h1=>jZ 29 [] []) λ h1=>jl Bf x0<|jF 31 [] [] [0,1,4,12,13] (kF λ n0 z0=>[(13,dI (cnt 0 n0))]) iF (kA [4] λ z0=>[]) iA (lnS Bf 0) 26 [] (λ _ _ _ _ _ hl0 _ hx0=>jC [⟨_,Bm hx0 hl0⟩]<|jb [] λ y2=>jI (λ h4=>jZ1 35 [] []) λ h4=>jX 36 [] []) λ z0=>jZ 23 [] []
instance k157 (x0:List Int) (x1:List Int):Fv 157 [.d (DS pI x0),.d (DS pI x1)] (λ (r:Bool)=>dB r) (uQ x0 x1):=
 fnJ Tryz.func157 [0,1,4,5,10,12,13,14,24]<|jl pI x0<|jl pI x1<|jI (λ h1=>jZ 29 [] []) λ h1=>jl pI x0<|jF 31 [] [] [0,1,4,12,13] (kF λ n0 z0=>[(13,dI (cnt 0 n0))]) iF (kA [4] λ z0=>[]) iA (lnS pI 0) 26 [] (λ _ _ _ _ _ hl0 _ hx0=>jC [⟨_,Bm hx0 hl0⟩]<|jb [] λ y2=>jI (λ h4=>jZ1 35 [] []) λ h4=>jX 36 [] []) λ z0=>jZ 23 [] []
instance k158 (x0:List Ab) (x1:List Ab):Fv 158 [.d (DS q88 x0),.d (DS q88 x1)] (λ (r:Bool)=>dB r) (uO x0 x1):=
 fnJ Tryz.func158 [0,1,4,5,10,12,13,14,24]<|jl q88 x0<|jl q88 x1<|jI (λ h1=>jZ 29 [] []) λ h1=>jl q88 x0<|jF 31 [] [] [0,1,4,12,13] (kF λ n0 z0=>[(13,dI (cnt 0 n0))]) iF (kA [4] λ z0=>[]) iA (lnS q88 0) 26 [] (λ _ _ _ _ _ hl0 _ hx0=>jC [⟨_,Bm hx0 hl0⟩]<|jb [] λ y2=>jI (λ h4=>jZ1 35 [] []) λ h4=>jX 36 [] []) λ z0=>jZ 23 [] []
instance k97s0 (x0:Int) (x1:As):Fv 97 [dI x0,.d (.ip [.v (.int .i64 x1.Time),.s (x1.Power.Ai.map pB),.s (x1.Power.Ae.map Bf),.s (x1.Power.An.map pI),.s (x1.Power.Al.map q88),.s (x1.Ba.map Cs),.s (x1.Bh.map Er)])] (λ (r:Bool)=>dB r) (some (Y1 x0 x1)):=
 fnJ Tryz.func97 [0,1,3]<|jZ 25 [] []
theorem At1:EN 97:=en Tryz.func97
instance k162 (x0:Ab):Fv 162 [.agg (d88 x0)] (λ (r:Bool)=>dB r) (some (Aeq x0)):=
 fnJ Tryz.func162 n3_<|jZ 25 [] []
instance k174 (x0:List Ab) (x1:Ab):Fv 174 [.d (DS q88 x0),.agg (d88 x1)] (λ (r:Int)=>dI r) (Akq x0 x1):=
 fnJ Tryz.func174 [0,1,3,4,5,7,8,9,16]<|jl q88 x0<|jG 26 [] [0] [0,3,4,7,8] (kF λ n0 z0=>[(8,dI (cnt 0 n0))]) iF (cA λ z0=>[(4,dI 0)]) (cA λ z0=>[]) (lnS q88 0) 26 [] (λ _ _ _ _ _ _ _ _=>jI (λ h1=>jZ1 35 [] []) λ h1=>jX 36 [] [0]) λ z0=>jZ 23 [] []
instance k169 (x0:ByteArray):Fv 169 [.d (.p (.v (.string x0)))] (λ (r:Bool)=>dB r) (Atk x0):=
 fnJ Tryz.func169 [0,2,3,4,5,13,15,16,17,18,45]<|jI (λ h1=>jZ 29 [] []) λ h1=>jB λ y2 h3=>jC [⟨.room (x0.size:Int) (G_ x0) (y2.map (pK .u8)),An2 h3⟩,⟨_,okL (pK .u8) y2⟩]<|jG 31 [] [] [2,15,16,17] (kF λ n0 z0=>[(17,dI (cnt 0 n0))]) iF (kA [2] λ z0=>[]) iA (lnS (pK .u8) 15) 26 [] (λ _ _ _ _ _ _ _ _=>jI (λ h4=>jZ1 37 [] []) λ h4=>jX 38 [] []) λ z0=>jZ 23 [] []
instance k167s0 (x0:Bn) (x1:Bn):Fv 167 [.agg (Acf x0),.d (.ip [.v (.string x1.Name),.s (x1.Parts.map q88)])] (λ (r:Bool)=>dB r) (some (Aep x0 x1)):=
 fnJ Tryz.func167 n4_<|jZ 25 [] []
theorem Ay6:EN 167:=en Tryz.func167
theorem k52 (x0:List (List Ab)) (r:List Ab) (h:F52 x0=some r):CO 52 [.d (DS (pL q88) x0)] [] (.d (DS q88 r)) []:=Agl x0 r h
theorem e52:EN 52:=en Tryz.func52
theorem Ax5 (x0:List A9) (r:List A9) (h:vB x0=some r):CO 118 [.d (.p (.s (x0.map Cs)))] [] (.d (.os 0)) [v6_ r]:=by
 unfold vB at h
 refine co 8 Tryz.func118 λ C hC=>?_
 refine ws [0,4] 40 [] [] [] 0 [] [(0,.d (.p (.s (x0.map Cs)))),(4,.d (.nq (x0.map Cs)))] [] hC [] ?_
 refine Rx 4 (by kernel_rfl) (by kernel_rfl) rfl (λ hn=>?_) ?_
 ·have hx:x0=[]:=by cases x0 with | nil=>rfl | cons=>cases hn
  subst hx
  have hr:r=[]:=by simpa [appI] using h.symm
  subst hr
  exact wr [2] 40 [] [] [.own 2 141 2] 0 [0] hC []
 ·exact wr [2] 40 [] [⟨.own,trivial⟩,⟨.app [] (x0.map Cs) 2 ((([]:List (List Pd)).length+(x0.map Cs).length)*(16+1)) (r.map Cs),A8 (l:=[]) Cs 2 (λ _=>rfl) h⟩] [] 0 [1] hC []
theorem Azc:EN 118:=en Tryz.func118
theorem Ax4 (x0:List Bu) (r:List Bu) (h:vA x0=some r):CO 119 [.d (.p (.s (x0.map Er)))] [] (.d (.os 0)) [v2_ r]:=by
 unfold vA at h
 refine co 8 Tryz.func119 λ C hC=>?_
 refine ws [0,4] 40 [] [] [] 0 [] [(0,.d (.p (.s (x0.map Er)))),(4,.d (.nq (x0.map Er)))] [] hC [] ?_
 refine Rx 4 (by kernel_rfl) (by kernel_rfl) rfl (λ hn=>?_) ?_
 ·have hx:x0=[]:=by cases x0 with | nil=>rfl | cons=>cases hn
  subst hx
  have hr:r=[]:=by simpa [appI] using h.symm
  subst hr
  exact wr [2] 40 [] [] [.own 2 217 5] 0 [0] hC []
 ·exact wr [2] 40 [] [⟨.own,trivial⟩,⟨.app [] (x0.map Er) 5 ((([]:List (List Pd)).length+(x0.map Er).length)*(40+1)) (r.map Er),A8 (l:=[]) Er 5 (λ _=>rfl) h⟩] [] 0 [1] hC []
theorem Azb:EN 119:=en Tryz.func119
instance k301 (x0:Aa) (x1:Int) (x2:Int):Fv 301 [.agg (d38 x0),dI x1,dI x2] (λ (r:Bool)=>dB r) (some (Hy x0 x1 x2)):=
 fnJ Tryz.func301 [0,1,2,3,6,7,8,9,14,19,23]<|jIp (λ h1=>jl Cd x0.Ae<|jZ 36 [] []) λ h1=>jIp (λ h2=>jl Bs x0.Ah<|jZ 39 [] []) λ h2=>jIp (λ h3=>jZ 42 [] []) λ h3=>jIp (λ h4=>jl B0 x0.Ag<|jZ 45 [] []) λ h4=>jZ 45 [] []
instance k358 (x0:Int):Fv 358 [dI x0] (λ (r:Int)=>dI r) (some (E0 x0)):=
 fnJ Tryz.func358 [0,2,6]<|jC [⟨.nz 3600,H_ rfl⟩]<|jIp (λ h1=>jZ 32 [] []) λ h1=>jZ 32 [] []
instance k399s0 (x0:Ak) (x1:Int):Fv 399 [.agg (Ace x0),.d (.ip [.v (.int .i64 x1)])] (λ (r:Bool)=>dB r) (some (Adt x0 x1)):=
 fnJ Tryz.func399 n4_<|jZ 25 [] []
theorem Ayr:EN 399:=en Tryz.func399
instance k307s1 (x0:Bc) (x1:Int) (x2:Int):Fk 307 [dO 0 0,dI x1,dI x2] (.box 330 (zb x0.Ao [.os 1,.os 2,.os 3,.os 4,I x0.time])::zp x0.Au []) (λ (r:Int×Bc)=>dI r.1) (λ r=>(.box 330 (zb r.2.Ao [.os 1,.os 2,.os 3,.os 4,I r.2.time])::zp r.2.Au [])) (Zd x0 x1 x2):=
 fnJ Tryz.func307 [0,1,2,6,21]<|jb [] λ y1=>jI (λ h3=>jZ 29 [] n5_) λ h3=>jB λ y4 h5=>jC [⟨_,Az (enc:=pI) h5⟩]<|jB λ y6 h7=>jC [⟨_,B3 (enc:=pI) h5 h7⟩]<|jZ 32 [] n5_
instance k349 (x0:Ab) (x1:Ab):Fv 349 [.agg (d88 x0),.agg (d88 x1)] (λ (r:Int)=>dI r) (some (R5 x0 x1)):=
 fnJ Tryz.func349 [0,1,2,3,4,9]<|jIp (λ h1=>jZ 29 [] []) λ h1=>jZ 30 [] []
def jL:List Nat:=[0,1,2,6,7,8,9,16,22,31,68]
theorem Axx (x0:List Ab) (x1:Int) (x2:List Ab) (r:(List Ab)) (h:Qf x0 x1 x2=some r):CO 350 [.d (.os 0),.d (I x1),.d (DS q88 x2)] [v1_ x0] (.d (.os 1)) [.non,v1_ r]:=by
 by_cases hh:((ln x2)==0)=false/\(x1==(ln x0))=false
 ·unfold Qf at h
  exact Avh (enc:=q88) (λ _=>rfl) hh.1 hh.2 h
 unfold Qf at h
 refine co 95 Tryz.func350 λ C hC=>?_
 obtain⟨u2,h1,h⟩:=Dk h
 rcases cB h with⟨h3,h⟩ | ⟨h3,h⟩
 ·replace h:=sI h
  subst h
  exact wr jL 33 [true] [⟨.bnd (x0.map q88).length x1 (((x0.map q88).length:Nat):Int) (ln x0),Gp (by simp) (by simp) h1⟩,pl q88 x2] [.mv 0] 1 [0,1] hC [pq h3]
 ·refine wn jL 37 [false] [⟨.bnd (x0.map q88).length x1 (((x0.map q88).length:Nat):Int) (ln x0),Gp (by simp) (by simp) h1⟩,pl q88 x2,pl q88 x0] [] 1 [0] [0,1,2,6,7,8,22] hC [pq h3] ?_
  rcases cB h with⟨h4,h⟩ | ⟨h4,h⟩
  ·obtain⟨y5,h6,h⟩:=Dk h
   replace h:=sI h
   subst h
   exact wr jL 24 [true] [pa q88 2 h6] [] 1 [0,1] hC [pq h4]
  ·exact absurd ⟨h3,h4⟩ hh
theorem Ayv:EN 350:=en Tryz.func350
theorem Axw (x0:List Ab) (x1:Int) (x2:Int) (r:(List Ab)) (h:Un x0 x1 x2=some r):CO 351 [.d (.os 0),.d (I x1),.d (I x2)] [.sl 88 2 (x0.map q88)] (.d (.os 1)) [.non,.sl 88 2 (r.map q88)]:=by
 unfold Un at h
 refine co 33 Tryz.func351 λ C hC=>?_
 obtain⟨u2,h1,h⟩:=Dk h
 rcases cB h with⟨h3,h⟩ | ⟨h3,h⟩
 ·replace h:=sI h
  subst h
  exact wr [0,1,2,6,7,16] 31 [true] [pl q88 x0,⟨.bnd3 (x0.map q88).length x1 x2 (ln x0),Ac6 (by simp) h1⟩] [.mv 0] 1 [0,1] hC [pq h3]
 ·obtain⟨u5,h4,u7,h6,y8,h9,u11,h10,h⟩:=A0r h
  replace h:=sI h
  subst h
  (rw [cz];exact Im (bs:=[((x1==x2),false)]) mixed [0,1,2,6,7,16] 38 [false] [.len (ln (x0.map q88)) (ln x0),.bnd3 (x0.map q88).length x1 x2 (ln x0),.len (ln (x0.map q88)) (ln x0),.bnd (x0.map q88).length 0 x1 x1,.bnd (x0.map q88).length x2 (((x0.map q88).length:Nat):Int) (ln x0),.appP (x0.map q88) (((x0.map q88).drop (Int.toNat x2)).take ((Int.toNat (ln x0))-(Int.toNat x2))) 2 ((Int.toNat x1)-0) (((Int.toNat x1)-0)+((x0.drop (Int.toNat x2)).take ((Int.toNat (ln x0))-(Int.toNat x2))).length) ((x0.map q88).take ((Int.toNat x1)-0)++((((x0.map q88).drop (Int.toNat x2)).take ((Int.toNat (ln x0))-(Int.toNat x2)))++(x0.map q88).drop (((Int.toNat x1)-0)+(((x0.map q88).drop (Int.toNat x2)).take ((Int.toNat (ln x0))-(Int.toNat x2))).length))) (y8.map q88),.len (((((Int.toNat x1)-0)+((x0.drop (Int.toNat x2)).take ((Int.toNat (ln x0))-(Int.toNat x2))).length):Nat):Int) (((((Int.toNat x1)-0)+((x0.drop (Int.toNat x2)).take ((Int.toNat (ln x0))-(Int.toNat x2))).length):Nat):Int),.bnd ((y8.map q88).length-0) (((((Int.toNat x1)-0)+((x0.drop (Int.toNat x2)).take ((Int.toNat (ln x0))-(Int.toNat x2))).length):Nat):Int) (ln x0) (ln x0),.eqr ((y8.map q88).take (0+(Int.toNat (((((Int.toNat x1)-0)+((x0.drop (Int.toNat x2)).take ((Int.toNat (ln x0))-(Int.toNat x2))).length):Nat):Int)))++(List.replicate ((Int.toNat (ln x0))-(Int.toNat (((((Int.toNat x1)-0)+((x0.drop (Int.toNat x2)).take ((Int.toNat (ln x0))-(Int.toNat x2))).length):Nat):Int))) (q88 (⟨0,0⟩:Ab))++(y8.map q88).drop ((0+(Int.toNat (((((Int.toNat x1)-0)+((x0.drop (Int.toNat x2)).take ((Int.toNat (ln x0))-(Int.toNat x2))).length):Nat):Int)))+((Int.toNat (ln x0))-(Int.toNat (((((Int.toNat x1)-0)+((x0.drop (Int.toNat x2)).take ((Int.toNat (ln x0))-(Int.toNat x2))).length):Nat):Int)))))) ((Hg y8 (0+(Int.toNat (((((Int.toNat x1)-0)+((x0.drop (Int.toNat x2)).take ((Int.toNat (ln x0))-(Int.toNat x2))).length):Nat):Int))) ((Int.toNat (ln x0))-(Int.toNat (((((Int.toNat x1)-0)+((x0.drop (Int.toNat x2)).take ((Int.toNat (ln x0))-(Int.toNat x2))).length):Nat):Int))) (⟨0,0⟩:Ab)).map q88)] [.trunc 6] [.tmp 6] 1 [0,1] rfl hC ⟨G5 _ _,Ac6 (by simp) h1,G5 _ _,Gp (by simp) rfl h4,Gp (by simp) (by simp) h6,Aso q88 2 (λ _=>rfl) (Aaz _ _ _ _) h9,rfl,Gp (by simp) rfl h10,qP q88 rfl,trivial⟩ ⟨h3,trivial⟩ (by kernel_rfl))
theorem Ayu:EN 351:=en Tryz.func351
instance k183s1 (x0:Cm) (x1:Aw) (x2:Int):Fk 183 [dO 0 0,.agg (O9 x1),dI x2] (.box 209 (I x0.Bg.Time :: .os 1 :: .os 2 :: .os 3 :: .os 4 :: .os 5 :: .os 6::zb x0.Ao [.os 7,.os 8])::zp x0.Bg.Power [v6_ x0.Bg.Ba,v2_ x0.Bg.Bh,v2_ x0.events,v8_ x0.states]) (λ (r:Cm)=>.tup []) (λ r=>(.box 209 (I r.Bg.Time :: .os 1 :: .os 2 :: .os 3 :: .os 4 :: .os 5 :: .os 6::zb r.Ao [.os 9,.os 8])::zp r.Bg.Power [v6_ r.Bg.Ba,v2_ r.Bg.Bh,.non,v8_ r.states,v2_ r.events])) (U2 x0 x1 x2):=
 fnJ Tryz.func183 [0,1,2,4]<|jB λ y1 h2=>jC [⟨_,A8 Er 5 (λ _=>rfl) h2⟩]<|jE id 23 [] [0,1,2,3,4,5,6,7,8,10]
instance k352s1 (x0:A2) (x1:Int):Fk 352 [dO 0 0,dI x1] (.box 373 (zb x0.Ao [.os 1,.os 2,.os 3,.os 4,.os 5])::zp x0.Au [v3_ x0.acts]) (λ (r:A2)=>.tup []) (λ r=>(.box 373 (zb r.Ao [.os 1,.os 2,.os 3,.os 4,.os 6])::zp r.Au [.non,v3_ r.acts])) (Qe x0 x1):=
 fnJ Tryz.func352 [0,1]<|jB λ y1 h2=>jC [⟨_,Az (enc:=pB) h2⟩]<|jB λ y3 h4=>jC [⟨_,B3 (enc:=pB) h2 h4⟩]<|jB λ y5 h6=>jC [⟨_,A8 E4 3 (λ _=>rfl) h6⟩]<|jE id 23 [] n7_
instance k357s0 (x0:Ak) (x1:Int):Fv 357 [.agg (Ace x0),.d (.ip [.v (.int .i64 x1)])] (λ (r:Bool)=>dB r) (some (Adz x0 x1)):=
 fnJ Tryz.func357 n4_<|jZ 25 [] []
theorem Ayt:EN 357:=en Tryz.func357
instance k258 (x0:Int) (x1:Int) (x2:Int):Fv 258 [dI x0,dI x1,dI x2] (λ (r:Bool)=>dB r) (some (Dp x0 x1 x2)):=
 fnJ Tryz.func258 [0,1,2,6]<|jZ 25 [] []
instance k319 (x0:Int):Fv 319 [dI x0] (λ (r:Bool)=>dB r) (some (Uo x0)):=
 fnJ Tryz.func319 [0,2]<|jZ 25 [] []
instance k115s0 (x0:A7) (x1:Int):Fv 115 [.agg (Azi x0),.d (.ip [.v (.int .i64 x1)])] (λ (r:Bool)=>dB r) (some (Aev x0 x1)):=
 fnJ Tryz.func115 n4_<|jZ 25 [] []
theorem Aze:EN 115:=en Tryz.func115
theorem Azd:EN 116:=en Tryz.func116
instance k264 (x0:Cg):Fv 264 [.agg [I x0.X,I x0.Y]] (λ (r:Bool)=>dB r) (some (Xl x0)):=
 fnJ Tryz.func264 n3_<|jZ 25 [] []
instance k323 (x0:Int) (x1:Int):Fv 323 [dI x0,dI x1] (λ (r:Int)=>dI r) (Ad2 x0 x1):=
 fnJ Tryz.func323 [0,1,4,5,12]<|jb [] λ u2=>jb [] λ u4=>jI (λ h5=>jZ 32 [] []) λ h5=>jZ 32 [] []
instance k195 (x0:Int):Fv 195 [dI x0] (λ (r:Int×Int)=>.tup [dI r.1,dI r.2]) (Akl x0):=
 fnJ Tryz.func195 [0,2,3,4,5,6,12,15,25]<|jI (λ h1=>jZ 29 [] []) λ h1=>jW 31 [] [] [0,2,3,4,5] (kW λ z0=>[(4,dI z0.1),(5,dI z0.2)]) iA (kA [2,3] λ z0=>[(4,dI z0.1)]) iA (λ _ _ z0=>jI (λ h2=>jC [⟨.nz 2,H_ rfl⟩]<|jI (λ h3=>jX 34 [] []) λ h3=>jX 34 [] []) λ h2=>jY 26 [] []) λ z0=>jZ 23 [] []
theorem k68 (x0:List Ab) (x1:List Ab) (r:List Ab) (h:F68 x0 x1=some r):CO 68 [.d (DS q88 x0),.d (DS q88 x1)] [] (.d (DS q88 r)) []:=Axh x0 x1 r h
theorem e68:EN 68:=en Tryz.func68
instance k361 (x0:Int) (x1:List Int):Fv 361 [dI x0,.d (DS pI x1)] (λ (r:Bool)=>dB r) (A1l x0 x1):=
 fnJ Tryz.func361 [0,1,4,6,7,8,9,10,21]<|jl pI x1<|jG 26 [] [] [0,4,7,8,9] (kF λ n0 z0=>[(9,dI (cnt 0 n0))]) iF (kA [4] λ z0=>[]) iA (lnS pI 7) 26 [] (λ _ _ _ _ _ _ _ _=>jI (λ h1=>jN) λ h1=>jX 36 [] []) λ z0=>jZ 23 [] []
instance k331 (x0:Int):Fv 331 [dI x0] (λ (r:Int)=>dI r) (some (Xk x0)):=
 fnJ Tryz.func331 [0,2]<|jZ 25 [] []
instance k384s0 (x0:Int) (x1:Int) (x2:Int):Fv 384 [dI x0,.d (.ip [.v (.int .i64 x1)]),.d (.ip [.v (.int .i64 x2)])] (λ (r:Bool)=>dB r) (some (Ao2 x0 x1 x2)):=
 fnJ Tryz.func384 [0,1,2,4]<|jZ 25 [] []
theorem Ays:EN 384:=en Tryz.func384
theorem A3j (x0:List Cf) (r:List Cf) (h:As4 x0=some r):CO 403 [.d (.p (.s (x0.map F_)))] [] (.d (.os 0)) [Wn r]:=by
 unfold As4 at h
 refine co 8 Tryz.func403 λ C hC=>?_
 refine ws [0,4] 40 [] [] [] 0 [] [(0,.d (.p (.s (x0.map F_)))),(4,.d (.nq (x0.map F_)))] [] hC [] ?_
 refine Rx 4 (by kernel_rfl) (by kernel_rfl) rfl (λ hn=>?_) ?_
 ·have hx:x0=[]:=by cases x0 with | nil=>rfl | cons=>cases hn
  subst hx
  have hr:r=[]:=by simpa [appI] using h.symm
  subst hr
  exact wr [2] 40 [] [] [.own 2 305 2] 0 [0] hC []
 ·exact wr [2] 40 [] [⟨.own,trivial⟩,⟨.app [] (x0.map F_) 2 ((([]:List (List Pd)).length+(x0.map F_).length)*(16+1)) (r.map F_),A8 (l:=[]) F_ 2 (λ _=>rfl) h⟩] [] 0 [1] hC []
theorem A3q:EN 403:=en Tryz.func403
instance k409 (x0:Int) (x1:Int):Fv 409 [dI x0,dI x1] (λ (r:Bool)=>dB r) (some (Ads x0 x1)):=
 fnJ Tryz.func409 [0,1,4]<|jZ 25 [] []
instance k371s0 (x0:Cc) (x1:Int) (x2:Int) (x3:Int):Fv 371 [.agg (Aje x0),dI x1,dI x2,dI x3,.d (.fn (.func 372) [] [])] (λ (r:B5)=>.agg (Aru r)) (Ao4 x0 x1 x2 x3):=
 fnJ Tryz.func371 [0,1,2,3,4,5,10,11,20]<|jb [] λ y1=>jl Ep x0.last<|jI (λ h3=>jN) λ h3=>jZ 32 [] []
instance k387 (x0:List B5):Fv 387 [.d (DS G4 x0)] (λ (r:Int)=>dI r) (A1e x0):=
 fnJ Tryz.func387 [0,2,4,7,8,9,10,11,38]<|jl G4 x0<|jI (λ h1=>jN) λ h1=>jl G4 x0<|jG 31 [] [] [2,8,9,10] (kF λ n0 z0=>[(10,dI (cnt 0 n0))]) iF (kA [2] λ z0=>[]) iA (lnS G4 8) 26 [] (λ _ _ _ _ _ _ _ _=>jI (λ h2=>jN) λ h2=>jX 36 [] []) λ z0=>jZ 23 [] []
instance k366 (x0:Int) (x1:Int) (x2:Int):Fv 366 [dI x0,dI x1,dI x2] (λ (r:Int)=>dI r) (some (N8 x0 x1 x2)):=
 fnJ Tryz.func366 [0,1,2,6]<|jZ 25 [] []
instance k369 (x0:B5) (x1:Int):Fv 369 [.agg (Aru x0),dI x1] (λ (r:Int)=>dI r) (some (As6 x0 x1)):=
 fnJ Tryz.func369 [0,1,2,4]<|jZ 25 [] []
instance k371s1 (x0:Cc) (x1:Int) (x2:Int) (x3:Int):Fv 371 [.agg (Aje x0),dI x1,dI x2,dI x3,.d (.fn (.func 374) [] [])] (λ (r:B5)=>.agg (Aru r)) (Ao3 x0 x1 x2 x3):=
 fnJ Tryz.func371 [0,1,2,3,4,5,10,11,20]<|jb [] λ y1=>jl Ep x0.last<|jI (λ h3=>jN) λ h3=>jZ 32 [] []
instance k337 (x0:Ck) (x1:Ck):Fv 337 [.agg (N1 x0),.agg (N1 x1)] (λ (r:Ck)=>.agg (N1 r)) (some (Atc x0 x1)):=
 fnJ Tryz.func337 n5_<|jZ 25 [] []
instance k37 (x0:List Be) (x1:List Be):Fv 37 [.d (DS q98 x0),.d (DS q98 x1)] (λ (r:Bool)=>dB r) (F37 x0 x1):=
 fnJ Tryz.func37 [0,1,4,5,10,12,13,14,24]<|jl q98 x0<|jl q98 x1<|jI (λ h1=>jN) λ h1=>jl q98 x0<|jF 31 [] [] [0,1,4,12,13] (kF λ n0 z0=>[(13,dI (cnt 0 n0))]) iF (kA [4] λ z0=>[]) iA (lnS q98 0) 26 [] (λ _ _ _ _ _ hl0 _ hx0=>jC [⟨_,Bm hx0 hl0⟩]<|jb [] λ y2=>jI (λ h4=>jN) λ h4=>jX 36 [] []) λ z0=>jZ 23 [] []
instance k10 (x0:List Int):Fk 10 [.d (DS pI x0)] [] (λ (r:Af)=>dO 0 0) (λ r=>[.box 120 (B7 r)]) (F10 x0):=
 fnJ Tryz.func10 [0,2]<|jl pI x0<|jB λ y2 h1=>jC [⟨_,qK pI 1 (λ _=>rfl) h1⟩]<|jZ 25 [] [0]
instance k94 (x0:Int) (x1:Int):Fv 94 [dI x0,dI x1] (λ (r:Int)=>dI r) (F94 x0 x1):=
 fnJ Tryz.func94 [0,1,4,6]<|jI (λ h1=>jZ 29 [] []) λ h1=>jb [] λ u3=>jb [] λ u5=>jZ 30 [] []
instance k29 (x0:Ab) (x1:Ab):Fv 29 [.agg (d88 x0),.agg (d88 x1)] (λ (r:Bool)=>dB r) (some (F29 x0 x1)):=
 fnJ Tryz.func29 n5_<|jZ 25 [] []
instance k197 (x0:Ab):Fv 197 [.agg (d88 x0)] (λ (r:Bool)=>dB r) (some (Xp x0)):=
 fnJ Tryz.func197 n3_<|jZ 25 [] []
instance k23 (x0:List Ab) (x1:Ab):Fv 23 [.d (DS q88 x0),.agg (d88 x1)] (λ (r:Bool)=>dB r) (F23 x0 x1):=
 fnJ Tryz.func23 [0,1,3,4,6,7,8,9,10,15]<|jl q88 x0<|jG 26 [] [0] [3,4,7,8,9] (kF λ n0 z0=>[(9,dI (cnt 0 n0))]) iF (cA λ z0=>[(4,dB false)]) (cA λ z0=>[]) (lnS q88 7) 26 [] (λ _ _ _ _ _ _ _ _=>jI (λ h1=>jZ1 35 [] []) λ h1=>jX 36 [] [0]) λ z0=>jZ 23 [] []
instance k126 (x0:ByteArray):Fv 126 [.d (.p (.v (.string x0)))] (λ (r:Bool)=>dB r) (Atn x0):=
 fnJ Tryz.func126 [0,2,3,21,25,56]<|jB λ y1 h2=>jC [⟨.when [((((x0.size:Int)==0) || (decide ((x0.size:Int)>12))),false)] (.byte x0 0 y1),λ hg=>Js (B4 h2 hg)⟩]<|jB λ y3 h4=>jC [⟨.when [(((((x0.size:Int)==0) || (decide ((x0.size:Int)>12))) || (decide ((y1.toNat:Int)<97))),false)] (.byte x0 0 y3),λ hg=>Js (B4 h4 hg)⟩]<|jS 26 [] [] [0,2,21]<|jI (λ h5=>jZ 24 [] []) λ h5=>jW 26 [] [] [0,2,3] (kW λ z0=>[(3,dI z0)]) iA (kA [2] λ z0=>[]) iA (λ _ _ z0=>jI (λ h6=>jB λ y7 h8=>jC [⟨.byte x0 z0 y7,Js h8⟩]<|jB λ y9 h10=>jC [⟨.when [(decide ((y7.toNat:Int)>=97),true)] (.byte x0 z0 y9),λ hg=>Js (B4 h10 hg)⟩]<|jB λ y11 h12=>jC [⟨.when [(((decide ((y7.toNat:Int)>=97))&&(decide ((y9.toNat:Int)<=122))),false)] (.byte x0 z0 y11),λ hg=>Js (B4 h12 hg)⟩]<|jB λ y13 h14=>jC [⟨.when [(((decide ((y7.toNat:Int)>=97))&&(decide ((y9.toNat:Int)<=122))),false),(decide ((y11.toNat:Int)>=48),true)] (.byte x0 z0 y13),λ hg=>Js (B4 h14 hg)⟩]<|jB λ y15 h16=>jC [⟨.when [((((decide ((y7.toNat:Int)>=97))&&(decide ((y9.toNat:Int)<=122))) || ((decide ((y11.toNat:Int)>=48))&&(decide ((y13.toNat:Int)<=57)))),false)] (.byte x0 z0 y15),λ hg=>Js (B4 h16 hg)⟩]<|jS 30 [] [] [0,2,3,56]<|jI (λ h17=>jZ1 24 [] []) λ h17=>jX 25 [] []) λ h6=>jY 26 [] []) λ z0=>jZ 23 [] []
instance k221 (x0:Aa):Fv 221 [.agg (d38 x0)] (λ (r:Bool)=>dB r) (Aki x0):=
 fnJ Tryz.func221 [0,1,2,3,4,6,7,8,10,11,12,13,23,25,26,37,38,47,48,57,61,62,63,64,69,74,75,76,82,86,87,88,94]<|jl Bs x0.Ah<|jG 26 [] [0] [1,2,10,11,12] (kF λ n0 z0=>[(12,dI (cnt 0 n0))]) iF (kA [1,2] λ z0=>[]) iA (lnS Bs 10) 26 [0] (λ _ _ n0 a0 _ _ _ _=>jT [] (Ce a0.A 0 (w64 (x0.Am-1)))<|jS 33 [] [0,1] [1,2,3,4,10,11,12,23]<|jI (λ h1=>jZ1 24 [] []) λ h1=>jI (λ h2=>jT [] (Ce a0.B (w64 (a0.A+1)) (w64 (x0.Am-1)))<|jI (λ h3=>jZ1 34 [] []) λ h3=>jX 36 [] [0]) λ h2=>jI (λ h4=>jl Cd x0.Ae<|jT [] (Ce a0.B 0 (w64 ((ln x0.Ae)-1)))<|jS 34 [] [0] [1,2,10,11,12,47]<|jI (λ h5=>jZ1 24 [] []) λ h5=>jX 26 [] [0]) λ h4=>jI (λ h6=>jl B0 x0.Ag<|jT [] (Ce a0.B 0 (w64 ((ln x0.Ag)-1)))<|jS 38 [] [0,1] [1,2,3,4,10,11,12,57]<|jI (λ h7=>jZ1 24 [] []) λ h7=>jB λ y9 h8=>jC [⟨_,qK Bs 3 (λ _=>rfl) h8⟩]<|jl Bs y9<|jG 25 [] [0,1] [1,2,4,10,11,12,61,62,63] (kF λ n1 z1=>[(63,dI (cnt 0 n1))]) iF (cA λ z1=>[(1,dO 0 0),(2,dB false),(10,.d (DS Bs x0.Ah)),(11,dI (ln x0.Ah)),(12,dI (cnt 0 n0))]) (cA λ z1=>[.box 38 (d38 x0)]) (lnS Bs 61) 26 [0] (λ _ _ _ _ _ _ _ _=>jI (λ h10=>jR (q2 q1) 35 [] []) λ h10=>jX 36 [] [0,1]) λ z1=>jX 24 [] [0]) λ h6=>jZ1 37 [] []) λ z0=>jl Cd x0.Ae<|jW 24 [] [0] [1,2,74,75] (kW λ z2=>[(75,dI z2)]) iA (kA [1,2] λ z2=>[]) iA (λ _ _ z2=>jI (λ h11=>jb [] λ y12=>jl pI y12<|jS 32 [] [0] [1,2,74,75,82]<|jI (λ h14=>jZ1 24 [] []) λ h14=>jX 25 [] [0]) λ h11=>jY 26 [] [0]) λ z2=>jl B0 x0.Ag<|jW 24 [] [0] [1,2,86,87] (kW λ z3=>[(87,dI z3)]) iA (cA λ z3=>[(2,dB false)]) (cA λ z3=>[]) (λ _ _ z3=>jI (λ h15=>jb [] λ y16=>jl pI y16<|jS 32 [] [0] [1,2,86,87,94]<|jI (λ h18=>jZ1 24 [] []) λ h18=>jX 25 [] [0]) λ h15=>jY 26 [] []) λ z3=>jZ 23 [] []
instance k222 (x0:Aa):Fv 222 [.agg (d38 x0)] (λ (r:Bool)=>dB r) (Akh x0):=
 fnJ Tryz.func222 [0,1,2,4,6,7,8,9,29]<|jl Cd x0.Ae<|jG 26 [] [] [2,6,7,8] (kF λ n0 z0=>[(8,dI (cnt 0 n0))]) iF (kA [2] λ z0=>[]) iA (lnS Cd 6) 26 [] (λ _ _ _ a0 _ _ _ _=>jT [] (Ce a0.Rating 1 50000)<|jTw [(!(Ce a0.Rating 1 50000),false)] [] (Ce a0.Least 0 a0.Rating)<|jTw [(((!(Ce a0.Rating 1 50000)) || (!(Ce a0.Least 0 a0.Rating))),false)] [] (Ce a0.Start 0 600)<|jS 32 [] [] [2,6,7,8,29]<|jI (λ h1=>jZ1 24 [] []) λ h1=>jX 25 [] []) λ z0=>jZ 23 [] []
instance k223 (x0:Aa):Fv 223 [.agg (d38 x0)] (λ (r:Bool)=>dB r) (Akg x0):=
 fnJ Tryz.func223 [0,1,2,3,4,5,6,8,9,10,11,44,46,47,48,49,71]<|jl B0 x0.Ag<|jG 26 [] [] [2,8,9,10] (kF λ n0 z0=>[(10,dI (cnt 0 n0))]) iF (kA [2] λ z0=>[]) iA (lnS B0 8) 26 [] (λ _ _ n0 a0 _ _ _ _=>jT [] (Ce a0.Load 0 50000)<|jTw [(!(Ce a0.Load 0 50000),false)] [] (Ce a0.Least 0 a0.Load)<|jTw [(((!(Ce a0.Load 0 50000)) || (!(Ce a0.Least 0 a0.Load))),false)] [] (Ce a0.Bz 0 15)<|jTw [((((!(Ce a0.Load 0 50000)) || (!(Ce a0.Least 0 a0.Load))) || (!(Ce a0.Bz 0 15))),false)] [] (Ce a0.Thruster (-1) 7)<|jC [⟨.when [(((((!(Ce a0.Load 0 50000)) || (!(Ce a0.Least 0 a0.Load))) || (!(Ce a0.Bz 0 15))) || (!(Ce a0.Thruster (-1) 7))),false)] _,λ hg=>okL pI a0.Needs⟩]<|jS 33 [] [0] [2,3,4,8,9,10,44]<|jI (λ h1=>jZ1 24 [] []) λ h1=>jl pI a0.Needs<|jF 25 [] [0] [2,3,4,8,9,10,46,47,48] (kF λ n1 z1=>[(48,dI (cnt 0 n1))]) iF (cA λ z1=>[(2,dB false),(8,.d (DS B0 x0.Ag)),(9,dI (ln x0.Ag)),(10,dI (cnt 0 n0))]) (cA λ z1=>[]) (lnS pI 46) 26 [] (λ _ _ _ a1 _ hl1 _ hx1=>jC [⟨_,Bm hx1 hl1⟩]<|jT [] (Ce a1 0 (w64 ((cnt 0 n0)-1)))<|jb [] λ y2=>jS 32 [] [0] [2,3,4,8,9,10,46,47,48,71]<|jI (λ h4=>jR (q2 q1) 24 [] []) λ h4=>jX 25 [] [0]) λ z1=>jX 23 [] []) λ z0=>jZ 23 [] []
instance k143 (x0:Aa) (x1:Ab):Fv 143 [.agg (d38 x0),.agg (d88 x1)] (λ (r:Bool)=>dB r) (some (Ve x0 x1)):=
 fnJ Tryz.func143 [0,1,2,3,4,6,7,16,25,33]<|jIp (λ h1=>jl Cd x0.Ae<|jT [] (Ce x1.Number 0 (w64 ((ln x0.Ae)-1)))<|jZ 32 [] []) λ h1=>jIp (λ h2=>jl Bs x0.Ah<|jT [] (Ce x1.Number 0 (w64 ((ln x0.Ah)-1)))<|jZ 35 [] []) λ h2=>jIp (λ h3=>jT [] (Ce x1.Number 0 (w64 (x0.Am-1)))<|jZ 38 [] []) λ h3=>jIp (λ h4=>jl B0 x0.Ag<|jT [] (Ce x1.Number 0 (w64 ((ln x0.Ag)-1)))<|jZ 41 [] []) λ h4=>jZ 43 [] []
theorem A39:EN 143:=en Tryz.func143
instance k63 (x0:Ad) (x1:Ad):Fv 63 [.agg (d64 x0),.agg (d64 x1)] (λ (r:Bool)=>dB r) (F63 x0 x1):=
 fnJ Tryz.func63 [0,1,2,3,4,5,6,38,41,42,43,55,59,60,61,73]<|jb [] λ y1=>jb [] λ y3=>jC [⟨.when [(((!y1) || (!y3)),false)] _,λ hg=>okL Bf x0.Ae⟩,⟨.when [(((!y1) || (!y3)),false)] _,λ hg=>okL Bf x1.Ae⟩,⟨.when [((((!y1) || (!y3)) || ((ln x0.Ae) != (ln x1.Ae))),false)] _,λ hg=>okL q88 x0.Al⟩,⟨.when [((((!y1) || (!y3)) || ((ln x0.Ae) != (ln x1.Ae))),false)] _,λ hg=>okL q88 x1.Al⟩]<|jS 26 [] [0,1] [2,3,4,38]<|jI (λ h5=>jN) λ h5=>jl Bf x0.Ae<|jW 26 [] [0,1] [2,3,4,41,42] (kW λ z0=>[(42,dI z0)]) iA (kA [2,3,4] λ z0=>[]) iA (λ _ _ z0=>jI (λ h6=>jb [] λ y7=>jb [] λ y9=>jI (λ h11=>jN) λ h11=>jX 36 [] [0,1]) λ h6=>jY 26 [] [0,1]) λ z0=>jl q88 x0.Al<|jW 24 [] [0,1] [2,3,4,59,60] (kW λ z1=>[]) iA (cA λ z1=>[(4,dB false)]) (cA λ z1=>[]) (λ _ _ z1=>jI (λ h12=>jN) λ h12=>jY 26 [] []) λ z1=>jZ 23 [] []
instance k359 (x0:Int) (x1:Int):Fv 359 [dI x0,dI x1] (λ (r:Int)=>dI r) (A1m x0 x1):=
 fnJ Tryz.func359 [0,1,4,5,13]<|jT [] (Kx x1)<|jT [] (Kx x0)<|jT [] (Kx (w64 ((Kx x1)-(Kx x0))))<|jS 28 [] [] [4,5,13]<|jI (λ h1=>jN) λ h1=>jZ 25 [] []
instance k269 (x0:Aa) (x1:Ad) (x2:Int):Fv 269 [.agg (d38 x0),.agg (d64 x1),dI x2] (λ (r:Bool)=>dB r) (A1z x0 x1 x2):=
 fnJ Tryz.func269 [0,1,2,3,4,6,7,16,18,19,25]<|jb [] λ y1=>jb [] λ y3=>jS 28 [] [1,2] [4,6,7,16]<|jI (λ h5=>jN) λ h5=>jI (λ h6=>jN) λ h6=>jI (λ h7=>jb [] λ y8=>jb [] λ y10=>jZ 35 [] []) λ h7=>jb [] λ y12=>jZ 37 [] []
instance k298 (x0:List Int) (x1:Int):Fv 298 [.d (DS pI x0),dI x1] (λ (r:Bool)=>dB r) (Ux x0 x1):=
 fnJ Tryz.func298 [0,1,4]<|jb [] λ y1=>jZ 25 [] []
theorem A3x:EN 298:=en Tryz.func298
instance k342s0 (x0:List (List Int)):Fv 342 [.d (DS (pL pI) x0),.d (.fn (.func 300) [] [])] (λ (r:Int)=>dI r) (Ad0 x0):=
 fnJ Tryz.func342 [0,1,4,5,7,8,9,16]<|jC [⟨_,okL (pL pI) x0⟩]<|jG 26 [] [] [0,1,4,7,8] (kF λ n0 z0=>[(8,dI (cnt 0 n0))]) iF (kA [4] λ z0=>[]) iA (lnS (pL pI) 0) 26 [] (λ _ _ _ a0 _ _ _ _=>jT [] (Atg a0)<|jI (λ h1=>jZ1 35 [] []) λ h1=>jX 36 [] []) λ z0=>jZ 23 [] []
instance k247 (x0:B1):Fv 247 [.agg (A4b x0)] (λ (r:Bool)=>dB r) (some (Aed x0)):=
 fnJ Tryz.func247 n3_<|jT [] (Bl x0.Rating 1 50000)<|jTw [(Bl x0.Rating 1 50000,true)] [] (Bl x0.Least 0 x0.Rating)<|jTw [(((Bl x0.Rating 1 50000)&&(Bl x0.Least 0 x0.Rating)),true)] [] (Bl x0.Start 0 600)<|jZ 25 [] []
instance k248 (x0:A7) (x1:Int):Fv 248 [.agg (Azi x0),dI x1] (λ (r:Bool)=>dB r) (Aec x0 x1):=
 fnJ Tryz.func248 [0,1,2,4,5,6,8,9,10,11,33]<|jl pI x0.Needs<|jF 26 [] [0] [1,2,4,8,9,10] (kF λ n0 z0=>[(10,dI (cnt 0 n0))]) iF (kA [2,4] λ z0=>[]) iA (lnS pI 8) 26 [0] (λ _ _ _ a0 _ hl0 _ hx0=>jC [⟨_,Bm hx0 hl0⟩]<|jT [] (Bl a0 0 (w64 (x1-1)))<|jb [] λ y1=>jS 32 [] [0] [1,2,4,8,9,10,33]<|jI (λ h3=>jZ1 24 [] []) λ h3=>jX 25 [] [0]) λ z0=>jT [] (Bl x0.Load 0 50000)<|jTw [(Bl x0.Load 0 50000,true)] [] (Bl x0.Least 0 x0.Load)<|jTw [(((Bl x0.Load 0 50000)&&(Bl x0.Least 0 x0.Load)),true)] [] (Bl x0.Bz 0 15)<|jTw [((((Bl x0.Load 0 50000)&&(Bl x0.Least 0 x0.Load))&&(Bl x0.Bz 0 15)),true)] [] (Bl x0.Thruster (-1) 7)<|jC [⟨.when [(((((Bl x0.Load 0 50000)&&(Bl x0.Least 0 x0.Load))&&(Bl x0.Bz 0 15))&&(Bl x0.Thruster (-1) 7)),true)] _,λ hg=>okL pI x0.Needs⟩]<|jZ 23 [] []
instance k173 (x0:Int) (x1:Int):Fv 173 [dI x0,dI x1] (λ (r:Int)=>dI r) (some (Io x0 x1)):=
 fnJ Tryz.func173 [0,1,4,5,6,11,12,13,16,19]<|jT [] (Pg x0)<|jT [] (Pg x1)<|jIp (λ h1=>jIp (λ h2=>jZ 37 [] []) λ h2=>jZ 38 [] []) λ h1=>jIp (λ h3=>jZ 38 [] []) λ h3=>jIp (λ h4=>jZ 43 [] []) λ h4=>jIp (λ h5=>jZ 48 [] []) λ h5=>jZ 49 [] []
instance k179 (x0:Aj):Fv 179 [.agg (W7 x0)] (λ (r:Bool)=>dB r) (some (U3 x0)):=
 fnJ Tryz.func179 n3_<|jT [] (Bl x0.State 0 3)<|jTw [(Bl x0.State 0 3,true)] [] (Bl x0.Since 0 2147483648)<|jTw [(((Bl x0.State 0 3)&&(Bl x0.Since 0 2147483648)),true)] [] (Bl x0.Aq 0 6000)<|jTw [((((Bl x0.State 0 3)&&(Bl x0.Since 0 2147483648))&&(Bl x0.Aq 0 6000)),true)] [] (Bl x0.Phase 0 3599)<|jZ 25 [] []
instance k152 (x0:Ad):Fk 152 [.agg (d64 x0)] [] (λ (r:Ad)=>.agg [.os 0,.os 1,.os 2,.os 3]) (λ r=>(zp r [])) (Ml x0):=
 fnJ Tryz.func152 n3_<|jB λ y1 h2=>jC [⟨_,okC [] Aza (Ax3 x0.Ai _ h2)⟩]<|jB λ y3 h4=>jC [⟨_,okC [] Ay9 (Ax2 x0.Ae _ h4)⟩]<|jB λ y5 h6=>jC [⟨_,okC [] Ajb (Ais x0.An _ h6)⟩]<|jB λ y7 h8=>jC [⟨_,okC [] Azf (Aq5 x0.Al _ h8)⟩]<|jZ 25 [] [2,3,4,5]
theorem A37:EN 152:=en Tryz.func152
instance k229 (x0:Aa) (x1:Ad) (x2:Int):Fv 229 [.agg (d38 x0),.agg (d64 x1),dI x2] (λ (r:Int×Bool)=>.tup [dI r.1,dB r.2]) (uC x0 x1 x2):=
 fnJ Tryz.func229 [0,1,2,3,4,6,7,23]<|jl Bf x1.Ae<|jT [] (Bl x2 0 (w64 ((ln x1.Ae)-1)))<|jb [] λ y1=>jS 26 [] [0,1] [2,3,4,6,7,23]<|jI (λ h3=>jZ 24 [] []) λ h3=>jb [] λ y4=>jZ 25 [] []
instance k230 (x0:Aa) (x1:Ad) (x2:Int):Fv 230 [.agg (d38 x0),.agg (d64 x1),dI x2] (λ (r:Int×Bool)=>.tup [dI r.1,dB r.2]) (uB x0 x1 x2):=
 fnJ Tryz.func230 [0,1,2,3,4,6,7]<|jb [] λ y1=>jZ 25 [] []
instance k292s0 (x0:List Ap):Fv 292 [.d (DS Br x0),.d (.fn (.func 232) [] [])] (λ (r:Int)=>dI r) (Zh x0):=
 fnJ Tryz.func292 [0,1,4,5,7,8,9,16]<|jl Br x0<|jG 26 [] [] [0,1,4,7,8] (kF λ n0 z0=>[(8,dI (cnt 0 n0))]) iF (kA [4] λ z0=>[]) iA (lnS Br 0) 26 [] (λ _ _ _ a0 _ _ _ _=>jT [] (Ake a0)<|jS 32 [] [] [0,1,4,5,7,8,16]<|jI (λ h1=>jZ1 24 [] []) λ h1=>jX 25 [] []) λ z0=>jZ 23 [] []
theorem Amv:EN 292:=en Tryz.func292
instance k99 (x0:Ad) (x1:Ad):Fv 99 [.agg (d64 x0),.agg (d64 x1)] (λ (r:Bool)=>dB r) (F99 x0 x1):=
 fnJ Tryz.func99 n5_<|jb [] λ y1=>jb [] λ y3=>jb [] λ y5=>jb [] λ y7=>jZ 25 [] []
instance k101s0 (x0:A9) (x1c0:As):Fk 101 [.agg (Arv x0),dO 0 0] [.box 193 [.fn (.func 97) [] [.o 1 0]],.box 68 (d68 x1c0)] (λ (r:Bool×As)=>dB r.1) (λ r=>[.box 193 [.fn (.func 97) [] [.o 1 0]],.box 68 (d68 r.2)]) (some (Gh x0 x1c0)):=
 fnJ Tryz.func101 n4_<|jC [⟨_,Ez ⟨At1,(k97s0 x0.High x1c0 _ rfl)⟩⟩,⟨.when [(!(Y1 x0.High x1c0),false)] _,λ hg=>Ez ⟨At1,(k97s0 x0.Low x1c0 _ rfl)⟩⟩]<|jZ 25 [] [0,1]
instance k161 (x0:Ab):Fv 161 [.agg (d88 x0)] (λ (r:Bool)=>dB r) (some (uM x0)):=
 fnJ Tryz.func161 n3_<|jT [] (Aeq x0)<|jZ 25 [] []
instance k109 (x0:List Ab) (x1:Ab):Fv 109 [.d (DS q88 x0),.agg (d88 x1)] (λ (r:Bool)=>dB r) (Aew x0 x1):=
 fnJ Tryz.func109 [0,1,3,4]<|jb [] λ y1=>jZ 25 [] []
instance k234s1 (x0:List Bn) (x1c0:Bn):Fk 234 [.d (DS Gk x0),.d (.fn (.func 167) [] [.o 0 0])] [.box 166 (Acf x1c0)] (λ (r:Int×Bn)=>dI r.1) (λ r=>[.box 166 (Acf r.2)]) (Aef x0 x1c0):=
 fnJ Tryz.func234 [0,1,4,5,7,8,9,16]<|jl Gk x0<|jG 26 [] [0] [0,1,4,7,8] (kF λ n0 z0=>[(8,dI (cnt 0 n0))]) iF (kA [4] λ z0=>[]) iA (lnS Gk 0) 26 [0] (λ _ _ _ a0 _ _ _ _=>jC [⟨_,Ez ⟨Ay6,(k167s0 a0 x1c0 _ rfl)⟩⟩]<|jS 32 [] [0] [0,1,4,5,7,8,16]<|jI (λ h1=>jZ1 24 [] [0]) λ h1=>jX 25 [] [0]) λ z0=>jZ 23 [] [0]
instance k251 (x0:Aa) (x1:Aw):Fv 251 [.agg (d38 x0),.agg (O9 x1)] (λ (r:Bool)=>dB r) (Akc x0 x1):=
 fnJ Tryz.func251 [0,1,2,3,4,6,7,14,21,27,39]<|jS 30 [] [0,1] [2,3,4,6,7]<|jM (kA [2,3,4,6] λ z0=>[(7,dB z0)]) iA (λ _=>jI (λ h1=>jX 23 [] [0,1]) λ h1=>jX 23 [] [0,1]) λ z0=>jI (λ h2=>jT [] (Hy x0 2 x1.Unit)<|jZ 24 [] []) λ h2=>jS 25 [] [0,1] [2,3,4,6,14]<|jM (kA [2,3,4,6] λ z1=>[(14,dB z1)]) iA (λ _=>jI (λ h3=>jX 23 [] [0,1]) λ h3=>jX 23 [] [0,1]) λ z1=>jI (λ h4=>jT [] (Hy x0 1 x1.Unit)<|jZ 24 [] []) λ h4=>jI (λ h5=>jT [] (Hy x0 4 x1.Unit)<|jZ 27 [] []) λ h5=>jI (λ h6=>jT [] (Hy x0 1 x1.Unit)<|jTw [(Hy x0 1 x1.Unit,true)] [] (Hy x0 3 x1.Value)<|jZ 30 [] []) λ h6=>jI (λ h7=>jK true h7<|jT [] (Hy x0 x1.Value x1.Unit)<|jZ 36 [] []) λ h7=>jI (λ h8=>jT [] (Hy x0 x1.Value x1.Unit)<|jZ 36 [] []) λ h8=>jZ 38 [] []
instance k406 (x0:Int) (x1:Int):Fv 406 [dI x0,dI x1] (λ (r:Int)=>dI r) (some (Ajy x0 x1)):=
 fnJ Tryz.func406 [0,1,4,5,13]<|jT [] (E0 x1)<|jT [] (E0 x0)<|jT [] (E0 (w64 ((E0 x1)-(E0 x0))))<|jS 28 [] [] [4,5,13]<|jIp (λ h1=>jZ 25 [] []) λ h1=>jZ 25 [] []
instance k398s1 (x0:List Ak) (x1c0:Int):Fk 398 [.d (DS Bs x0),.d (.fn (.func 399) [] [.o 0 0])] [.box 3 [I x1c0]] (λ (r:Int×Int)=>dI r.1) (λ r=>[.box 3 [I r.2]]) (Adu x0 x1c0):=
 fnJ Tryz.func398 [0,1,4,5,7,8,9,16]<|jl Bs x0<|jG 26 [] [0] [0,1,4,7,8] (kF λ n0 z0=>[(8,dI (cnt 0 n0))]) iF (kA [4] λ z0=>[]) iA (lnS Bs 0) 26 [0] (λ _ _ _ a0 _ _ _ _=>jC [⟨_,Ez ⟨Ayr,(k399s0 a0 x1c0 _ rfl)⟩⟩]<|jS 32 [] [0] [0,1,4,5,7,8,16]<|jI (λ h1=>jZ1 24 [] [0]) λ h1=>jX 25 [] [0]) λ z0=>jZ 23 [] [0]
instance k348s0 (x0:List Ab) (x1:Ab):Fv 348 [.d (DS q88 x0),.agg (d88 x1),.d (.fn (.func 349) [] [])] (λ (r:Int×Bool)=>.tup [dI r.1,dB r.2]) (Y7 x0 x1):=
 fnJ Tryz.func348 [0,1,2,4,6,7,8,9,10,11,17,31]<|jl q88 x0<|jW 28 [] [0] [0,2,4,6,7,8,9,10] (kW λ z0=>[(9,dI z0.1),(10,dI z0.2)]) iA (kA [0,2,4,6,7,8] λ z0=>[(9,dI z0.1)]) iA (λ _ _ z0=>jI (λ h1=>jb [] λ y2=>jT [] (R5 y2 x1)<|jS 31 [] [0] [0,2,4,6,7,8,9,10,11,31]<|jI (λ h4=>jX 24 [] [0]) λ h4=>jX 24 [] [0]) λ h1=>jY 26 [] [0]) λ z0=>jb [] λ y5=>jTw [(decide (z0.1<(ln x0)),true)] [] (R5 y5 x1)<|jZ 23 [] []
instance k310s5 (x0:A2) (x1c0:Int):Fk 310 [dO 0 0,.d (.fn (.func 357) [] [.o 6 0])] (.box 373 (zb x0.Ao [.os 1,.os 2,.os 3,.os 4,.os 5])::zp x0.Au [v3_ x0.acts,.box 3 [I x1c0]]) (λ (r:A2×Int)=>.tup []) (λ r=>(.box 373 (zb r.1.Ao [.os 7,.os 8,.os 9,.os 10,.os 11]) :: .non :: .non :: .non :: .non :: .non :: .box 3 [I r.2]::zp r.1.Au [v3_ r.1.acts])) (Y_ x0 x1c0):=
 fnJ Tryz.func310 [0,1,4,5,6,8,13,14,15,16,32,38,39,40,41]<|jl Bs x0.Ao.Ah<|jF 26 [.own 4 3 1,.mv 1,.mv 2,.mv 3,.mv 4,.mv 5] E5 [0,1,4,13,14,15] (kF λ n0 z0=>[(15,dI (cnt 0 n0))]) (uF λ n0 z0=>[(7,v0_ z0)]) (kA [0,4] λ z0=>[]) (uA λ z0=>[(7,v0_ z0)]) (lnS Bs 13) 26 E5 (λ _ _ _ a0 _ hl0 _ hx0=>jC [⟨_,Bm hx0 hl0⟩]<|jr λ y1 _=>jC [⟨.when [(y1,true)] _,λ hg=>Ez ⟨Ayt,(k357s0 a0 x1c0 _ rfl)⟩⟩]<|jS 32 [] E5 [0,1,4,5,13,14,15,32]<|jI (λ h3=>jB λ y4 h5=>jC [⟨_,A8 pI 1 (λ _=>rfl) h5⟩]<|jX 25 [] [0,1,2,3,4,5,6,13,8,9,10,11,12]) λ h3=>jX 25 [] E5) λ z0=>jl pI z0<|jF 23 [] E5 [0,38,39,40] (kF λ n1 z1=>[(40,dI (cnt 0 n1))]) (uF λ n1 z1=>[(0,.box 373 [I z1.1,DS Bs z1.2.1,DS Cd z1.2.2.1,DS B0 (g3_ z1),I (g4_ z1),I (g5_ z1),.os 8,.os 9,.os 10,.os 11,.os 12]),(8,v5_ (g6_ z1)),(9,v4_ (g7_ z1)),(10,v0_ (g8_ z1)),(11,v1_ (g9_ z1)),(12,v3_ (Lj z1))]) (cA λ z1=>[]) (cA λ z1=>[.box 373 [I z1.1,DS Bs z1.2.1,DS Cd z1.2.2.1,DS B0 (g3_ z1),I (g4_ z1),I (g5_ z1),.os 7,.os 8,.os 9,.os 10,.os 11],.non,.non,.non,.non,.non,.box 3 [I x1c0],v5_ (g6_ z1),v4_ (g7_ z1),v0_ (g8_ z1),v1_ (g9_ z1),v3_ (Lj z1)]) (lnO pI 38 7 3 1) 26 [0,1,2,3,4,5,6,8,9,10,11,12] (λ _ _ _ _ _ hl1 _ hx1=>jC [⟨_,Az (enc:=pI) (Bd hx1 hl1)⟩,⟨_,Bi (enc:=pI) (Bd hx1 hl1)⟩]<|jb [0,8,9,10,11,12] λ y6=>jX 33 [] [0,1,2,3,4,5,6,7,8,9,10,11,13]) λ z1=>jE id 20 [] Eu
instance k320 (x0:Cf):Fv 320 [.agg (qJ x0)] (λ (r:Int)=>dI r) (some (Atf x0)):=
 fnJ Tryz.func320 n3_<|jT [] (E0 (w64 (x0.To-x0.From)))<|jZ 25 [] []
instance k114s1 (x0:List A7) (x1c0:Int):Fk 114 [.d (DS B0 x0),.d (.fn (.func 115) [] [.o 0 0])] [.box 3 [I x1c0]] (λ (r:Int×Int)=>dI r.1) (λ r=>[.box 3 [I r.2]]) (Zt x0 x1c0):=
 fnJ Tryz.func114 [0,1,4,5,7,8,9,16]<|jl B0 x0<|jG 26 [] [0] [0,1,4,7,8] (kF λ n0 z0=>[(8,dI (cnt 0 n0))]) iF (kA [4] λ z0=>[]) iA (lnS B0 0) 26 [0] (λ _ _ _ a0 _ _ _ _=>jC [⟨_,Ez ⟨Aze,(k115s0 a0 x1c0 _ rfl)⟩⟩]<|jS 32 [] [0] [0,1,4,5,7,8,16]<|jI (λ h1=>jZ1 24 [] [0]) λ h1=>jX 25 [] [0]) λ z0=>jZ 23 [] [0]
theorem Ax0 (rec116:Aa->Ad->Int->Option Bool) (ih116:∀ (x0:Aa) (x1:Ad) (x2:Int) (r:Bool),rec116 x0 x1 x2=some r->CO 116 [.agg (d38 x0),.agg (d64 x1),.d (I x2)] [] (.d (Bo r)) []) (x0:Int) (x1:Aa) (x2:Ad):Fv 193 [.d (I x0),.d (.ip [.v (.int .i64 x1.Am),.s (x1.Ah.map Bs),.s (x1.Ae.map Cd),.s (x1.Ag.map B0),.v (.int .i64 x1.Phase),.v (.int .i64 x1.Aq)]),.d (.ip [.s (x2.Ai.map pB),.s (x2.Ae.map Bf),.s (x2.An.map pI),.s (x2.Al.map q88)])] (λ (r:Bool)=>.d (Bo r)) (Aek rec116 x0 x1 x2):=
 fnJ Tryz.func193 [0,1,2,4]<|jB λ y1 h2=>jC [⟨_,okC [] Azd (ih116 x1 x2 x0 _ h2)⟩]<|jZ 25 [] []
theorem Ay3:EN 193:=en Tryz.func193
instance k322 (x0:Int) (x1:Int):Fv 322 [dI x0,dI x1] (λ (r:Int)=>dI r) (Ate x0 x1):=
 fnJ Tryz.func322 [0,1,4]<|jb [] λ y1=>jZ 25 [] []
instance k56 (x0:As):Fk 56 [.agg (d68 x0)] [] (λ (r:As)=>.agg [I r.Time,.os 0,.os 1,.os 2,.os 3,.os 4,.os 5]) (λ r=>(zp r.Power [v6_ r.Ba,v2_ r.Bh])) (F56 x0):=
 fnJ Tryz.func56 n3_<|jB λ y1 h2=>jC [⟨_,okC [] Azc (Ax5 x0.Ba _ h2)⟩]<|jB λ y3 h4=>jC [⟨_,okC [] Azb (Ax4 x0.Bh _ h4)⟩]<|jB λ y5 h6=>jC [⟨_,okC [] Aza (Ax3 x0.Power.Ai _ h6)⟩]<|jB λ y7 h8=>jC [⟨_,okC [] Ay9 (Ax2 x0.Power.Ae _ h8)⟩]<|jB λ y9 h10=>jC [⟨_,okC [] Ajb (Ais x0.Power.An _ h10)⟩]<|jB λ y11 h12=>jC [⟨_,okC [] Azf (Aq5 x0.Power.Al _ h12)⟩]<|jZ 31 [] [4,5,6,7,2,3]
instance k141 (x0:Aa):Fv 141 [.agg (d38 x0)] (λ (r:Int)=>dI r) (Xr x0):=
 fnJ Tryz.func141 [0,1,2,28,61]<|jC [⟨.when [(((decide (x0.Am<1)) || (decide (x0.Am>6))),false)] _,λ hg=>okL Bs x0.Ah⟩,⟨.when [((((decide (x0.Am<1)) || (decide (x0.Am>6))) || (decide ((ln x0.Ah)>24))),false)] _,λ hg=>okL Cd x0.Ae⟩,⟨.when [(((((decide (x0.Am<1)) || (decide (x0.Am>6))) || (decide ((ln x0.Ah)>24))) || (decide ((ln x0.Ae)>8))),false)] _,λ hg=>okL B0 x0.Ag⟩]<|jS 26 [] [0] [1,2,28]<|jI (λ h1=>jZ 24 [] []) λ h1=>jb [] λ y2=>jb [] λ y4=>jb [] λ y6=>jS 26 [] [] [2,61]<|jI (λ h8=>jZ 24 [] []) λ h8=>jZ 25 [] []
instance k324 (x0:Aa) (x1:Aj) (x2:Aj):Fv 324 [.agg (d38 x0),.agg (W7 x1),.agg (W7 x2)] (λ (r:Bool)=>dB r) (A1s x0 x1 x2):=
 fnJ Tryz.func324 [0,1,2,3,4,5,6,8,9,10,15,16,17,24]<|jD true<|jD true<|jK true rfl<|jI (λ h1=>jN) λ h1=>jK true rfl<|jI (λ h2=>jN) λ h2=>jK false rfl<|jb [] λ y3=>jZ 69 [] []
instance k299s0 (x0:List (List Int)):Fv 299 [.d (DS (pL pI) x0),.d (.fn (.func 300) [] [])] (λ (r:Bool)=>dB r) (Zg x0):=
 fnJ Tryz.func299 [0,1,4]<|jb [] λ y1=>jZ 25 [] []
instance k176 (x0:Aa) (x1:List Ab):Fv 176 [.agg (d38 x0),.d (DS q88 x1)] (λ (r:Bool)=>dB r) (Akp x0 x1):=
 fnJ Tryz.func176 [0,1,2,4,5,6,7,8,9,10,49]<|jl q88 x1<|jF 26 [] [0] [1,2,4,7,8,9] (kF λ n0 z0=>[(9,dI (cnt 0 n0))]) iF (cA λ z0=>[(1,.d (DS q88 x1)),(4,dB false)]) (cA λ z0=>[]) (lnS q88 7) 26 [] (λ _ _ n0 a0 _ hl0 _ hx0=>jC [⟨_,Bm hx0 hl0⟩]<|jT [] (Mj x0 a0.Kind)<|jT [] (Bl a0.Number 0 (w64 ((Mj x0 a0.Kind)-1)))<|jb [] λ y1=>jTw [(!(Bl a0.Number 0 (w64 ((Mj x0 a0.Kind)-1))),false),(decide ((cnt 0 n0)>0),true)] [] (Io y1.Kind a0.Kind)<|jb [] λ y3=>jTw [(!(Bl a0.Number 0 (w64 ((Mj x0 a0.Kind)-1))),false),(decide ((cnt 0 n0)>0),true)] [] (Io y3.Number a0.Number)<|jb [] λ y5=>jS 32 [] [0] [1,2,4,7,8,9,49]<|jI (λ h7=>jZ1 24 [] []) λ h7=>jX 25 [] [0]) λ z0=>jl q88 x1<|jZ 23 [] []
instance k57 (x0:List Int) (x1:List Int):Fk 57 [.d (DS pI x0),.d (DS pI x1)] [] (λ (r:(List Int))=>dS 0) (λ r=>[v0_ r]) (F57 x0 x1):=
 fnJ Tryz.func57 [0,1,4,5,7,10,11,12,13,23]<|jB λ y1 h2=>jC [⟨_,okC [] Ajb (Ais x0 _ h2)⟩]<|jl pI x1<|jG 28 [] [0] [4,5,10,11,12] (kF λ n0 z0=>[(12,dI (cnt 0 n0))]) (uF λ n0 z0=>[(0,v0_ z0)]) (kA [4,5] λ z0=>[]) (uA λ z0=>[(0,v0_ z0)]) (lnS pI 10) 26 [0] (λ _ _ _ a0 z0 _ _ _=>jC [⟨.when [(decide (a0>=0),true)] _,λ hg=>okL pI z0⟩]<|jI (λ h3=>jB λ y4 h5=>jC [⟨_,Az (enc:=pI) h5⟩]<|jB λ y6 h7=>jC [⟨_,B3 (enc:=pI) h5 h7⟩]<|jX 36 [] [0]) λ h3=>jX 36 [] [0]) λ z0=>jZ 23 [] [0]
theorem e57:EN 57:=en Tryz.func57
instance k328 (x0:Bj):Fv 328 [.agg (d81 x0)] (λ (r:Bool)=>dB r) (A1r x0):=
 fnJ Tryz.func328 n3_<|jb [] λ y1=>jZ 25 [] []
instance k330s0 (x0:Bj):Fv 330 [.agg (d81 x0),.d (.fn (.func 331) [] [])] (λ (r:Bj)=>.agg (d81 r)) (some (Ad1 x0)):=
 fnJ Tryz.func330 [0,1,2,4]<|jT [] (Xk x0.Surge)<|jT [] (Xk x0.Sway)<|jT [] (Xk x0.Yaw)<|jZ 25 [] []
instance k263s5 (x0:List Int) (x1c0:Int) (x1c1:Int):Fk 263 [.d (DS pI x0),.d (.fn (.func 384) [] [.o 0 0,.o 1 0])] [.box 3 [I x1c0],.box 3 [I x1c1]] (λ (r:Int×Int×Int)=>dI r.1) (λ r=>[.box 3 [I r.2.1],.box 3 [I r.2.2]]) (Apm x0 x1c0 x1c1):=
 fnJ Tryz.func263 [0,1,4,5,7,8,9,16]<|jl pI x0<|jG 26 [] [0,1] [0,1,4,7,8] (kF λ n0 z0=>[(8,dI (cnt 0 n0))]) iF (kA [4] λ z0=>[]) iA (lnS pI 0) 26 [0,1] (λ _ _ _ a0 _ _ _ _=>jC [⟨_,Ez ⟨Ays,(k384s0 a0 x1c0 x1c1 _ rfl)⟩⟩]<|jS 32 [] [0,1] [0,1,4,5,7,8,16]<|jI (λ h1=>jZ1 24 [] [0,1]) λ h1=>jX 25 [] [0,1]) λ z0=>jZ 23 [] [0,1]
instance k385 (x0:Int) (x1:Int):Fv 385 [dI x0,dI x1] (λ (r:Int)=>dI r) (A1g x0 x1):=
 fnJ Tryz.func385 [0,1,4]<|jb [] λ y1=>jZ 25 [] []
instance k386 (x0:Ay) (x1:Int):Fk 386 [.agg (I9 x0),dI x1] [] (λ (r:Ay)=>.agg [I r.Kind,I r.Station,I r.Max,I r.Rate,I r.Cost,.os 0]) (λ r=>[Wn r.Db]) (A1f x0 x1):=
 fnJ Tryz.func386 [0,1,2,4]<|jB λ y1 h2=>jC [⟨_,okC [] A3q (A3j x0.Db _ h2)⟩]<|jZ 29 [] [2]
theorem A3r:EN 386:=en Tryz.func386
instance k365 (x0:List B5):Fv 365 [.d (DS G4 x0)] (λ (r:Int×Int×Int)=>.tup [dI r.1,dI r.2.1,dI r.2.2]) (A1k x0):=
 fnJ Tryz.func365 [0,2,3,4,5,7,11,13,14,15,16]<|jb [] λ y1=>jI (λ h3=>jN) λ h3=>jl G4 x0<|jG 33 [] [] [4,13,14,2,3,15] (kF λ n0 z0=>[(2,dI z0.1),(3,dI z0.2),(15,dI (cnt 0 n0))]) iF (kA [4] λ z0=>[(2,dI z0.1),(3,dI z0.2)]) iA (lnS G4 13) 26 [] (λ _ _ _ _ _ _ _ _=>jX 33 [] []) λ z0=>jZ 23 [] []
instance k321s2 (x0:Int) (x1:Int):Fv 321 [dI x0,dI x1,.d (.fn (.func 323) [] [])] (λ (r:Int×Int)=>.tup [dI r.1,dI r.2]) (Ao9 x0 x1):=
 fnJ Tryz.func321 [0,1,2,6,7,21]<|jI (λ h1=>jZ 29 [] []) λ h1=>jb [] λ y2=>jZ 30 [] []
instance k44 (x0:Af) (x1:Int):Fk 44 [dO 0 0,dI x1] [.box 120 (B7 x0)] (λ (r:Int×Af)=>dI r.1) (λ r=>[.box 120 (B7 r.2)]) (F44 x0 x1):=
 fnJ Tryz.func44 [0,1,4,14]<|jl pI x0.L<|jI (λ h1=>jZ 29 [] [0]) λ h1=>jb [] λ y2=>jb [] λ y4=>jZ 32 [] [0]
theorem e44:EN 44:=en Tryz.func44
instance k47s0 (x0:List Ab) (x1:Ab):Fk 47 [dS 0,.agg (d88 x1)] [v1_ x0] (λ (r:(List Ab))=>dS 1) (λ r=>[.non,v1_ r]) (Ow x0 x1):=
 fnJ Tryz.func47 [0,1,3,4,5,17,31]<|jW 26 [] [0,1] [0,3,4,5] (kW λ z0=>[(5,dI z0)]) iA (kA [0,3,4] λ z0=>[(5,dI z0)]) iA (λ _ _ z0=>jl q88 x0<|jr λ y3 _=>jTw [(decide (z0<(ln x0)),true)] [] (F29 y3 x1)<|jS 24 [] [0,1] [0,3,4,5,17]<|jI (λ h5=>jX 26 [] [0,1]) λ h5=>jY 23 [] [0,1]) λ z0=>jl q88 x0<|jr λ y6 _=>jS 24 [] [0,1] [0,3,4,5,31]<|jI (λ h8=>jZ 24 [.mv 0] [0,2]) λ h8=>jB λ u10 h9=>jC [⟨.bnd (x0.map q88).length 0 z0 z0,Gp (by simp) rfl h9⟩,⟨.own,trivial⟩]<|jB λ u12 h11=>jC [⟨.bnd (x0.map q88).length z0 (((x0.map q88).length:Nat):Int) (ln x0),Gp (by simp) (by simp) h11⟩]<|jB λ y13 h14=>jC [⟨_,Asn q88 2 (λ _=>rfl) (Aaz _ _ _ _) h14⟩]<|jB λ y15 h16=>jC [⟨_,Asm q88 2 (λ _=>rfl) rfl h16⟩]<|jZ 25 [] [0,5]
instance k125 (x0:List Ab):Fv 125 [.d (DS q88 x0)] (λ (r:Bool)=>dB r) (Aeu x0):=
 fnJ Tryz.func125 [0,2,3,4,5,6,7,8,28]<|jl q88 x0<|jF 26 [] [] [0,2,5,6,7] (kF λ n0 z0=>[(7,dI (cnt 0 n0))]) iF (kA [2] λ z0=>[]) iA (lnS q88 5) 26 [] (λ _ _ n0 a0 _ hl0 _ hx0=>jC [⟨_,Bm hx0 hl0⟩]<|jT [] (Xp a0)<|jb [] λ y1=>jTw [(!(Xp a0),false),(decide ((cnt 0 n0)>0),true)] [] (F29 y1 a0)<|jS 32 [] [] [0,2,5,6,7,28]<|jI (λ h3=>jZ1 24 [] []) λ h3=>jX 25 [] []) λ z0=>jZ 23 [] []
instance k178 (x0:Aj):Fv 178 [.agg (W7 x0)] (λ (r:Bool)=>dB r) (some (Atj x0)):=
 fnJ Tryz.func178 n3_<|jT [] (U3 x0)<|jZ 25 [] []
def K7:List Nat:=[0,1,4,5,6,7,12,19,29]
def Oc  (z0:Int×Int×(List Ap)):St:=[(0,dS 0),(1,.d (.fn (.func 232) [] [])),(4,.d (DS Br [])),(5,dI z0.1),(6,dI z0.2.1)]
def Rz  (z0:Int×Int×(List Ap)):List Res:=[Qn z0.2.2]
def vP  (z0:Int×Int×(List Ap)):St:=[(0,dS 0),(4,.d (DS Br [])),(5,dI z0.1)]
def yQ  (z0:Int×Int×(List Ap)):List Res:=[Qn z0.2.2]
theorem Al4 (x0:List Ap) (r:(List Ap)) (h:Qi x0=some r):CO 231 [.d (.os 0),.d (.fn (.func 232) [] [])] [.sl 237 3 (x0.map Br)] (.d (.os 1)) [.non,.sl 237 3 (r.map Br)]:=by
 unfold Qi at h
 refine co 42 Tryz.func231 λ C hC=>?_
 obtain⟨y1,h2,h⟩:=Dk h
 rcases cB h with⟨h3,h⟩ | ⟨h3,h⟩
 ·replace h:=sI h
  subst h
  exact wr K7 31 [true] [pb Amv (k292s0 x0 _ h2)] [.mv 0] 1 [0,1] hC [pq h3]
 ·refine ws K7 33 [false] [pb Amv (k292s0 x0 _ h2)] [] 1 [0] (Oc (y1,w64 (y1+1),x0)) (Rz (y1,w64 (y1+1),x0)) hC [pq h3] ?_
  obtain⟨w0,hm0,hret0,hnext0⟩:=Wk h
  clear h
  refine wc w0 (vP) (yQ) ?_ λ z0 hs0=>?_
  ·refine wb ?_
   refine ww (Oc) (Rz) hm0 λ z0 w0b h hb0 hr0=>?_
   unfold U1 at h
   rcases cB h with⟨h4,h⟩ | ⟨h4,h⟩
   ·obtain⟨y5,h6,h⟩:=Dk h
    refine wn K7 32 [true] [pl Br z0.2.2,pr Br h6,pn Br h6,pc A3y (k232 y5 _ rfl) []] [] 1 [0,1] [0,1,4,5,6,7,29] hC [pq h4] ?_
    rcases cB h with⟨h7,h⟩ | ⟨h7,h⟩
    ·obtain⟨y8,h9,y10,h11,h⟩:=L5 h
     exact wx w0b (Oc) (Rz) K7 27 [true] [pr Br h9,pu Br h9 h11] [] 1 [0] _ hC [pq h7] (sI h).symm
    ·exact wx w0b (Oc) (Rz) K7 25 [false] [] [] 1 [0] _ hC [pq h7] (sI h).symm
   ·exact wx w0 (vP) (yQ) K7 26 [false] [pl Br z0.2.2] [] 1 [0] (z0.1,z0.2.1,z0.2.2) hC [pq h4] (hb0 _ (sI h).symm)
  ·have h:=hnext0 _ hs0
   obtain⟨u13,h12,u15,h14,h⟩:=L5 h
   replace h:=sI h
   subst h
   (rw [cz];exact Im (bs:=[]) mixed K7 25 [] [.bnd (z0.2.2.map Br).length z0.1 (((z0.2.2.map Br).length:Nat):Int) (ln z0.2.2),.eqr ((z0.2.2.map Br).take (Int.toNat z0.1)++(List.replicate ((Int.toNat (ln z0.2.2))-(Int.toNat z0.1)) (Br (⟨([]:List Int),([]:List Int),([]:List Int)⟩:Ap))++(z0.2.2.map Br).drop ((Int.toNat z0.1)+((Int.toNat (ln z0.2.2))-(Int.toNat z0.1))))) ((Hg z0.2.2 (Int.toNat z0.1) ((Int.toNat (ln z0.2.2))-(Int.toNat z0.1)) (⟨([]:List Int),([]:List Int),([]:List Int)⟩:Ap)).map Br),.bnd ((Hg z0.2.2 (Int.toNat z0.1) ((Int.toNat (ln z0.2.2))-(Int.toNat z0.1)) (⟨([]:List Int),([]:List Int),([]:List Int)⟩:Ap)).map Br).length 0 z0.1 z0.1] [.trunc 4] [.tmp 4] 1 [0,1] rfl hC ⟨Gp (by simp) (by simp) h12,qP Br rfl,Gp (by simp) rfl h14,trivial⟩ trivial (by kernel_rfl))
theorem Amw:EN 231:=en Tryz.func231
instance k159s0 (x0:List A9) (x1c0c0:As):Fk 159 [.d (DS Cs x0),.d (.fn (.func 101) [] [.o 0 0])] [.box 193 [.fn (.func 97) [] [.o 1 0]],.box 68 (d68 x1c0c0)] (λ (r:Int×As)=>dI r.1) (λ r=>[.box 193 [.fn (.func 97) [] [.o 1 0]],.box 68 (d68 r.2)]) (Aer x0 x1c0c0):=
 fnJ Tryz.func159 [0,1,4,5,7,8,9,16]<|jl Cs x0<|jG 26 [] [0,1] [0,1,4,7,8] (kF λ n0 z0=>[(8,dI (cnt 0 n0))]) (uF λ n0 z0=>[(1,.box 68 [I z0.1,DS pB z0.2.1,DS Bf z0.2.2.1,DS pI (g3_ z0),DS q88 (g4_ z0),DS Cs (g5_ z0),DS Er (Arh z0)])]) (kA [4] λ z0=>[]) (uA λ z0=>[(1,.box 68 [I z0.1,DS pB z0.2.1,DS Bf z0.2.2.1,DS pI (g3_ z0),DS q88 (g4_ z0),DS Cs (g5_ z0),DS Er (Arh z0)])]) (lnS Cs 0) 26 [0,1] (λ _ _ _ a0 z0 _ _ _=>jT [0,1] (Gh a0 (⟨z0.1,(⟨z0.2.1,z0.2.2.1,(g3_ z0),(g4_ z0)⟩:Ad),(g5_ z0),(Arh z0)⟩:As))<|jS 32 [] [0,1] [0,1,4,5,7,8,16]<|jI (λ h1=>jZ1 24 [] [0,1]) λ h1=>jX 25 [] [0,1]) λ z0=>jZ 23 [] [0,1]
instance k233s0 (x0:List Ab):Fv 233 [.d (DS q88 x0),.d (.fn (.func 161) [] [])] (λ (r:Int)=>dI r) (Aeh x0):=
 fnJ Tryz.func233 [0,1,4,5,7,8,9,16]<|jl q88 x0<|jG 26 [] [] [0,1,4,7,8] (kF λ n0 z0=>[(8,dI (cnt 0 n0))]) iF (kA [4] λ z0=>[]) iA (lnS q88 0) 26 [] (λ _ _ _ a0 _ _ _ _=>jT [] (uM a0)<|jI (λ h1=>jZ1 35 [] []) λ h1=>jX 36 [] []) λ z0=>jZ 23 [] []
instance k107 (x0:Ab) (x1:Ab):Fv 107 [.agg (d88 x0),.agg (d88 x1)] (λ (r:Int)=>dI r) (Mm x0 x1):=
 fnJ Tryz.func107 n5_<|jT [] (Io x0.Kind x1.Kind)<|jT [] (Io x0.Number x1.Number)<|jb [] λ y1=>jZ 25 [] []
instance k53 (x0:List Ab) (x1:Ab):Fv 53 [.d (DS q88 x0),.agg (d88 x1)] (λ (r:Bool)=>dB r) (F53 x0 x1):=
 fnJ Tryz.func53 [0,1,3,4]<|jb [] λ y1=>jZ 25 [] []
instance k170s1 (x0:List Bn) (x1c0:Bn):Fk 170 [.d (DS Gk x0),.d (.fn (.func 167) [] [.o 0 0])] [.box 166 (Acf x1c0)] (λ (r:Bool×Bn)=>dB r.1) (λ r=>[.box 166 (Acf r.2)]) (Zn x0 x1c0):=
 fnJ Tryz.func170 [0,1,4]<|jb [0] λ y1=>jZ 25 [] [0]
theorem Ay5:EN 170:=en Tryz.func170
instance k111 (x0:Aa) (x1:As):Fk 111 [.agg (d38 x0),.agg (d68 x1)] [] (λ (r:Cm)=>dO 0 0) (λ r=>(.box 209 (I r.Bg.Time :: .os 1 :: .os 2 :: .os 3 :: .os 4 :: .os 5 :: .os 6::zb r.Ao [.os 7,.os 8])::zp r.Bg.Power [v6_ r.Bg.Ba,v2_ r.Bg.Bh,v2_ r.events,v8_ r.states])) (Akv x0 x1):=
 fnJ Tryz.func111 n5_<|jb [] λ y1=>jB λ y3 h4=>jC [⟨_,okC [] Azc (Ax5 x1.Ba _ h4)⟩]<|jB λ y5 h6=>jC [⟨_,okC [] Azb (Ax4 x1.Bh _ h6)⟩]<|jZ 27 [.ownb 8 13 217 5,.ownb 8 14 64 4] [8,2,3,4,5,6,7,9,10]
instance k191 (x0:Ad) (x1:Int) (x2:Int):Fv 191 [.agg (d64 x0),dI x1,dI x2] (λ (r:Bool)=>dB r) (Mk x0 x1 x2):=
 fnJ Tryz.func191 [0,1,2,3,6]<|jb [] λ y1=>jZ 25 [] []
theorem A32:EN 191:=en Tryz.func191
instance k397 (x0:Aa) (x1:Aj) (x2:Aj):Fv 397 [.agg (d38 x0),.agg (W7 x1),.agg (W7 x2)] (λ (r:Bool)=>dB r) (some (Adv x0 x1 x2)):=
 fnJ Tryz.func397 [0,1,2,3,4,5,6,7,8,22]<|jIp (λ h1=>jZ 29 [] []) λ h1=>jT [] (Ajy x1.Phase x2.Phase)<|jZ 34 [] []
instance k378 (x0:Aa) (x1:Int):Fv 378 [.agg (d38 x0),dI x1] (λ (r:Int)=>dI r) (Ajz x0 x1):=
 fnJ Tryz.func378 n5_<|jb [1] λ y1=>jZ 25 [] []
instance k309s1 (x0:Bc) (x1:Ab) (x2:Bool):Fk 309 [dO 0 0,.agg (d88 x1),dB x2] (.box 330 (zb x0.Ao [.os 1,.os 2,.os 3,.os 4,I x0.time])::zp x0.Au []) (λ (r:Int×Bc)=>dI r.1) (λ r=>(.box 330 (zb r.2.Ao [.os 5,.os 6,.os 7,.os 8,I r.2.time]) :: .non :: .non :: .non :: .non::zp r.2.Au [])) (Jd x0 x1 x2):=
 fnJ Tryz.func309 [0,1,2,4,6,7,8,32,36,47,64,74]<|jb0 λ y1=>jI (λ h3=>jZ 32 [.mv 1,.mv 2,.mv 3,.mv 4] [0,1,2,3,4,6,7,8,9]) λ h3=>jC [⟨.when [(x2,true)] _,λ hg=>okL q88 x0.Au.Al⟩]<|jS 32 [.mv 1,.mv 2,.mv 3,.mv 4] Ia [0,2,4,6,7,36]<|jI (λ h4=>jZ 24 [] [0,1,2,3,4,6,7,8,9]) λ h4=>jS 24 [] Ia [0,2,4,6,7,47]<|jM (kA [0,2,4,6] λ z0=>[]) (uA λ z0=>[(9,v1_ z0)]) (λ _=>jI (λ h5=>jB λ y6 h7=>jC [⟨_,okC [9] Ayv (Axx x0.Au.Al y1.1 [x1] _ h7)⟩]<|jX 23 [] [0,1,2,3,4,5,6,7,8,10]) λ h5=>jB λ y8 h9=>jC [⟨_,okC [9] Ayu (Axw x0.Au.Al y1.1 (w64 (y1.1+1)) _ h9)⟩]<|jX 23 [] [0,1,2,3,4,5,6,7,8,10]) λ z0=>jI (λ h10=>jB λ y11 h12=>jC [⟨_,Az (enc:=Bf) h12⟩]<|jB λ y13 h14=>jC [⟨_,B3 (enc:=Bf) h12 h14⟩]<|jS 30 [] Ia [0,4,6,74]<|jI (λ h15=>jB λ y16 h17=>jC [⟨_,Az (enc:=Bf) h17⟩]<|jB λ y18 h19=>jC [⟨_,B3 (enc:=Bf) h17 h19⟩]<|jZ 25 [] [0,1,2,3,4,6,7,8,9]) λ h15=>jZ 25 [] [0,1,2,3,4,6,7,8,9]) λ h10=>jZ 29 [] [0,1,2,3,4,6,7,8,9]
instance k184s1 (x0:Cm) (x1:Ad):Fk 184 [dO 0 0,.agg [.os 9,.os 10,.os 11,.os 12]] (.box 209 (I x0.Bg.Time :: .os 1 :: .os 2 :: .os 3 :: .os 4 :: .os 5 :: .os 6::zb x0.Ao [.os 7,.os 8])::zp x0.Bg.Power (v6_ x0.Bg.Ba::v2_ x0.Bg.Bh::v2_ x0.events::v8_ x0.states::zp x1 [])) (λ (r:Cm)=>.tup []) (λ r=>(.box 209 (I r.Bg.Time :: .os 1 :: .os 2 :: .os 3 :: .os 4 :: .os 5 :: .os 6::zb r.Ao [.os 7,.os 13])::zp r.Bg.Power (v6_ r.Bg.Ba::v2_ r.Bg.Bh::v2_ r.events :: .non::zp x1 [v8_ r.states]))) (N_ x0 x1):=
 fnJ Tryz.func184 [0,1,3]<|jB λ y3 h4=>jC [⟨.call 152 [.agg [.os 0,.os 1,.os 2,.os 3]] (zp x1 []) (.agg (d64 y3)) (zp x1 [.non,.non,.non,.non]) [9,10,11,12],⟨A37,(CallOk.frzAll [4,5,6,7] (show CO 152 [.agg [.os 0,.os 1,.os 2,.os 3]] (zp x1 []) (.agg [.os 4,.os 5,.os 6,.os 7]) (zp x1 (zp y3 [])) from ((k152 x1 _ h4).lend (by kernel_rfl) (by kernel_rfl) (by kernel_rfl) ⟨A_ (λ _=>rfl),A_ (λ _=>rfl),A_ (λ _=>rfl),A_ (λ _=>rfl),trivial⟩ (by kernel_rfl) (by kernel_rfl))) (by kernel_rfl))⟩⟩]<|jB λ y5 h6=>jC [⟨_,A8 q64 4 (λ _=>rfl) h6⟩]<|jE id 23 [] [0,1,2,3,4,5,6,7,8,9,10,11,12,18]
instance k355s0 (x0:Int) (x1:Int) (x2:Aa):Fv 355 [dI x0,dI x1,.d (.ip [.v (.int .i64 x2.Am),.s (x2.Ah.map Bs),.s (x2.Ae.map Cd),.s (x2.Ag.map B0),.v (.int .i64 x2.Phase),.v (.int .i64 x2.Aq)])] (λ (r:Int)=>dI r) (Qd x0 x1 x2):=
 fnJ Tryz.func355 [0,1,2,5]<|jb [] λ y1=>jb [] λ y3=>jT [] (Io y1.Bz y3.Bz)<|jZ 25 [] []
instance k315s0 (x0:Int) (x1:Ap):Fv 315 [dI x0,.d (.ip [.s (x1.Am.map pI),.s (x1.Ae.map pI),.s (x1.Ag.map pI)])] (λ (r:Bool)=>dB r) (Us x0 x1):=
 fnJ Tryz.func315 [0,1,3]<|jb [] λ y1=>jZ 25 [] []
theorem Ayx:EN 315:=en Tryz.func315
instance k261 (x0:Cf):Fv 261 [.agg (qJ x0)] (λ (r:Bool)=>dB r) (some (Xm x0)):=
 fnJ Tryz.func261 n4_<|jT [] (Uo x0.From)<|jTw [(Uo x0.From,true)] [] (Uo x0.To)<|jTw [(((Uo x0.From)&&(Uo x0.To)),true)] [] (Atf x0)<|jZ 27 [] []
theorem Axz (rec116:Aa->Ad->Int->Option Bool) (ih116:∀ (x0:Aa) (x1:Ad) (x2:Int) (r:Bool),rec116 x0 x1 x2=some r->CO 116 [.agg (d38 x0),.agg (d64 x1),.d (I x2)] [] (.d (Bo r)) []) (x0:List Int) (x1c0:Aa) (x1c1:Ad):Fk 263 [.d (DS pI x0),.d (.fn (.func 193) [] [.o 0 0,.o 1 0])] [.box 38 (d38 x1c0),.box 64 (d64 x1c1)] (λ (r:Int×Aa×Ad)=>.d (I r.1)) (λ r=>[.box 38 (d38 r.2.1),.box 64 (d64 r.2.2)]) (Ad6 rec116 x0 x1c0 x1c1):=
 fnJ Tryz.func263 [0,1,4,5,7,8,9,16]<|jl pI x0<|jF 26 [] [0,1] [0,1,4,7,8] (kF λ n0 z0=>[(8,dI (cnt 0 n0))]) iF (kA [4] λ z0=>[]) iA (lnS pI 0) 26 [0,1] (λ _ _ _ a0 _ hl0 _ hx0=>jC [⟨_,Bm hx0 hl0⟩]<|jB λ y1 h2=>jC [⟨_,Ez ⟨Ay3,(Ax0 rec116 ih116 a0 x1c0 x1c1 _ h2)⟩⟩]<|jS 32 [] [0,1] [0,1,4,5,7,8,16]<|jI (λ h3=>jZ1 24 [] [0,1]) λ h3=>jX 25 [] [0,1]) λ z0=>jZ 23 [] [0,1]
theorem Ay1:EN 263:=en Tryz.func263
instance k321s0 (x0:Int) (x1:Int):Fv 321 [dI x0,dI x1,.d (.fn (.func 322) [] [])] (λ (r:Int×Int)=>.tup [dI r.1,dI r.2]) (Ad3 x0 x1):=
 fnJ Tryz.func321 [0,1,2,6,7,21]<|jI (λ h1=>jZ 29 [] []) λ h1=>jb [] λ y2=>jZ 30 [] []
instance k192s3 (x0:List Int) (x1c0:Int) (x1c1:Int):Fk 192 [.d (DS pI x0),.d (.fn (.func 384) [] [.o 0 0,.o 1 0])] [.box 3 [I x1c0],.box 3 [I x1c1]] (λ (r:Bool×Int×Int)=>dB r.1) (λ r=>[.box 3 [I r.2.1],.box 3 [I r.2.2]]) (Apq x0 x1c0 x1c1):=
 fnJ Tryz.func192 [0,1,4]<|jb [0,1] λ y1=>jZ 25 [] [0,1]
instance k321s1 (x0:Int) (x1:Int):Fv 321 [dI x0,dI x1,.d (.fn (.func 385) [] [])] (λ (r:Int×Int)=>.tup [dI r.1,dI r.2]) (Apa x0 x1):=
 fnJ Tryz.func321 [0,1,2,6,7,21]<|jI (λ h1=>jZ 29 [] []) λ h1=>jb [] λ y2=>jZ 30 [] []
instance k367 (x0:Int) (x1:Int):Fv 367 [dI x0,dI x1] (λ (r:Int×Int)=>.tup [dI r.1,dI r.2]) (As8 x0 x1):=
 fnJ Tryz.func367 [0,1,4,5]<|jb [] λ y1=>jZ 25 [] []
instance k20 (x0:Af) (x1:List Int):Fk 20 [dO 0 0,.d (DS pI x1)] [.box 120 (B7 x0)] (λ (r:Int×Af)=>dI r.1) (λ r=>[.box 120 (B7 r.2)]) (F20 x0 x1):=
 fnJ Tryz.func20 [0,1,4]<|jl pI x1<|jb [0] λ y1=>jb [] λ y3=>jZ 25 [] [0]
instance k67 (x0:Af) (x1:Int) (x2:Int):Fk 67 [dO 0 0,dI x1,dI x2] [.box 120 (B7 x0)] (λ (r:Int×Af)=>dI r.1) (λ r=>[.box 120 (B7 r.2)]) (F67 x0 x1 x2):=
 fnJ Tryz.func67 [0,1,2,6]<|jb [0] λ y1=>jZ 25 [] [0]
instance k79 (x0:Af) (x1:List ByteArray):Fk 79 [dO 0 0,.d (DS pS x1)] [.box 120 (B7 x0)] (λ (r:ByteArray×Af)=>.d (.p (.v (.string r.1)))) (λ r=>[.box 120 (B7 r.2)]) (F79 x0 x1):=
 fnJ Tryz.func79 [0,1,4]<|jl pS x1<|jb [0] λ y1=>jB λ y3 h4=>jC [⟨_,Az (enc:=pS) h4⟩]<|jZ 25 [] [0]
instance k91 (x0:Af) (x1:Int) (x2:Int):Fk 91 [dO 0 0,dI x1,dI x2] [.box 120 (B7 x0)] (λ (r:(List Int)×Af)=>dS 1) (λ r=>[.box 120 (B7 r.2),v0_ r.1]) (F91 x0 x1 x2):=
 fnJ Tryz.func91 [0,1,2,6,7,8,11,19]<|jW 28 [.own 7 3 1] [0,1] [0,1,2,6,7,8] (kW λ z0=>[(8,dI z0.1)]) (uA λ z0=>[(0,.box 120 [DS pI z0.2.1,I z0.2.2.1]),(1,v0_ (Dx z0))]) (kA [6,7] λ z0=>[]) (uA λ z0=>[(0,.box 120 [DS pI z0.2.1,I z0.2.2.1]),(1,v0_ (Dx z0))]) (λ _ _ z0=>jI (λ h1=>jb [0] λ y2=>jI (λ h4=>jB λ y5 h6=>jC [⟨_,A8 pI 1 (λ _=>rfl) h6⟩]<|jX 34 [] [0,2]) λ h4=>jX 34 [] [0,1]) λ h1=>jY 26 [] [0,1]) λ z0=>jZ 23 [] [0,1]
theorem e91:EN 91:=en Tryz.func91
instance k92s1 (x0:Af) (x1:List Ab):Fk 92 [dO 0 0,dS 1] [.box 120 (B7 x0),v1_ x1] (λ (r:(List A6)×Af)=>dS 2) (λ r=>[.box 120 (B7 r.2),v1_ x1,v9_ r.1]) (Aaj x0 x1):=
 fnJ Tryz.func92 [0,1,4,5,7,9,10,11,12,13,16,17,18,19,34]<|jl q88 x1<|jF 28 [.own 5 156 4] n3_ [0,1,4,5,10,11,12] (kF λ n0 z0=>[(12,dI (cnt 0 n0))]) (uF λ n0 z0=>[(0,.box 120 [DS pI z0.1,I z0.2.1]),(2,v9_ z0.2.2)]) (kA [4,5] λ z0=>[]) (uA λ z0=>[(0,.box 120 [DS pI z0.1,I z0.2.1]),(2,v9_ z0.2.2)]) (lnO q88 10 1 88 2) 26 n3_ (λ _ _ n0 a0 _ hl0 _ hx0=>jC [⟨_,Az (enc:=q88) (Bd hx0 hl0)⟩,⟨_,Bi (enc:=q88) (Bd hx0 hl0)⟩]<|jl q88 x1<|jF 32 [] n4_ [0,1,4,5,7,10,11,12,16,17,18] (kF λ n1 z1=>[(18,dI (cnt 0 n1))]) (uF λ n1 z1=>[(0,.box 120 [DS pI z1.1,I z1.2.1]),(2,v9_ z1.2.2)]) (cA λ z1=>[(0,dO 0 0),(1,dS 1),(4,.d (DS Es [])),(5,dS 2),(10,dS 1),(11,dI (ln x1)),(12,dI (cnt 0 n0))]) (cA λ z1=>[.box 120 [DS pI z1.1,I z1.2.1],v1_ x1,v9_ z1.2.2]) (lnO q88 16 1 88 2) 26 n3_ (λ _ _ _ a1 z1 hl1 _ hx1=>jC [⟨_,Az (enc:=q88) (Bd hx1 hl1)⟩,⟨_,Bi (enc:=q88) (Bd hx1 hl1)⟩,⟨.when [(!((a0.Kind==a1.Kind)&&((a0.Number==a1.Number)&&true)),true)] _,λ hg=>okL Es z1.2.2⟩]<|jB λ y1 h2=>jC [⟨.whenR [(((!((a0.Kind==a1.Kind)&&((a0.Number==a1.Number)&&true)))&&(decide ((ln z1.2.2)<20))),true)] _,⟨λ hg=>okC [0] e44 (k44 (⟨z1.1,z1.2.1⟩:Af) 7 _ (B4 h2 hg)),λ hg=>by have e:=Ff h2 hg;subst e;rfl⟩⟩]<|jS 32 [] n5_ [0,1,4,5,7,9,10,11,12,16,17,18,34]<|jI (λ h3=>jB λ y4 h5=>jC [⟨_,A8 Es 4 (λ _=>rfl) h5⟩]<|jX 25 [] [0,1,5,3]) λ h3=>jX 25 [] n4_) λ z1=>jX 23 [] n3_) λ z0=>jZ 23 [] n3_
instance k93s1 (x0:Af) (x1:List Ab):Fk 93 [dO 0 0,dS 1] [.box 120 (B7 x0),v1_ x1] (λ (r:(List Bn)×Af)=>dS 2) (λ r=>[.box 120 (B7 r.2),v1_ x1,Jk r.1]) (Aai x0 x1):=
 fnJ Tryz.func93 [0,1,4,5,6,7,9,18,34,35,36,37,42]<|jb [0] λ y1=>jW 28 [.own 5 166 2] n3_ [0,1,4,5,6] (kW λ z0=>[(6,dI z0.1)]) (uA λ z0=>[(0,.box 120 [DS pI z0.2.1,I z0.2.2.1]),(2,Jk (Dx z0))]) (kA [4,5] λ z0=>[]) (uA λ z0=>[(0,.box 120 [DS pI z0.2.1,I z0.2.2.1]),(2,Jk (Dx z0))]) (λ _ _ z0=>jC [⟨.when [(decide (z0.1>0),true)] _,λ hg=>okL q88 x1⟩]<|jI (λ h3=>jC [⟨.flts [.box 166 [.p (.v (.string ByteArray.empty)),.p (.v (.slice none 0 0))]],trivial⟩]<|jB λ y4 h5=>jC [⟨_,Az (enc:=pS) h5⟩]<|jl q88 x1<|jb [0] λ y6=>jr λ y8 _=>jC [⟨.own,trivial⟩,⟨.flt 3 (.box 166 [.p (.v (.string ByteArray.empty)),.p (.v (.slice none 0 0))]) (.box 166 [.p (.v (.string ByteArray.empty)),.p (.v (.slice none 0 0))]),rfl⟩]<|jl q88 x1<|jF 33 [] n5_ [0,1,4,5,6,7,34,35,36] (kF λ n1 z1=>[(36,dI (cnt 0 n1))]) (uF λ n1 z1=>[(0,.box 120 [DS pI z1.1,I z1.2.1]),(4,v1_ z1.2.2)]) (kA [0,1,4,5,6,7] λ z1=>[]) (uA λ z1=>[(0,.box 120 [DS pI z1.1,I z1.2.1]),(4,v1_ z1.2.2)]) (lnO q88 34 1 88 2) 26 n5_ (λ _ _ _ _ _ hl1 _ hx1=>jC [⟨_,Az (enc:=q88) (Bd hx1 hl1)⟩,⟨_,Bi (enc:=q88) (Bd hx1 hl1)⟩]<|jb [0] λ y10=>jS 32 [] n6_ [0,1,4,5,6,7,9,34,35,36,42]<|jI (λ h12=>jb [4] λ y13=>jX 25 [] [0,1,2,3,6]) λ h12=>jX 25 [] n5_) λ z1=>jS 0 [.frz 4] n4_ [0,1,4,5,6,7]<|jB λ y15 h16=>jC [⟨_,A8 Gk 2 (λ _=>rfl) h16⟩]<|jX 24 [] [0,1,4]) λ h3=>jY 26 [] n3_) λ z0=>jZ 23 [] n3_
instance k92 (x0:Af) (x1:List Ab):Fk 92 [dO 0 0,.d (DS q88 x1)] [.box 120 (B7 x0)] (λ (r:(List A6)×Af)=>dS 1) (λ r=>[.box 120 (B7 r.2),v9_ r.1]) (F92 x0 x1):=
 fnJ Tryz.func92 [0,1,4,5,7,9,10,11,12,13,16,17,18,19,34]<|jl q88 x1<|jG 28 [.own 5 156 4] [0,1] [0,1,4,5,10,11,12] (kF λ n0 z0=>[(12,dI (cnt 0 n0))]) (uF λ n0 z0=>[(0,.box 120 [DS pI z0.1,I z0.2.1]),(1,v9_ z0.2.2)]) (kA [4,5] λ z0=>[]) (uA λ z0=>[(0,.box 120 [DS pI z0.1,I z0.2.1]),(1,v9_ z0.2.2)]) (lnS q88 10) 26 [0,1] (λ _ _ n0 a0 _ _ _ _=>jl q88 x1<|jF 32 [] n3_ [0,1,4,5,7,10,11,12,16,17,18] (kF λ n1 z1=>[(18,dI (cnt 0 n1))]) (uF λ n1 z1=>[(0,.box 120 [DS pI z1.1,I z1.2.1]),(1,v9_ z1.2.2)]) (cA λ z1=>[(0,dO 0 0),(1,.d (DS q88 x1)),(4,.d (DS Es [])),(5,dS 1),(10,.d (DS q88 x1)),(11,dI (ln x1)),(12,dI (cnt 0 n0))]) (cA λ z1=>[.box 120 [DS pI z1.1,I z1.2.1],v9_ z1.2.2]) (lnS q88 16) 26 [0,1] (λ _ _ _ a1 z1 hl1 _ hx1=>jC [⟨_,Bm hx1 hl1⟩,⟨.when [(!((a0.Kind==a1.Kind)&&((a0.Number==a1.Number)&&true)),true)] _,λ hg=>okL Es z1.2.2⟩]<|jB λ y1 h2=>jC [⟨.whenR [(((!((a0.Kind==a1.Kind)&&((a0.Number==a1.Number)&&true)))&&(decide ((ln z1.2.2)<20))),true)] _,⟨λ hg=>okC [0] e44 (k44 (⟨z1.1,z1.2.1⟩:Af) 7 _ (B4 h2 hg)),λ hg=>by have e:=Ff h2 hg;subst e;rfl⟩⟩]<|jS 32 [] n4_ [0,1,4,5,7,9,10,11,12,16,17,18,34]<|jI (λ h3=>jB λ y4 h5=>jC [⟨_,A8 Es 4 (λ _=>rfl) h5⟩]<|jX 25 [] [0,4,2]) λ h3=>jX 25 [] n3_) λ z1=>jX 23 [] [0,1]) λ z0=>jZ 23 [] [0,1]
instance k80 (x0:Aa) (x1:Bt):Fk 80 [.agg (d38 x0),.agg (d40 x1)] [] (λ (r:As×Int)=>.tup [.agg [I r.1.Time,.os 0,.os 1,.os 2,.os 3,.os 4,.os 5],dI r.2]) (λ r=>(zp r.1.Power [v6_ r.1.Ba,v2_ r.1.Bh])) (F80 x0 x1):=
 fnJ Tryz.func80 [0,1,2,3,4,5,6,7,9,10,14,19,29,30,31,42,43,44,45,61]<|jb [] λ y1=>jI (λ h3=>jN) λ h3=>jT [] (Jy x1)<|jS 33 [.ownb 2 1 4 1,.ownb 2 2 160 4,.ownb 2 3 3 1,.ownb 2 4 88 2,.ownb 2 5 141 2,.ownb 2 6 217 5] [0,2,3,4,5,6,7,8] [2,4,5,19]<|jI (λ h4=>jN) λ h4=>jl Bs x0.Ah<|jB λ y5 h6=>jC [⟨.room ((ln x0.Ah)*(1+1)) (List.replicate (Int.toNat (ln x0.Ah)) (pB false)) (y5.map pB),He h6⟩]<|jl Cd x0.Ae<|jW 28 [.ownb 9 2 160 4,.ownb 9 3 3 1,.ownb 9 4 88 2,.ownb 9 5 141 2,.ownb 9 6 217 5] D6 [2,4,5,7,29,30] (kW λ z0=>[(30,dI z0.1)]) (uA λ z0=>[(10,v4_ z0.2)]) (kA [2,4,5,7] λ z0=>[]) (uA λ z0=>[(10,v4_ z0.2)]) (λ _ _ z0=>jI (λ h7=>jB λ y8 h9=>jC [⟨_,A8 Bf 4 (λ _=>rfl) h9⟩]<|jX 31 [] [0,1,2,3,4,5,6,7,8,9,15,11,12,13,14]) λ h7=>jY 26 [] D6) λ z0=>jl B0 x0.Ag<|jF 24 [] D6 [2,4,5,7,42,43,44] (kF λ n1 z1=>[(44,dI (cnt 0 n1))]) (uF λ n1 z1=>[(11,v0_ z1)]) (kA [2,4,5,7] λ z1=>[]) (uA λ z1=>[(11,v0_ z1)]) (lnS B0 42) 26 D6 (λ _ _ _ _ _ hl1 _ hx1=>jC [⟨_,Bm hx1 hl1⟩]<|jB λ y10 h11=>jC [⟨_,A8 pI 1 (λ _=>rfl) h11⟩]<|jX 33 [] [0,1,2,3,4,5,6,7,8,9,10,16,12,13,14]) λ z1=>jW 24 [] D6 [2,4,5,7,10] (kW λ z2=>[(10,dI z2.1)]) (uA λ z2=>[(13,v6_ z2.2)]) (cA λ z2=>[(4,dO 0 0),(5,dI 0),(7,dO 8 0)]) (cA λ z2=>(.box 68 [I 0,.os 1,.os 2,.os 3,.os 4,.os 5,.os 6]::ze [v6_ ([]:List A9),v2_ ([]:List Bu),v5_ y5,.box 68 [I 0,.os 7,.os 9,.os 10,.os 11,.os 12,.os 13],v4_ z0.2,v0_ z1,v1_ ([]:List Ab),v6_ z2.2,v2_ ([]:List Bu)])) (λ _ _ z2=>jI (λ h12=>jB λ y13 h14=>jC [⟨_,A8 Cs 2 (λ _=>rfl) h14⟩]<|jX 31 [] [0,1,2,3,4,5,6,7,8,9,10,11,12,15,14]) λ h12=>jY 26 [] [1,2,3,4,5,6,7,8,9,10,11,12,13,14]) λ z2=>jZ 23 [] [7,9,10,11,12,13]
instance k93 (x0:Af) (x1:List Ab):Fk 93 [dO 0 0,.d (DS q88 x1)] [.box 120 (B7 x0)] (λ (r:(List Bn)×Af)=>dS 1) (λ r=>[.box 120 (B7 r.2),Jk r.1]) (F93 x0 x1):=
 fnJ Tryz.func93 [0,1,4,5,6,7,9,18,34,35,36,37,42]<|jb [0] λ y1=>jW 28 [.own 5 166 2] [0,1] [0,1,4,5,6] (kW λ z0=>[(6,dI z0.1)]) (uA λ z0=>[(0,.box 120 [DS pI z0.2.1,I z0.2.2.1]),(1,Jk (Dx z0))]) (kA [4,5] λ z0=>[]) (uA λ z0=>[(0,.box 120 [DS pI z0.2.1,I z0.2.2.1]),(1,Jk (Dx z0))]) (λ _ _ z0=>jC [⟨.when [(decide (z0.1>0),true)] _,λ hg=>okL q88 x1⟩]<|jI (λ h3=>jC [⟨.flts [.box 166 [.p (.v (.string ByteArray.empty)),.p (.v (.slice none 0 0))]],trivial⟩]<|jB λ y4 h5=>jC [⟨_,Az (enc:=pS) h5⟩]<|jl q88 x1<|jb [0] λ y6=>jb [] λ y8=>jC [⟨.own,trivial⟩,⟨.flt 2 (.box 166 [.p (.v (.string ByteArray.empty)),.p (.v (.slice none 0 0))]) (.box 166 [.p (.v (.string ByteArray.empty)),.p (.v (.slice none 0 0))]),rfl⟩]<|jl q88 x1<|jF 33 [] n4_ [0,1,4,5,6,7,34,35,36] (kF λ n1 z1=>[(36,dI (cnt 0 n1))]) (uF λ n1 z1=>[(0,.box 120 [DS pI z1.1,I z1.2.1]),(3,v1_ z1.2.2)]) (kA [0,1,4,5,6,7] λ z1=>[]) (uA λ z1=>[(0,.box 120 [DS pI z1.1,I z1.2.1]),(3,v1_ z1.2.2)]) (lnS q88 34) 26 n4_ (λ _ _ _ _ _ hl1 _ hx1=>jC [⟨_,Bm hx1 hl1⟩]<|jb [0] λ y10=>jS 32 [] n5_ [0,1,4,5,6,7,9,34,35,36,42]<|jI (λ h12=>jb [3] λ y13=>jX 25 [] [0,1,2,5]) λ h12=>jX 25 [] n4_) λ z1=>jS 0 [.frz 3] n3_ [0,1,4,5,6,7]<|jB λ y15 h16=>jC [⟨_,A8 Gk 2 (λ _=>rfl) h16⟩]<|jX 24 [] [0,3]) λ h3=>jY 26 [] [0,1]) λ z0=>jZ 23 [] [0,1]
instance k31 (x0:List Ab) (x1:List Ab):Fk 31 [.d (DS q88 x0),.d (DS q88 x1)] [] (λ (r:(List Ab))=>dS 0) (λ r=>[v1_ r]) (F31 x0 x1):=
 fnJ Tryz.func31 [0,1,4,5,7,9,12,13,14,16,17,18,19]<|jD true<|jD true<|jK true rfl<|jl q88 x0<|jW 41 [.own 5 88 2] [0] [4,5,7,12,13,14,16,17,18] (kW λ z0=>[(18,dI z0.1)]) (uA λ z0=>[(0,v1_ z0.2)]) (kA [4,5,7,12,13,14,16,17] λ z0=>[(18,dI z0.1)]) (uA λ z0=>[(0,v1_ z0.2)]) (λ _ _ z0=>jI (λ h1=>jb [] λ y2=>jb [0] λ y4=>jX 33 [] [2]) λ h1=>jY 26 [] [0]) λ z0=>jK true rfl<|jl q88 x1<|jW 35 [] [0] [4,5,7,12,13,14,16,17,18] (kW λ z1=>[(18,dI z1.1)]) (uA λ z1=>[(0,v1_ z1.2)]) (kA [4,5,7,12,13,14,16,17] λ z1=>[(18,dI z1.1)]) (uA λ z1=>[(0,v1_ z1.2)]) (λ _ _ z1=>jI (λ h6=>jb [] λ y7=>jb [0] λ y9=>jX 33 [] [2]) λ h6=>jY 26 [] [0]) λ z1=>jK false rfl<|jZ 31 [] [0]
theorem e31:EN 31:=en Tryz.func31
instance k59 (x0:A4):Fv 59 [.agg (d44 x0)] (λ (r:Int)=>dI r) (F59 x0):=
 fnJ Tryz.func59 [0,1,2,3,4,5,6,8,9,25,29,31,32,33,34,58,97,100,101,102,103,122,124,125,126,127,134,138,149]<|jl q88 x0.Parts<|jC [⟨.when [(decide ((ln x0.Parts)>40),false)] _,λ hg=>okL Es x0.Links⟩,⟨.when [(((decide ((ln x0.Parts)>40)) || (decide ((ln x0.Links)>60))),false)] _,λ hg=>okL Gk x0.Groups⟩]<|jS 26 [] [0] [1,2,25]<|jI (λ h1=>jZ 24 [] []) λ h1=>jb [] λ y2=>jI (λ h4=>jZ 29 [] []) λ h4=>jl Es x0.Links<|jF 31 [] [0] [1,2,31,32,33] (kF λ n0 z0=>[(33,dI (cnt 0 n0))]) iF (kA [1,2] λ z0=>[]) iA (lnS Es 31) 26 [0] (λ _ _ n0 a0 _ hl0 _ hx0=>jC [⟨_,Bm hx0 hl0⟩]<|jb [] λ y5=>jb [] λ y7=>jS 33 [] [0,1] [1,2,3,4,31,32,33,58]<|jI (λ h9=>jZ1 24 [] []) λ h9=>jb [] λ y10=>jTw [(decide ((cnt 0 n0)>0),true)] [] (F29 y10.From a0.From)<|jb [] λ y12=>jb [] λ y14=>jTw [(decide ((cnt 0 n0)>0),true),(F29 y10.From a0.From,false),(((y12.From.Kind==a0.From.Kind)&&((y12.From.Number==a0.From.Number)&&true)),true)] [] (F29 y14.To a0.To)<|jS 25 [] [0] [1,2,31,32,33,97]<|jI (λ h16=>jZ1 24 [] []) λ h16=>jX 25 [] [0]) λ z0=>jl Gk x0.Groups<|jF 24 [] [0] [1,2,100,101,102] (kF λ n1 z1=>[(102,dI (cnt 0 n1))]) iF (cA λ z1=>[(2,dI 0)]) (cA λ z1=>[]) (lnS Gk 100) 26 [] (λ _ _ n1 a1 _ hl1 _ hx1=>jC [⟨_,Bm hx1 hl1⟩]<|jb [] λ y17=>jC [⟨.when [(!y17,false)] _,λ hg=>okL q88 a1.Parts⟩]<|jb [] λ y19=>jS 33 [] [0,1] [1,2,5,6,100,101,102,122]<|jI (λ h21=>jZ1 24 [] []) λ h21=>jl q88 a1.Parts<|jF 26 [] [0,1] [1,2,5,6,100,101,102,124,125,126] (kF λ n2 z2=>[(126,dI (cnt 0 n2))]) iF (kA [1,2,5,6,100,101,102] λ z2=>[]) iA (lnS q88 124) 26 [0,1] (λ _ _ _ _ _ hl2 _ hx2=>jC [⟨_,Bm hx2 hl2⟩]<|jb [] λ y22=>jI (λ h24=>jR (q2 q1) 35 [] []) λ h24=>jX 36 [] [0,1]) λ z2=>jW 23 [] [0,1] [1,2,5,6,100,101,102,9] (kW λ z3=>[(9,dI z3)]) iA (cA λ z3=>[(1,dO 0 0),(2,dI 0),(100,.d (DS Gk x0.Groups)),(101,dI (ln x0.Groups)),(102,dI (cnt 0 n1))]) (cA λ z3=>[.box 44 (d44 x0)]) (λ _ _ z3=>jI (λ h25=>jb [] λ y26=>jI (λ h28=>jR (q2 q1) 33 [] []) λ h28=>jX 34 [] [0,1]) λ h25=>jY 26 [] [0]) λ z3=>jX 23 [] [0]) λ z1=>jZ 23 [] []
set_option maxHeartbeats 4000000 in
instance k75 (x0:Aa) (x1:Ad):Fv 75 [.agg (d38 x0),.agg (d64 x1)] (λ (r:Int)=>dI r) (F75 x0 x1):=
 fnJ Tryz.func75 [0,1,2,3,4,5,7,8,9,10,11,12,13,15,19,45,47,48,49,50,74,77,78,79,80,92,97,99,100,101,102,124,128,129,130,134,135,136,137,144,149]<|jb [] λ y1=>jI (λ h3=>jZ 31 [] []) λ h3=>jl pB x1.Ai<|jl Bs x0.Ah<|jC [⟨.when [(((ln x1.Ai) != (ln x0.Ah)),false)] _,λ hg=>okL Bf x1.Ae⟩,⟨.when [(((ln x1.Ai) != (ln x0.Ah)),false)] _,λ hg=>okL Cd x0.Ae⟩,⟨.when [((((ln x1.Ai) != (ln x0.Ah)) || ((ln x1.Ae) != (ln x0.Ae))),false)] _,λ hg=>okL pI x1.An⟩,⟨.when [((((ln x1.Ai) != (ln x0.Ah)) || ((ln x1.Ae) != (ln x0.Ae))),false)] _,λ hg=>okL B0 x0.Ag⟩]<|jS 33 [] [0,1] [2,3,4,45]<|jI (λ h4=>jZ 24 [] []) λ h4=>jl Bf x1.Ae<|jG 26 [] [0,1] [2,3,4,47,48,49] (kF λ n0 z0=>[(49,dI (cnt 0 n0))]) iF (kA [2,3,4] λ z0=>[]) iA (lnS Bf 47) 26 [0,1] (λ _ _ _ a0 _ _ _ _=>jT [] (Ce a0.State 0 3)<|jTw [(!(Ce a0.State 0 3),false)] [] (Ce a0.Since 0 2147483648)<|jTw [(((!(Ce a0.State 0 3)) || (!(Ce a0.Since 0 2147483648))),false)] [] (Ce a0.Aq 0 6000)<|jTw [((((!(Ce a0.State 0 3)) || (!(Ce a0.Since 0 2147483648))) || (!(Ce a0.Aq 0 6000))),false)] [] (Ce a0.Phase 0 3599)<|jS 32 [] [0,1] [2,3,4,47,48,49,74]<|jI (λ h5=>jZ1 24 [] []) λ h5=>jX 25 [] [0,1]) λ z0=>jl pI x1.An<|jF 24 [] [0,1] [2,3,4,77,78,79] (kF λ n1 z1=>[(79,dI (cnt 0 n1))]) iF (kA [2,3,4] λ z1=>[]) iA (lnS pI 77) 26 [0,1] (λ _ _ _ a1 _ hl1 _ hx1=>jC [⟨_,Bm hx1 hl1⟩]<|jb [] λ y6=>jT [] (Ce a1 0 y6.Load)<|jS 32 [] [0,1] [2,3,4,77,78,79,92]<|jI (λ h8=>jZ1 24 [] []) λ h8=>jX 25 [] [0,1]) λ z1=>jl q88 x1.Al<|jI (λ h9=>jZ 27 [] []) λ h9=>jl q88 x1.Al<|jF 29 [] [0,1] [2,3,4,99,100,101] (kF λ n2 z2=>[(101,dI (cnt 0 n2))]) iF (kA [2,3,4] λ z2=>[]) iA (lnS q88 99) 26 [0,1] (λ _ _ n2 a2 _ hl2 _ hx2=>jC [⟨_,Bm hx2 hl2⟩]<|jT [] (Ve x0 a2)<|jb [] λ y10=>jTw [(!(Ve x0 a2),false),(decide ((cnt 0 n2)>0),true)] [] (Aes y10 a2)<|jS 32 [] [0,1] [2,3,4,99,100,101,124]<|jI (λ h12=>jZ1 24 [] []) λ h12=>jX 25 [] [0,1]) λ z2=>jl B0 x0.Ag<|jW 24 [] [0,1] [2,3,4,128,129] (kW λ z3=>[(129,dI z3)]) iA (cA λ z3=>[(4,dI 0)]) (cA λ z3=>[]) (λ _ _ z3=>jI (λ h13=>jb [] λ y14=>jl pI y14<|jF 35 [] n3_ [2,3,4,128,129,134,135,13,136] (kF λ n4 z4=>[(13,dI z4),(136,dI (cnt 0 n4))]) iF (cA λ z4=>[(2,dO 0 0),(3,dO 1 0),(4,dI 0),(13,dI z4),(128,dI (ln x0.Ag)),(129,dI z3)]) (cA λ z4=>[.box 38 (d38 x0),.box 64 (d64 x1)]) (lnO pI 134 2 3 1) 26 [0,1] (λ _ _ _ _ _ hl4 _ hx4=>jC [⟨_,Az (enc:=pI) (Bd hx4 hl4)⟩,⟨_,Bi (enc:=pI) (Bd hx4 hl4)⟩]<|jb [] λ y16=>jI (λ h18=>jX 36 [] n3_) λ h18=>jX 36 [] n3_) λ z4=>jI (λ h19=>jZ1 26 [] []) λ h19=>jX 27 [] [0,1]) λ h13=>jY 26 [] []) λ z3=>jZ 23 [] []
instance k201 (x0:Aa) (x1:Int) (x2:Int):Fk 201 [.agg (d38 x0),dI x1,dI x2] [] (λ (r:(List Int))=>dS 0) (λ r=>[v0_ r]) (Xo x0 x1 x2):=
 fnJ Tryz.func201 [0,1,2,3,6,9]<|jb [] λ y1=>jI (λ h3=>jN) λ h3=>jb [] λ y4=>jZ 30 [] [1]
instance k270 (x0:Aa):Fk 270 [.agg (d38 x0)] [] (λ (r:(List Int))=>dS 0) (λ r=>[v0_ r]) (A1y x0):=
 fnJ Tryz.func270 [0,1,2,3,4,5,6,9,11,15,16,17,18,25]<|jb [] λ y1=>jI (λ h3=>jN) λ h3=>jW 33 [.own 3 3 1] [0,1] [1,2,3,4] (kW λ z0=>[(4,dI z0.1)]) (uA λ z0=>[(1,v0_ z0.2)]) (cA λ z0=>[(2,.d (DS pI [])),(3,dS 0)]) (cA λ z0=>[v0_ z0.2]) (λ _ _ z0=>jI (λ h4=>jl B0 x0.Ag<|jG 30 [] [0,1] [1,2,3,4,15,16,17] (kF λ n1 z1=>[(17,dI (cnt 0 n1))]) (uF λ n1 z1=>[(1,v0_ z1)]) (kA [1,2,3,4] λ z1=>[]) (uA λ z1=>[(1,v0_ z1)]) (lnS B0 15) 26 [0,1] (λ _ _ _ _ _ _ _ _=>jI (λ h5=>jB λ y6 h7=>jC [⟨_,A8 pI 1 (λ _=>rfl) h7⟩]<|jX 36 [] [0,3]) λ h5=>jX 36 [] [0,1]) λ z1=>jX 23 [] [0,1]) λ h4=>jY 26 [] [1]) λ z0=>jZ 23 [] [0]
instance k246 (x0:Aa):Fv 246 [.agg (d38 x0)] (λ (r:Bool)=>dB r) (Akd x0):=
 fnJ Tryz.func246 [0,1,2,3,4,6,16,17,18,19,28,29,44,71]<|jB λ y1 h2=>jB λ y3 h4=>jC [⟨.flts [v0_ y1,.zsl 22 1 (y3.map (pL pI))],trivial⟩]<|jl Cd x0.Ae<|jC [⟨.fltm 1 (.room ((ln x0.Ae)*(8+1)) (List.replicate (Int.toNat (ln x0.Ae)) (pI 0)) (y1.map pI)) (v0_ y1) (v0_ y1),⟨He h2,rfl⟩⟩]<|jl B0 x0.Ag<|jC [⟨.fltm 2 (.roomZ ((ln x0.Ag)*(24+1)) (List.replicate (Int.toNat (ln x0.Ag)) ((pL pI) ([]:List Int))) (y3.map (pL pI))) (.zsl 22 1 (y3.map (pL pI))) (.zsl 22 1 (y3.map (pL pI))),⟨S9 h4,rfl⟩⟩]<|jl Bs x0.Ah<|jG 28 [.deep 2 [(3,1)]] n4_ [1,2,3,4,16,17,18] (kF λ n0 z0=>[(18,dI (cnt 0 n0))]) (uF λ n0 z0=>[(1,v0_ z0.1),(3,.gh 1 [(3,1)] (z0.2.map (pL pI)) none)]) (cA λ z0=>[(2,dB false),(3,dS 0),(4,dS 1)]) (cA λ z0=>[v0_ z0.1,.dsl 22 1 2,.gh 1 [(3,1)] (z0.2.map (pL pI)) none]) (lnS Bs 16) 26 [1,2,3] (λ _ _ _ a0 z0 _ _ _=>jT [] (Bl a0.A 0 (w64 (x0.Am-1)))<|jS 33 [] n5_ [1,2,3,4,6,16,17,18,28]<|jI (λ h5=>jZ1 24 [] []) λ h5=>jTw [((a0.Kind==1),true)] [] (Bl a0.B (w64 (a0.A+1)) (w64 (x0.Am-1)))<|jS 26 [] n5_ [1,2,3,4,6,16,17,18,29]<|jI (λ h6=>jX 26 [] n4_) λ h6=>jC [⟨.when [((a0.Kind==2),true)] _,λ hg=>okL pI z0.1⟩]<|jTw [((a0.Kind==2),true)] [] (Bl a0.B 0 (w64 ((ln z0.1)-1)))<|jr λ y7 _=>jS 24 [] n5_ [1,2,3,4,6,16,17,18,44]<|jI (λ h9=>jr λ y10 h11=>jC [⟨_,Az (enc:=pI) h11⟩]<|jB λ y12 h13=>jC [⟨_,B3 (enc:=pI) h11 h13⟩]<|jX 26 [] n4_) λ h9=>jC [⟨.when [((a0.Kind==3),true)] _,λ hg=>okL (pL pI) z0.2⟩]<|jTw [((a0.Kind==3),true)] [] (Bl a0.B 0 (w64 ((ln z0.2)-1)))<|jB λ y14 h15=>jC [⟨.when [(((a0.Kind==3)&&(Bl a0.B 0 (w64 ((ln z0.2)-1)))),true)] _,λ hg=>Az (enc:=(pL pI)) (B4 h15 hg)⟩,⟨.when [(((a0.Kind==3)&&(Bl a0.B 0 (w64 ((ln z0.2)-1)))),true)] _,λ hg=>Bi (enc:=(pL pI)) (B4 h15 hg)⟩]<|jB λ y16 h17=>jC [⟨.when [(((a0.Kind==3)&&(Bl a0.B 0 (w64 ((ln z0.2)-1)))),true)] (.callB 298 [.d (DS pI y14),dI a0.A] (dB y16) (z0.2.map (pL pI)) (Int.toNat a0.B) ((pL pI) y14)),λ hg=>Aq2 ⟨A3x,(k298 y14 a0.A _ (B4 h17 hg))⟩ (B4 h15 hg)⟩]<|jS 24 [] n5_ [1,2,3,4,6,16,17,18,71]<|jI (λ h18=>jB λ y19 h20=>jC [⟨_,Az (enc:=(pL pI)) h20⟩,⟨_,Bi (enc:=(pL pI)) h20⟩]<|jB λ y21 h22=>jC [⟨.appD (z0.2.map (pL pI)) (Int.toNat a0.B) ((pL pI) y19) 0 (y19.map pI) ([a0.A].map pI) 1 (((y19.map pI).length+([a0.A].map pI).length)*(8+1)) (y21.map pI),Ju 1 (λ _=>rfl) h20 rfl h22⟩,⟨_,Az (enc:=(pL pI)) h20⟩]<|jB λ y23 h24=>jC [⟨_,Jl (enc:=(pL pI)) h20 h24⟩]<|jX 26 [] [0,1,2,8]) λ h18=>jZ1 24 [] []) λ z0=>jS 1 [.flat 1] [0,1] [2,3,4]<|jb0 λ y27=>jb0 λ y29=>jZ 22 [] []
instance k250s0 (x0:List Aj):Fv 250 [.d (DS Bf x0),.d (.fn (.func 178) [] [])] (λ (r:Int)=>dI r) (Aeb x0):=
 fnJ Tryz.func250 [0,1,4,5,7,8,9,16]<|jl Bf x0<|jG 26 [] [] [0,1,4,7,8] (kF λ n0 z0=>[(8,dI (cnt 0 n0))]) iF (kA [4] λ z0=>[]) iA (lnS Bf 0) 26 [] (λ _ _ _ a0 _ _ _ _=>jT [] (Atj a0)<|jS 32 [] [] [0,1,4,5,7,8,16]<|jI (λ h1=>jZ1 24 [] []) λ h1=>jX 25 [] []) λ z0=>jZ 23 [] []
instance k100s0 (x0:List A9) (x1c0c0:As):Fk 100 [.d (DS Cs x0),.d (.fn (.func 101) [] [.o 0 0])] [.box 193 [.fn (.func 97) [] [.o 1 0]],.box 68 (d68 x1c0c0)] (λ (r:Bool×As)=>dB r.1) (λ r=>[.box 193 [.fn (.func 97) [] [.o 1 0]],.box 68 (d68 r.2)]) (Zv x0 x1c0c0):=
 fnJ Tryz.func100 [0,1,4]<|jb [0,1] λ y1=>jZ 25 [] [0,1]
theorem Azg:EN 100:=en Tryz.func100
instance k160s0 (x0:List Ab):Fv 160 [.d (DS q88 x0),.d (.fn (.func 161) [] [])] (λ (r:Bool)=>dB r) (Zq x0):=
 fnJ Tryz.func160 [0,1,4]<|jb [] λ y1=>jZ 25 [] []
instance k163s0 (x0:List Ab):Fv 163 [.d (DS q88 x0),.d (.fn (.func 107) [] [])] (λ (r:Bool)=>dB r) (U6 x0):=
 fnJ Tryz.func163 [0,1,4,5,9,23]<|jW 26 [] [] [0,1,4,5] (kW λ z0=>[(5,dI z0)]) iA (kA [4] λ z0=>[]) iA (λ _ _ z0=>jl q88 x0<|jI (λ h1=>jb [] λ y2=>jb [] λ y4=>jb [] λ y6=>jS 30 [] [] [0,1,4,5,23]<|jI (λ h8=>jZ1 24 [] []) λ h8=>jX 25 [] []) λ h1=>jY 26 [] []) λ z0=>jZ 23 [] []
instance k165 (x0:A6) (x1:A6):Fv 165 [.agg (Azj x0),.agg (Azj x1)] (λ (r:Int)=>dI r) (Akr x0 x1):=
 fnJ Tryz.func165 n5_<|jb [] λ y1=>jb [] λ y3=>jb [] λ y5=>jZ 25 [] []
instance k168s0 (x0:Ab) (x1:A4):Fv 168 [.agg (d88 x0),.d (.ip [.s (x1.Parts.map q88),.s (x1.Links.map Es),.s (x1.Groups.map Gk)])] (λ (r:Bool)=>dB r) (Aeo x0 x1):=
 fnJ Tryz.func168 n4_<|jb [] λ y1=>jZ 25 [] []
instance k346s0 (x0:Bc) (x1:Int):Fv 346 [.d (.ip [.v (.int .i64 x0.Ao.Am),.s (x0.Ao.Ah.map Bs),.s (x0.Ao.Ae.map Cd),.s (x0.Ao.Ag.map B0),.v (.int .i64 x0.Ao.Phase),.v (.int .i64 x0.Ao.Aq),.s (x0.Au.Ai.map pB),.s (x0.Au.Ae.map Bf),.s (x0.Au.An.map pI),.s (x0.Au.Al.map q88),.v (.int .i64 x0.time)]),dI x1] (λ (r:Bool)=>dB r) (Qg x0 x1):=
 fnJ Tryz.func346 [0,1,4]<|jb [] λ y1=>jb [] λ y3=>jZ 25 [] []
instance k353s0 (x0:Int) (x1:Int) (x2:A2):Fk 353 [dI x0,dI x1,dO 0 0] (.box 333 [.o 1 0] :: .box 373 (zb x2.Ao [.os 2,.os 3,.os 4,.os 5,.os 6])::zp x2.Au [v3_ x2.acts]) (λ (r:Bool×A2)=>dB r.1) (λ r=>(.box 333 [.o 1 0] :: .box 373 (zb r.2.Ao [.os 2,.os 3,.os 4,.os 5,.os 6])::zp r.2.Au [v3_ r.2.acts])) (N9 x0 x1 x2):=
 fnJ Tryz.func353 [0,1,2,5]<|jb0 λ y1=>jZ 25 [] n7_
instance k401s1 (x0:List Int) (x1:Int) (x2:Int) (x3c0:Aa):Fk 401 [dS 0,dI x1,dI x2,.d (.fn (.func 355) [] [.o 1 0])] [v0_ x0,.box 38 (d38 x3c0)] (λ (r:(List Int)×Aa)=>.tup []) (λ r=>[v0_ r.1,.box 38 (d38 r.2)]) (Y3 x0 x1 x2 x3c0):=
 fnJ Tryz.func401 [0,1,2,3,8,9,14,34]<|jW 23 [] [0,1] [0,1,2,3,8] (kW λ z0=>[(8,dI z0.1)]) (uA λ z0=>[(0,v0_ z0.2)]) (kA [] λ z0=>[]) (uA λ z0=>[(0,v0_ z0.2)]) (λ _ _ z0=>jI (λ h1=>jW 30 [] [0,1] [0,1,2,3,8,9] (kW λ z1=>[(9,dI z1.1)]) (uA λ z1=>[(0,v0_ z1.2)]) (kA [0,1,2,3,8] λ z1=>[]) (uA λ z1=>[(0,v0_ z1.2)]) (λ _ _ z1=>jr λ y8 _=>jr λ y10 _=>jb0 λ y12=>jS 24 [] [0,1] [0,1,2,3,8,9,34]<|jI (λ h14=>jr λ y15 _=>jr λ y17 h18=>jC [⟨_,Az (enc:=pI) h18⟩]<|jB λ y19 h20=>jC [⟨_,B3 (enc:=pI) h18 h20⟩]<|jB λ y21 h22=>jC [⟨_,Az (enc:=pI) h22⟩]<|jB λ y23 h24=>jC [⟨_,B3 (enc:=pI) h22 h24⟩]<|jX 28 [] [0,1]) λ h14=>jY 23 [] [0,1]) λ z1=>jX 23 [] [0,1]) λ h1=>jY 26 [] [0,1]) λ z0=>jE id 20 [] [0,1]
instance k263s1 (x0:List Int) (x1c0:Ap):Fk 263 [dS 0,.d (.fn (.func 315) [] [.o 1 0])] [v0_ x0,.box 237 (T0 x1c0)] (λ (r:Int×Ap)=>dI r.1) (λ r=>[v0_ x0,.box 237 (T0 r.2)]) (Ad7 x0 x1c0):=
 fnJ Tryz.func263 [0,1,4,5,7,8,9,16]<|jl pI x0<|jF 26 [] [0,1] [0,1,4,7,8] (kF λ n0 z0=>[(8,dI (cnt 0 n0))]) iF (kA [4] λ z0=>[]) iA (lnO pI 0 0 3 1) 26 [0,1] (λ _ _ _ _ _ hl0 _ hx0=>jC [⟨_,Az (enc:=pI) (Bd hx0 hl0)⟩,⟨_,Bi (enc:=pI) (Bd hx0 hl0)⟩]<|jb0 λ y1=>jS 32 [] [0,1] [0,1,4,5,7,8,16]<|jI (λ h3=>jZ1 24 [] [0,1]) λ h3=>jX 25 [] [0,1]) λ z0=>jZ 23 [] [0,1]
theorem Ay2:EN 263:=en Tryz.func263
instance k260 (x0:Cf):Fv 260 [.agg (qJ x0)] (λ (r:Bool)=>dB r) (some (Akb x0)):=
 fnJ Tryz.func260 n3_<|jT [] (Xm x0)<|jZ 25 [] []
theorem Ax1 (rec116:Aa->Ad->Int->Option Bool) (ih116:∀ (x0:Aa) (x1:Ad) (x2:Int) (r:Bool),rec116 x0 x1 x2=some r->CO 116 [.agg (d38 x0),.agg (d64 x1),.d (I x2)] [] (.d (Bo r)) []) (x0:List Int) (x1c0:Aa) (x1c1:Ad):Fk 192 [.d (DS pI x0),.d (.fn (.func 193) [] [.o 0 0,.o 1 0])] [.box 38 (d38 x1c0),.box 64 (d64 x1c1)] (λ (r:Bool×Aa×Ad)=>.d (Bo r.1)) (λ r=>[.box 38 (d38 r.2.1),.box 64 (d64 r.2.2)]) (Zl rec116 x0 x1c0 x1c1):=
 fnJ Tryz.func192 [0,1,4]<|jB λ y1 h2=>jC [⟨_,okC [0,1] Ay1 (Axz rec116 ih116 x0 x1c0 x1c1 _ h2)⟩]<|jZ 25 [] [0,1]
theorem Ay4:EN 192:=en Tryz.func192
instance k265 (x0:Int) (x1:Int):Fv 265 [dI x0,dI x1] (λ (r:Int×Int)=>.tup [dI r.1,dI r.2]) (Aka x0 x1):=
 fnJ Tryz.func265 [0,1,4,5]<|jb [] λ y1=>jZ 25 [] []
instance k362 (x0:List Int) (x1:Int) (x2:Int):Fv 362 [.d (DS pI x0),dI x1,dI x2] (λ (r:Bool)=>dB r) (Ul x0 x1 x2):=
 fnJ Tryz.func362 [0,1,2,4,5,6]<|jb [0,1] λ y1=>jZ 25 [] []
instance k363 (x0:Int) (x1:Int):Fv 363 [dI x0,dI x1] (λ (r:Int×Int)=>.tup [dI r.1,dI r.2]) (As9 x0 x1):=
 fnJ Tryz.func363 [0,1,4,5]<|jb [] λ y1=>jZ 25 [] []
instance k368 (x0:List B5) (x1:Int):Fk 368 [.d (DS G4 x0),dI x1] [] (λ (r:(List Int)×Int)=>.tup [dS 0,dI r.2]) (λ r=>[v0_ r.1]) (As7 x0 x1):=
 fnJ Tryz.func368 [0,1,4,5,7,8,10,11,12,13]<|jl G4 x0<|jF 26 [.own 4 3 1] [0] [1,4,10,11,5,12] (kF λ n0 z0=>[(5,dI z0.1),(12,dI (cnt 0 n0))]) (uF λ n0 z0=>[(0,v0_ z0.2)]) (kA [4] λ z0=>[(5,dI z0.1)]) (uA λ z0=>[(0,v0_ z0.2)]) (lnS G4 10) 26 [0] (λ _ _ _ a0 _ hl0 _ hx0=>jC [⟨_,Bm hx0 hl0⟩]<|jb [] λ y1=>jT [] (N8 y1.1 a0.Low a0.High)<|jB λ y3 h4=>jC [⟨_,A8 pI 1 (λ _=>rfl) h4⟩]<|jX 37 [] [2]) λ z0=>jZ 23 [] [0]
instance k226 (x0:Af):Fk 226 [dO 0 0] [.box 120 (B7 x0)] (λ (r:(List Int)×Af)=>dS 1) (λ r=>[.box 120 (B7 r.2),v0_ r.1]) (uE x0):=
 fnJ Tryz.func226 [0,2,3,4,7,8,9]<|jB λ y1 h2=>jC [⟨.room (12*(8+1)) (List.replicate 12 (pI 0)) (y1.map pI),He h2⟩]<|jl pI y1<|jF 28 [] [0,1] [0,2,3,7,8] (kF λ n0 z0=>[(8,dI (cnt 0 n0))]) (uF λ n0 z0=>[(0,.box 120 [DS pI z0.1,I z0.2.1]),(1,v0_ z0.2.2)]) (kA [2,3] λ z0=>[]) (uA λ z0=>[(0,.box 120 [DS pI z0.1,I z0.2.1]),(1,v0_ z0.2.2)]) (lnO pI 3 1 3 1) 26 [0,1] (λ _ _ _ _ _ _ _ _=>jb [0] λ y3=>jB λ y5 h6=>jC [⟨_,Az (enc:=pI) h6⟩]<|jB λ y7 h8=>jC [⟨_,B3 (enc:=pI) h6 h8⟩]<|jX 33 [] [0,1]) λ z0=>jZ 23 [] [0,1]
instance k227 (x0:Af):Fk 227 [dO 0 0] [.box 120 (B7 x0)] (λ (r:Cf×Af)=>.agg (qJ r.1)) (λ r=>[.box 120 (B7 r.2)]) (Akf x0):=
 fnJ Tryz.func227 [0,2,3]<|jb [0] λ y1=>jb [0] λ y3=>jC [⟨.nz 3600,H_ rfl⟩]<|jZ 27 [] [0]
set_option maxHeartbeats 4000000 in
instance k84 (x0:Af):Fk 84 [dO 0 0] [.box 120 (B7 x0)] (λ (r:Aa×Af)=>.agg [I r.1.Am,.os 1,.os 2,.os 3,I r.1.Phase,I r.1.Aq]) (λ r=>(.box 120 (B7 r.2)::zs r.1 [])) (F84 x0):=
 fnJ Tryz.func84 [0,2,3,4,5,6,7,8,9,10,11,24,29,47,60,96,121,155]<|jb [0] λ y1=>jb [0] λ y3=>jb [0] λ y5=>jW 28 [.ownb 1 1 168 3,.ownb 1 2 170 3,.ownb 1 3 172 5,.ownb 2 1 168 3,.ownb 2 2 170 3,.ownb 2 3 172 5] n9_ [0,2,3,4] (kW λ z0=>[(4,dI z0.1)]) (uA λ z0=>[(0,.box 120 [DS pI z0.2.1,I z0.2.2.1]),(6,L8 (Dx z0))]) (kA [0,2,3] λ z0=>[]) (uA λ z0=>[(0,.box 120 [DS pI z0.2.1,I z0.2.2.1]),(6,L8 (Dx z0))]) (λ _ _ z0=>jI (λ h7=>jb [0] λ y8=>jI (λ h10=>jb [0] λ y11=>jB λ y13 h14=>jC [⟨_,A8 Bs 3 (λ _=>rfl) h14⟩]<|jX 34 [] [0,1,2,3,4,5,9,7,8]) λ h10=>jX 34 [] n9_) λ h7=>jY 26 [] n9_) λ z0=>jB λ y15 h16=>jC [⟨.whenR [(decide (y1.1>2),true)] _,⟨λ hg=>okC [0] e44 (k44 (⟨z0.2.1,z0.2.2.1⟩:Af) 2 _ (B4 h16 hg)),λ hg=>by have e:=Ff h16 hg;subst e;rfl⟩⟩]<|jS 24 [] n9_ [0,2,3,47]<|jM (kA [0,2,3] λ z1=>[]) (uA λ z1=>[(6,L8 z1)]) (λ _=>jI (λ h17=>jB λ y18 h19=>jC [⟨_,A8 Bs 3 (λ _=>rfl) h19⟩]<|jX 23 [] [0,1,2,3,4,5,9,7,8]) λ h17=>jX 23 [] n9_) λ z1=>jb [0] λ y20=>jW 24 [] n9_ [0,2,3,5] (kW λ z2=>[(5,dI z2.1)]) (uA λ z2=>[(0,.box 120 [DS pI z2.2.1,I z2.2.2.1]),(6,L8 (g3_ z2)),(7,.sl 170 3 (z2.2.2.2.2.map Cd))]) (kA [0,2,3] λ z2=>[]) (uA λ z2=>[(0,.box 120 [DS pI z2.2.1,I z2.2.2.1]),(6,L8 (g3_ z2)),(7,.sl 170 3 (z2.2.2.2.2.map Cd))]) (λ _ _ z2=>jI (λ h22=>jb [0] λ y23=>jl Cd (qA z2)<|jB λ y25 h26=>jC [⟨_,A8 Bs 3 (λ _=>rfl) h26⟩]<|jb [0] λ y27=>jb [0] λ y29=>jb [0] λ y31=>jB λ y33 h34=>jC [⟨_,A8 Cd 3 (λ _=>rfl) h34⟩]<|jX 35 [] [0,1,2,3,4,5,9,10,8]) λ h22=>jY 26 [] n9_) λ z2=>jb [0] λ y35=>jW 24 [] n9_ [0,2,3,7] (kW λ z3=>[(7,dI z3.1)]) (uA λ z3=>[(0,.box 120 [DS pI z3.2.1,I z3.2.2.1]),(6,L8 (g3_ z3)),(8,Si (qA z3))]) (kA [2,3] λ z3=>[]) (uA λ z3=>[(0,.box 120 [DS pI z3.2.1,I z3.2.2.1]),(6,L8 (g3_ z3)),(8,Si (qA z3))]) (λ _ _ z3=>jI (λ h37=>jl B0 (qA z3)<|jb [0] λ y38=>jB λ y40 h41=>jC [⟨_,A8 Bs 3 (λ _=>rfl) h41⟩]<|jB λ y42 h43=>jC [⟨.whenR [(decide (y1.1>1),true)] _,⟨λ hg=>okC [0] e44 (k44 y38.2 4 _ (B4 h43 hg)),λ hg=>by have e:=Ff h43 hg;subst e;rfl⟩⟩]<|jS 37 [] [0,1,2,3,4,5,7,8,9] [0,2,3,7,8,9,121]<|jM (kA [0,2,3,7,8] λ z4=>[]) (uA λ z4=>[(8,L8 z4)]) (λ _=>jI (λ h44=>jb [] λ u46=>jB λ y47 h48=>jC [⟨_,A8 Bs 3 (λ _=>rfl) h48⟩]<|jX 23 [] [0,1,2,3,4,5,6,7,9]) λ h44=>jX 23 [] n9_) λ z4=>jb [0] λ y49=>jC [⟨.nz 2,H_ rfl⟩]<|jb [0] λ y51=>jb [0] λ y53=>jb [0] λ y55=>jB λ y57 h58=>jC [⟨.whenR [(decide ((ln (qA z3))>0),true)] _,⟨λ hg=>okC [0] e44 (k44 y55.2 4 _ (B4 h58 hg)),λ hg=>by have e:=Ff h58 hg;subst e;rfl⟩⟩]<|jS 28 [.ownb 9 4 3 1] O2 [0,2,3,7,8,11,155]<|jI (λ h59=>jb [0] λ y60=>jB λ y62 h63=>jC [⟨_,A8 B0 5 (λ _=>rfl) h63⟩]<|jX 26 [] [0,1,2,3,4,5,8,6,11]) λ h59=>jS 2 [.frz 10] Ia [0,2,3,7,11]<|jB λ y64 h65=>jC [⟨_,A8 B0 5 (λ _=>rfl) h65⟩]<|jX 24 [] [0,1,2,3,4,5,8,6,10]) λ h37=>jY 26 [] n9_) λ z3=>jZ 23 [] [0,6,7,8]
instance k85 (x0:Af):Fk 85 [dO 0 0] [.box 120 (B7 x0)] (λ (r:Bt×Af)=>.agg (d40 r.1)) (λ r=>[.box 120 (B7 r.2)]) (F85 x0):=
 fnJ Tryz.func85 [0,2]<|jb [0] λ y1=>jb [0] λ y3=>jb [0] λ y5=>jZ 25 [] [0]
instance k149 (x0:Af):Fk 149 [dO 0 0] [.box 120 (B7 x0)] (λ (r:Dm×Af)=>.agg (A4a r.1)) (λ r=>[.box 120 (B7 r.2)]) (Atl x0):=
 fnJ Tryz.func149 [0,2]<|jb [0] λ y1=>jb [0] λ y3=>jb [0] λ y5=>jb [0] λ y7=>jZ 25 [] [0]
instance k87 (x0:Af):Fk 87 [dO 0 0] [.box 120 (B7 x0)] (λ (r:L6×Af)=>.agg (d47 r.1)) (λ r=>[.box 120 (B7 r.2)]) (F87 x0):=
 fnJ Tryz.func87 [0,2]<|jb [0] λ y1=>jb [0] λ y3=>jb [0] λ y5=>jb [0] λ y7=>jb [0] λ y9=>jb [0] λ y11=>jb [0] λ y13=>jb [0] λ y15=>jb [0] λ y17=>jZ 25 [] [0]
instance k150 (x0:Af):Fk 150 [dO 0 0] [.box 120 (B7 x0)] (λ (r:Kw×Af)=>.agg (d53 r.1)) (λ r=>[.box 120 (B7 r.2)]) (Aks x0):=
 fnJ Tryz.func150 [0,2,3]<|jb [0] λ y1=>jb [0] λ y3=>jb [0] λ y5=>jb [0] λ y7=>jZ 27 [] [0]
instance k89 (x0:Af):Fk 89 [dO 0 0] [.box 120 (B7 x0)] (λ (r:Kv×Af)=>.agg [.os 1]) (λ r=>[.box 120 (B7 r.2),Oy r.1.Stages]) (F89 x0):=
 fnJ Tryz.func89 [0,2,3,4,12,16]<|jW 28 [.ownb 1 0 252 4,.ownb 2 0 252 4] n5_ [0,2,3,4] (kW λ z0=>[(4,dI z0.1)]) (uA λ z0=>[(0,.box 120 [DS pI z0.2.1,I z0.2.2.1]),(4,Oy (Dx z0))]) (kA [2,3] λ z0=>[]) (uA λ z0=>[(0,.box 120 [DS pI z0.2.1,I z0.2.2.1]),(4,Oy (Dx z0))]) (λ _ _ z0=>jb [0] λ y3=>jI (λ h5=>jI (λ h6=>jY 33 [] n5_) λ h6=>jB λ y17 h18=>jC [⟨.strb ([IntKind.wrap .u8 (w64 (97+z0.1))].map (pK .u8)) y17,Ap6 h18⟩]<|jb [] λ u20=>jb [0] λ y21=>jb [0] λ y23=>jB λ y25 h26=>jC [⟨.call 91 [dO 0 0,dI z0.1,dI 2] [.box 120 (B7 y23.2)] (.d (DS pI y25.1)) [.box 120 (B7 y25.2),.non] [0],⟨e91,(CallOk.frzAll [1] (show CO 91 [dO 0 0,dI z0.1,dI 2] [.box 120 (B7 y23.2)] (dS 1) [.box 120 (B7 y25.2),v0_ y25.1] from (k91 y23.2 z0.1 2 _ h26)) (by kernel_rfl))⟩⟩]<|jB λ y27 h28=>jC [⟨_,A8 Z6 4 (λ _=>rfl) h28⟩]<|jX 36 [] [0,1,2,3,6]) λ h5=>jY 26 [] n5_) λ z0=>jZ 23 [] [0,4]
instance k90 (x0:Af):Fk 90 [dO 0 0] [.box 120 (B7 x0)] (λ (r:Int×Af)=>dI r.1) (λ r=>[.box 120 (B7 r.2)]) (F90 x0):=
 fnJ Tryz.func90 [0,2]<|jb [0] λ y1=>jZ 25 [] [0]
set_option maxHeartbeats 4000000 in
instance k151s1 (x0:Af) (x1:Aa):Fk 151 [dO 0 0,.agg [I x1.Am,.os 1,.os 2,.os 3,I x1.Phase,I x1.Aq]] (.box 120 (B7 x0)::zs x1 []) (λ (r:Ad×Af)=>.agg [.os 4,.os 5,.os 6,.os 7]) (λ r=>(.box 120 (B7 r.2)::zs x1 (zp r.1 []))) (Vd x0 x1):=
 fnJ Tryz.func151 [0,1,3,4,5,6,7,8,9,11,12,13,16,17,18,30,31,32,35,36,37,38,57,67,68,69,89,90,91,92,114,119,126]<|jl Bs x1.Ah<|jW 28 [.ownb 5 0 4 1,.ownb 5 1 160 4,.ownb 5 2 3 1,.ownb 5 3 88 2,.ownb 6 0 4 1,.ownb 6 1 160 4,.ownb 6 2 3 1,.ownb 6 3 88 2] D6 [0,3,4,5,16,17] (kW λ z0=>[(17,dI z0.1)]) (uA λ z0=>[(0,.box 120 [DS pI z0.2.1,I z0.2.2.1]),(11,v5_ (Dx z0))]) (kA [0,3,4,5] λ z0=>[]) (uA λ z0=>[(0,.box 120 [DS pI z0.2.1,I z0.2.2.1]),(11,v5_ (Dx z0))]) (λ _ _ z0=>jI (λ h1=>jb [0] λ y2=>jB λ y4 h5=>jC [⟨_,A8 pB 1 (λ _=>rfl) h5⟩]<|jX 31 [] [0,1,2,3,4,5,6,7,8,9,10,15,12,13,14]) λ h1=>jY 26 [] D6) λ z0=>jl B0 x1.Ag<|jW 24 [] D6 [0,3,4,5,30,31] (kW λ z1=>[(31,dI z1.1)]) (uA λ z1=>[(11,v5_ z1.2)]) (kA [0,3,4,5] λ z1=>[]) (uA λ z1=>[(11,v5_ z1.2)]) (λ _ _ z1=>jI (λ h6=>jl Bs x1.Ah<|jF 34 [] D6 [0,3,4,5,6,30,31,35,36,7,37] (kF λ n2 z2=>[(7,dB z2.1),(37,dI (cnt 0 n2))]) (uF λ n2 z2=>[(11,v5_ z2.2)]) (kA [0,3,4,5,30,31] λ z2=>[]) (uA λ z2=>[(11,v5_ z2.2)]) (lnO Bs 35 1 168 3) 26 D6 (λ _ _ _ _ _ hl2 _ hx2=>jC [⟨_,Az (enc:=Bs) (Bd hx2 hl2)⟩,⟨_,Bi (enc:=Bs) (Bd hx2 hl2)⟩]<|jr λ y7 _=>jS 32 [] D6 [0,3,4,5,6,7,8,30,31,35,36,37,57]<|jI (λ h9=>jB λ y10 h11=>jC [⟨_,Az (enc:=pB) h11⟩]<|jB λ y12 h13=>jC [⟨_,B3 (enc:=pB) h11 h13⟩]<|jX 27 [] D6) λ h9=>jX 25 [] D6) λ z2=>jX 23 [] D6) λ h6=>jY 26 [] D6) λ z1=>jl Cd x1.Ae<|jW 24 [] D6 [0,3,4,5,67,68] (kW λ z3=>[(68,dI z3.1)]) (uA λ z3=>[(0,.box 120 [DS pI z3.2.1,I z3.2.2.1]),(12,v4_ (Dx z3))]) (kA [0,3,4,5] λ z3=>[]) (uA λ z3=>[(0,.box 120 [DS pI z3.2.1,I z3.2.2.1]),(12,v4_ (Dx z3))]) (λ _ _ z3=>jI (λ h14=>jb [0] λ y15=>jb [0] λ y17=>jb [0] λ y19=>jb [0] λ y21=>jB λ y23 h24=>jC [⟨_,A8 Bf 4 (λ _=>rfl) h24⟩]<|jX 31 [] [0,1,2,3,4,5,6,7,8,9,10,11,15,13,14]) λ h14=>jY 26 [] D6) λ z3=>jl B0 x1.Ag<|jF 24 [] D6 [0,3,4,5,89,90,91] (kF λ n4 z4=>[(91,dI (cnt 0 n4))]) (uF λ n4 z4=>[(0,.box 120 [DS pI z4.1,I z4.2.1]),(13,v0_ z4.2.2)]) (kA [0,3,4,5] λ z4=>[]) (uA λ z4=>[(0,.box 120 [DS pI z4.1,I z4.2.1]),(13,v0_ z4.2.2)]) (lnO B0 89 3 172 5) 26 D6 (λ _ _ _ _ _ hl4 _ hx4=>jC [⟨_,Az (enc:=B0) (Bd hx4 hl4)⟩,⟨_,Bi (enc:=B0) (Bd hx4 hl4)⟩,⟨.nz 3,H_ rfl⟩]<|jb [0] λ y25=>jB λ y27 h28=>jC [⟨_,A8 pI 1 (λ _=>rfl) h28⟩]<|jX 33 [] [0,1,2,3,4,5,6,7,8,9,10,11,12,16,14]) λ z4=>jW 24 [] D6 [0,3,4,5,12] (kW λ z5=>[(12,dI z5.1)]) (uA λ z5=>[(0,.box 120 [DS pI z5.2.1,I z5.2.2.1]),(14,v1_ (Dx z5))]) (cA λ z5=>[(4,dO 4 0),(5,dO 5 0)]) (cA λ z5=>(.box 120 [DS pI z5.2.1,I z5.2.2.1]::zs x1 (.box 64 [.os 6,.os 7,.os 8,.os 9] :: .box 64 [.os 10,.os 11,.os 12,.os 13]::ze [v5_ z1.2,v4_ (Dx z3),v0_ z4.2.2,v1_ (Dx z5)]))) (λ _ _ z5=>jI (λ h29=>jb [0] λ y30=>jI (λ h32=>jb [0] λ y33=>jC [⟨_,Ez ⟨A39,(k143 x1 (⟨z5.1,y33.1⟩:Ab) _ rfl)⟩⟩]<|jS 35 [] Jo [0,3,4,5,12,13,126]<|jI (λ h35=>jB λ y36 h37=>jC [⟨_,A8 q88 2 (λ _=>rfl) h37⟩]<|jX 25 [] [0,1,2,3,4,5,6,7,8,9,10,11,12,13,16]) λ h35=>jX 25 [] D6) λ h32=>jX 34 [] D6) λ h29=>jY 26 [] [0,1,2,3,5,6,7,8,9,10,11,12,13,14]) λ z5=>jZ 23 [] [0,1,2,3,10,11,12,13]
instance k48 (x0:Af):Fk 48 [dO 0 0] [.box 120 (B7 x0)] (λ (r:Ab×Af)=>.agg (d88 r.1)) (λ r=>[.box 120 (B7 r.2)]) (F48 x0):=
 fnJ Tryz.func48 [0,2]<|jb [0] λ y1=>jb [0] λ y3=>jZ 25 [] [0]
instance k28 (x0:A4) (x1:List Ab):Fk 28 [.agg (d44 x0),.d (DS q88 x1)] [] (λ (r:(List Ab))=>dS 0) (λ r=>[v1_ r]) (F28 x0 x1):=
 fnJ Tryz.func28 [0,1,2,4,5,6,8,13,15,17,18,19,20,33]<|jb [] λ y1=>jb [] λ y3=>jS 28 [] [0,1] [2,4,5,13]<|jI (λ h5=>jZ 24 [] [1]) λ h5=>jW 26 [] [0,1] [2,4,5,6] (kW λ z0=>[(6,dB z0.1)]) (uA λ z0=>[(1,v1_ z0.2)]) (cA λ z0=>[(4,.d (DS q88 [])),(5,dS 0)]) (cA λ z0=>[v1_ z0.2]) (λ _ _ z0=>jI (λ h6=>jl Es x0.Links<|jF 31 [] [0,1] [2,4,5,17,18,6,19] (kF λ n1 z1=>[(6,dB z1.1),(19,dI (cnt 0 n1))]) (uF λ n1 z1=>[(1,v1_ z1.2)]) (kA [2,4,5] λ z1=>[(6,dB z1.1)]) (uA λ z1=>[(1,v1_ z1.2)]) (lnS Es 17) 26 [0,1] (λ _ _ _ _ _ hl1 _ hx1=>jC [⟨_,Bm hx1 hl1⟩]<|jb0 λ y7=>jb0 λ y9=>jS 32 [] n3_ [2,4,5,6,8,17,18,19,33]<|jI (λ h11=>jb [1] λ y12=>jX 25 [] [0,3]) λ h11=>jX 25 [] [0,1]) λ z1=>jX 22 [] [0,1]) λ h6=>jY 26 [] [1]) λ z0=>jZ 23 [] [0]
theorem e28:EN 28:=en Tryz.func28
instance k219 (x0:Aa) (x1:Ad) (x2:Int):Fv 219 [.agg (d38 x0),.agg (d64 x1),dI x2] (λ (r:Int×Bool)=>.tup [dI r.1,dB r.2]) (Xn x0 x1 x2):=
 fnJ Tryz.func219 [0,1,2,3,4,6,7,8,32,43]<|jb [] λ y1=>jC [⟨.when [(((y1 != 0) || (decide (x2<0))),false)] _,λ hg=>okL Cd x0.Ae⟩]<|jb [] λ y3=>jS 26 [] [0,1] [2,3,4,6,7,32]<|jI (λ h5=>jZ 24 [] []) λ h5=>jb [] λ y6=>jr λ y8 _=>jb [] λ y10=>jS 28 [] [0] [3,6,7,8,43]<|jI (λ h12=>jZ 24 [] []) λ h12=>jb [] λ y13=>jZ 25 [] []
instance k208 (x0:Aa) (x1:Ad) (x2:Int):Fv 208 [.agg (d38 x0),.agg (d64 x1),dI x2] (λ (r:Int×Bool)=>.tup [dI r.1,dB r.2]) (Aej x0 x1 x2):=
 fnJ Tryz.func208 [0,1,2,3,4,6,7,9,24,27,28,29,30,37]<|jb [] λ y1=>jC [⟨.when [(((y1 != 0) || (decide (x2<0))),false)] _,λ hg=>okL B0 x0.Ag⟩]<|jS 26 [] [0,1] [2,3,4,6,7,24]<|jI (λ h3=>jZ 24 [] []) λ h3=>jb [] λ y4=>jl pI y4<|jF 26 [] n3_ [3,4,6,7,27,28,29] (kF λ n0 z0=>[(29,dI (cnt 0 n0))]) iF (cA λ z0=>[(6,dI 0),(7,dB false)]) (cA λ z0=>[]) (lnO pI 27 2 3 1) 26 [] (λ _ _ _ _ _ hl0 _ hx0=>jC [⟨_,Az (enc:=pI) (Bd hx0 hl0)⟩,⟨_,Bi (enc:=pI) (Bd hx0 hl0)⟩]<|jb [] λ y6=>jI (λ h8=>jb [] λ y9=>jZ1 35 [] []) λ h8=>jX 36 [] n3_) λ z0=>jZ 23 [] []
instance k203 (x0:Aa) (x1:Ad):Fk 203 [.agg (d38 x0),.agg (d64 x1)] [] (λ (r:Ad×Int)=>.tup [.agg [.os 0,.os 1,.os 2,.os 3],dI r.2]) (λ r=>(zp r.1 [])) (A16 x0 x1):=
 fnJ Tryz.func203 [0,1,2,3,4,5,6,7,8,9,14,20,21,22,23,29]<|jb [] λ y1=>jS 28 [.ownb 2 0 4 1,.ownb 2 1 160 4,.ownb 2 2 3 1,.ownb 2 3 88 2] [1,2,3,4,5,6] [3,4,5,6,14]<|jI (λ h3=>jN) λ h3=>jb [] λ y4=>jl Bf y4.Ae<|jF 28 [] [1,2,3,4,5,6,7,8,9,10] [4,5,7,20,21,22] (kF λ n0 z0=>[(22,dI (cnt 0 n0))]) (uF λ n0 z0=>[(6,v4_ z0)]) (kA [4,5,7] λ z0=>[]) (uA λ z0=>[(6,v4_ z0)]) (lnO Bf 20 6 160 4) 26 Ia (λ _ _ _ _ _ _ _ _=>jr λ y6 h7=>jI (λ h8=>jT [] (Kx (w64 (y6.Phase+(w64 (36*(w64 (y6.Aq-5000)))))))<|jC [⟨_,Az (enc:=Bf) h7⟩]<|jB λ y9 h10=>jC [⟨_,B3 (enc:=Bf) h7 h10⟩]<|jX 36 [] Ia) λ h8=>jN) λ z0=>jZ 23 [] [5,6,7,8]
instance k175 (x0:Aa):Fv 175 [.agg (d38 x0)] (λ (r:Int)=>dI r) (Aen x0):=
 fnJ Tryz.func175 [0,1,2,3,5,6,7,29,43,44,45,46,56,57,58,59,71]<|jT [] (Bl x0.Am 1 6)<|jC [⟨.when [(!(Bl x0.Am 1 6),false)] _,λ hg=>okL Bs x0.Ah⟩,⟨.when [(((!(Bl x0.Am 1 6)) || (decide ((ln x0.Ah)>24))),false)] _,λ hg=>okL Cd x0.Ae⟩,⟨.when [((((!(Bl x0.Am 1 6)) || (decide ((ln x0.Ah)>24))) || (decide ((ln x0.Ae)>8))),false)] _,λ hg=>okL B0 x0.Ag⟩]<|jS 26 [] [0] [1,2,29]<|jI (λ h1=>jZ 24 [] []) λ h1=>jb [] λ y2=>jTw [(y2,true)] [] (Bl x0.Phase 0 1800)<|jTw [((y2&&(Bl x0.Phase 0 1800)),true)] [] (Bl x0.Aq 0 6000)<|jl Cd x0.Ae<|jG 28 [] [0] [1,2,43,44,3,45] (kF λ n0 z0=>[(3,dB z0),(45,dI (cnt 0 n0))]) iF (kA [1,2] λ z0=>[(3,dB z0)]) iA (lnS Cd 43) 26 [0] (λ _ _ _ a0 z0 _ _ _=>jTw [(z0,true)] [] (Aed a0)<|jX 33 [] [0]) λ z0=>jl B0 x0.Ag<|jF 24 [] [] [2,56,57,3,58] (kF λ n1 z1=>[(3,dB z1),(58,dI (cnt 0 n1))]) iF (kA [2] λ z1=>[(3,dB z1)]) iA (lnS B0 56) 26 [] (λ _ _ _ _ _ hl1 _ hx1=>jC [⟨_,Bm hx1 hl1⟩]<|jb [] λ y4=>jX 33 [] []) λ z1=>jI (λ h6=>jZ 27 [] []) λ h6=>jZ 28 [] []
instance k177s0 (x0:List Aj):Fv 177 [.d (DS Bf x0),.d (.fn (.func 178) [] [])] (λ (r:Bool)=>dB r) (U4 x0):=
 fnJ Tryz.func177 [0,1,4]<|jb [] λ y1=>jZ 25 [] []
instance k102 (x0:List Ab):Fv 102 [.d (DS q88 x0)] (λ (r:Bool)=>dB r) (Aky x0):=
 fnJ Tryz.func102 [0,2]<|jb [] λ y1=>jb [] λ y3=>jZ 25 [] []
instance k164s0 (x0:List A6):Fv 164 [.d (DS Es x0),.d (.fn (.func 165) [] [])] (λ (r:Bool)=>dB r) (Zo x0):=
 fnJ Tryz.func164 [0,1,4,5,9,23]<|jW 26 [] [] [0,1,4,5] (kW λ z0=>[(5,dI z0)]) iA (kA [4] λ z0=>[]) iA (λ _ _ z0=>jl Es x0<|jI (λ h1=>jb [] λ y2=>jb [] λ y4=>jb [] λ y6=>jS 30 [] [] [0,1,4,5,23]<|jI (λ h8=>jZ1 24 [] []) λ h8=>jX 25 [] []) λ h1=>jY 26 [] []) λ z0=>jZ 23 [] []
instance k233s2 (x0:List Ab) (x1c0:A4):Fk 233 [.d (DS q88 x0),.d (.fn (.func 168) [] [.o 0 0])] [.box 44 (d44 x1c0)] (λ (r:Int×A4)=>dI r.1) (λ r=>[.box 44 (d44 r.2)]) (Aeg x0 x1c0):=
 fnJ Tryz.func233 [0,1,4,5,7,8,9,16]<|jl q88 x0<|jF 26 [] [0] [0,1,4,7,8] (kF λ n0 z0=>[(8,dI (cnt 0 n0))]) iF (kA [4] λ z0=>[]) iA (lnS q88 0) 26 [0] (λ _ _ _ _ _ hl0 _ hx0=>jC [⟨_,Bm hx0 hl0⟩]<|jb0 λ y1=>jS 32 [] [0] [0,1,4,5,7,8,16]<|jI (λ h3=>jZ1 24 [] [0]) λ h3=>jX 25 [] [0]) λ z0=>jZ 23 [] [0]
instance k305s1 (x0:Bc) (x1:Int):Fk 305 [dO 0 0,dI x1] (.box 330 (zb x0.Ao [.os 1,.os 2,.os 3,.os 4,I x0.time])::zp x0.Au []) (λ (r:Int×Bc)=>dI r.1) (λ r=>(.box 330 (zb r.2.Ao [.os 1,.os 2,.os 3,.os 4,I r.2.time])::zp r.2.Au [])) (Zf x0 x1):=
 fnJ Tryz.func305 [0,1,4,5,23,43]<|jr λ y1 h2=>jb0 λ y3=>jS 26 [] n5_ [0,1,4,23]<|jI (λ h5=>jZ 24 [] n5_) λ h5=>jb [] λ y6=>jb0 λ y8=>jS 28 [] n6_ [0,1,4,5,43]<|jI (λ h10=>jC [⟨_,Az (enc:=Bf) h2⟩]<|jB λ y11 h12=>jC [⟨_,B3 (enc:=Bf) h2 h12⟩]<|jZ 27 [] n5_) λ h10=>jC [⟨_,Az (enc:=Bf) h2⟩]<|jB λ y13 h14=>jC [⟨_,B3 (enc:=Bf) h2 h14⟩]<|jZ 27 [] n5_
instance k306s1 (x0:Bc) (x1:Int):Fk 306 [dO 0 0,dI x1] (.box 330 (zb x0.Ao [.os 1,.os 2,.os 3,.os 4,I x0.time])::zp x0.Au []) (λ (r:Int×Bc)=>dI r.1) (λ r=>(.box 330 (zb r.2.Ao [.os 1,.os 2,.os 3,.os 4,I r.2.time])::zp r.2.Au [])) (Ze x0 x1):=
 fnJ Tryz.func306 [0,1,4,5,30]<|jr λ y1 h2=>jC [⟨.when [((y1.State != 1),true)] _,λ hg=>Bi (enc:=Bf) h2⟩]<|jb0 λ y3=>jS 28 [] n5_ [4,5,30]<|jI (λ h5=>jZ 24 [] n5_) λ h5=>jB λ y6 h7=>jC [⟨_,B3 (enc:=Bf) h2 h7⟩]<|jZ 27 [] n5_
instance k311s1 (x0:A2) (x1:Ak):Fk 311 [dO 0 0,.agg (Ace x1)] (.box 373 (zb x0.Ao [.os 1,.os 2,.os 3,.os 4,.os 5])::zp x0.Au [v3_ x0.acts]) (λ (r:Bool×A2)=>dB r.1) (λ r=>(.box 373 (zb r.2.Ao [.os 1,.os 2,.os 3,.os 4,.os 5])::zp r.2.Au [v3_ r.2.acts])) (Y9 x0 x1):=
 fnJ Tryz.func311 [0,1,2,3,4,5,7,12,20]<|jb [6,0,1,2,3,4,5] λ y1=>jS 29 [] n8_ [2,3,4,5,7]<|jI (λ h3=>jZ 24 [] n6_) λ h3=>jI (λ h4=>jb [6,0,1,2,3,4,5] λ y5=>jZ 27 [] n6_) λ h4=>jI (λ h7=>jb [6,0,1,2,3,4,5] λ y8=>jr λ y10 _=>jZ 30 [] n6_) λ h7=>jb [6,0,1,2,3,4,5] λ y12=>jZ 32 [] n6_
theorem Ay0:EN 311:=en Tryz.func311
instance k381s1 (x0:List Int) (x1:Int) (x2c0:Aa):Fk 381 [dS 0,dI x1,.d (.fn (.func 355) [] [.o 1 0])] [v0_ x0,.box 38 (d38 x2c0)] (λ (r:(List Int)×Aa)=>.tup []) (λ r=>[v0_ r.1,.box 38 (d38 r.2)]) (Ady x0 x1 x2c0):=
 fnJ Tryz.func381 [0,1,2,6,7,8,9,13,30,35,54]<|jW 26 [] [0,1] [0,1,2,6,7,8] (kW λ z0=>[(7,dI z0.1),(8,dI z0.2.1)]) (uA λ z0=>[(0,v0_ z0.2.2.1),(1,.box 38 [I (g3_ z0),DS Bs (g4_ z0),DS Cd (g5_ z0),DS B0 (g6_ z0),I (g7_ z0),I (Ai0 z0)])]) (kA [0,1,2,6] λ z0=>[(7,dI z0.1),(8,dI z0.2.1)]) (uA λ z0=>[(0,v0_ z0.2.2.1),(1,.box 38 [I (g3_ z0),DS Bs (g4_ z0),DS Cd (g5_ z0),DS B0 (g6_ z0),I (g7_ z0),I (Ai0 z0)])]) (λ _ _ z0=>jI (λ h1=>jb [0,1] λ y2=>jX 33 [] [0,1]) λ h1=>jY 26 [] [0,1]) λ z0=>jb [0,1] λ y4=>jW 23 [] [0,1] [0,1,2,6,7,8] (kW λ z1=>[]) iA (kA [] λ z1=>[]) iA (λ _ _ z1=>jI (λ h6=>jN) λ h6=>jY 26 [] [0,1]) λ z1=>jE id 20 [] [0,1]
def J0:List Nat:=[0,1,4,5,6,7,12,19,29]
def Ob  (z0:Int×Int×(List Int)):St:=[(0,dS 0),(1,.d (.fn (.func 315) [] [.o 1 0])),(4,.d (DS pI [])),(5,dI z0.1),(6,dI z0.2.1)]
def Ry (y1:Int×Ap) (z0:Int×Int×(List Int)):List Res:=[v0_ z0.2.2,.box 237 (T0 y1.2)]
def vO  (z0:Int×Int×(List Int)):St:=[(0,dS 0),(4,.d (DS pI [])),(5,dI z0.1)]
def yP (y1:Int×Ap) (z0:Int×Int×(List Int)):List Res:=[v0_ z0.2.2,.box 237 (T0 y1.2)]
theorem Axy (x0:List Int) (x1c0:Ap) (r:(List Int)×Ap) (h:Uu x0 x1c0=some r):CO 314 [.d (.os 0),.d (.fn (.func 315) [] [.o 1 0])] [.sl 3 1 (x0.map pI),.box 237 (T0 x1c0)] (.d (.os 2)) [.non,.box 237 (T0 r.2),.sl 3 1 (r.1.map pI)]:=by
 unfold Uu at h
 refine co 42 Tryz.func314 λ C hC=>?_
 obtain⟨y1,h2,h⟩:=Dk h
 refine wn J0 28 [] [pc Ay2 (k263s1 x0 x1c0 _ h2) [0,1]] [] 2 [0,1] [0,1,4,5,12] hC [] ?_
 rcases cB h with⟨h3,h⟩ | ⟨h3,h⟩
 ·replace h:=sI h
  subst h
  exact wr J0 24 [true] [] [.mv 0] 2 n3_ hC [pq h3]
 ·refine ws J0 26 [false] [] [] 2 [0,1] (Ob (y1.1,w64 (y1.1+1),x0)) (Ry y1 (y1.1,w64 (y1.1+1),x0)) hC [pq h3] ?_
  obtain⟨w0,hm0,hret0,hnext0⟩:=Wk h
  clear h
  refine wc w0 (vO) (yP y1) ?_ λ z0 hs0=>?_
  ·refine wb ?_
   refine ww (Ob) (Ry y1) hm0 λ z0 w0b h hb0 hr0=>?_
   unfold Ut at h
   rcases cB h with⟨h4,h⟩ | ⟨h4,h⟩
   ·obtain⟨y5,h6,y7,h8,h⟩:=L5 h
    refine wn J0 32 [true] [pl pI z0.2.2,pr pI h6,pn pI h6,pb Ayx (k315s0 y5 y1.2 _ h8)] [] 2 [0,1] [0,1,4,5,6,7,29] hC [pq h4] ?_
    rcases cB h with⟨h9,h⟩ | ⟨h9,h⟩
    ·obtain⟨y10,h11,y12,h13,h⟩:=L5 h
     exact wx w0b (Ob) (Ry y1) J0 27 [true] [pr pI h11,pu pI h11 h13] [] 2 [0,1] _ hC [pq h9] (sI h).symm
    ·exact wx w0b (Ob) (Ry y1) J0 25 [false] [] [] 2 [0,1] _ hC [pq h9] (sI h).symm
   ·exact wx w0 (vO) (yP y1) J0 26 [false] [pl pI z0.2.2] [] 2 [0,1] (z0.1,z0.2.1,z0.2.2) hC [pq h4] (hb0 _ (sI h).symm)
  ·have h:=hnext0 _ hs0
   obtain⟨u15,h14,u17,h16,h⟩:=L5 h
   replace h:=sI h
   subst h
   (rw [cz];exact Im (bs:=[]) mixed J0 25 [] [.bnd (z0.2.2.map pI).length z0.1 (((z0.2.2.map pI).length:Nat):Int) (ln z0.2.2),.eqr ((z0.2.2.map pI).take (Int.toNat z0.1)++(List.replicate ((Int.toNat (ln z0.2.2))-(Int.toNat z0.1)) (pI 0)++(z0.2.2.map pI).drop ((Int.toNat z0.1)+((Int.toNat (ln z0.2.2))-(Int.toNat z0.1))))) ((Hg z0.2.2 (Int.toNat z0.1) ((Int.toNat (ln z0.2.2))-(Int.toNat z0.1)) 0).map pI),.bnd ((Hg z0.2.2 (Int.toNat z0.1) ((Int.toNat (ln z0.2.2))-(Int.toNat z0.1)) 0).map pI).length 0 z0.1 z0.1] [.trunc 4] [.tmp 4] 2 n3_ rfl hC ⟨Gp (by simp) (by simp) h14,qP pI rfl,Gp (by simp) rfl h16,trivial⟩ trivial (by kernel_rfl))
theorem Ayy:EN 314:=en Tryz.func314
instance k318s0 (x0:List Cf):Fv 318 [.d (DS F_ x0),.d (.fn (.func 260) [] [])] (λ (r:Int)=>dI r) (Ad4 x0):=
 fnJ Tryz.func318 [0,1,4,5,7,8,9,16]<|jl F_ x0<|jG 26 [] [] [0,1,4,7,8] (kF λ n0 z0=>[(8,dI (cnt 0 n0))]) iF (kA [4] λ z0=>[]) iA (lnS F_ 0) 26 [] (λ _ _ _ a0 _ _ _ _=>jT [] (Akb a0)<|jI (λ h1=>jZ1 35 [] []) λ h1=>jX 36 [] []) λ z0=>jZ 23 [] []
instance k412 (x0:Int):Fv 412 [dI x0] (λ (r:Int)=>dI r) (Ajx x0):=
 fnJ Tryz.func412 [0,2,3,4,5,10]<|jT [] (E0 x0)<|jS 30 [] [] [0,2,3,10]<|jM (kA [2] λ z0=>[(0,dI z0.1),(3,dI z0.2)]) iA (λ _=>jI (λ h1=>jX 23 [] []) λ h1=>jX 23 [] []) λ z0=>jb [] λ y2=>jZ 27 [] []
instance k333 (x0:List B5) (x1:Int):Fk 333 [.d (DS G4 x0),dI x1] [] (λ (r:(List Int)×Int×Int)=>.tup [dS 0,dI r.2.1,dI r.2.2]) (λ r=>[v0_ r.1]) (Aj4 x0 x1):=
 fnJ Tryz.func333 [0,1,4,5,6,7,8,9,10,11,12,13,16,17,18,19,20,28,35,42,58,69,70,71,72,97]<|jb [] λ y1=>jI (λ h3=>jN) λ h3=>jI (λ h4=>jN) λ h4=>jT [] (N8 x1 y1.1 y1.2.1)<|jW 40 [] [] [0,1,4,5,6,10,11,12] (kW λ z0=>[(11,dI z0.2),(12,dI z0.1)]) iA (kA [0,1,4,5,6,10] λ z0=>[(11,dI z0.2)]) iA (λ _ _ z0=>jI (λ h5=>jb [] λ y6=>jb [] λ y8=>jS 33 [] [] [0,1,4,5,6,10,11,12,13,58]<|jI (λ h10=>jX 24 [] []) λ h10=>jX 24 [] []) λ h5=>jY 26 [] []) λ z0=>jb [] λ y11=>jl G4 x0<|jF 26 [] [0] [1,4,5,6,10,11,17,69,70,18,71] (kF λ n1 z1=>[(18,dI z1.1),(71,dI (cnt 0 n1))]) (uF λ n1 z1=>[(0,v0_ z1.2)]) (kA [1,4,5,6,10,17] λ z1=>[]) (uA λ z1=>[(0,v0_ z1.2)]) (lnS G4 69) 26 [0] (λ _ _ _ a1 z1 hl1 _ hx1=>jC [⟨_,Bm hx1 hl1⟩]<|jr λ y13 _=>jr λ y15 _=>jTw [(((decide (z1.1<(N8 x1 y1.1 y1.2.1)))&&(decide (y13<a1.High))),true)] [] (As6 a1 y15)<|jS 32 [] [0] [1,4,5,6,10,11,17,18,19,69,70,71,97]<|jI (λ h17=>jr λ y18 h19=>jC [⟨_,Az (enc:=pI) h19⟩]<|jB λ y20 h21=>jC [⟨_,B3 (enc:=pI) h19 h21⟩]<|jX 27 [] [0]) λ h17=>jX 25 [] [0]) λ z1=>jZ 23 [] [0]
theorem Ars:EN 333:=en Tryz.func333
instance k147 (x0:Af):Fk 147 [dO 0 0] [.box 120 (B7 x0)] (λ (r:Hd×Af)=>.agg [.os 1,.os 2,.os 3]) (λ r=>[.box 120 (B7 r.2),v0_ r.1.Surge,v0_ r.1.Sway,v0_ r.1.Yaw]) (uW x0):=
 fnJ Tryz.func147 [0,2]<|jb [0] λ y1=>jb [0] λ y3=>jb [0] λ y5=>jZ 25 [] [0,2,3,4]
instance k148 (x0:Af):Fk 148 [dO 0 0] [.box 120 (B7 x0)] (λ (r:Ay×Af)=>.agg [I r.1.Kind,I r.1.Station,I r.1.Max,I r.1.Rate,I r.1.Cost,.os 1]) (λ r=>[.box 120 (B7 r.2),Wn r.1.Db]) (Akt x0):=
 fnJ Tryz.func148 [0,2,3,4,22]<|jb [0] λ y1=>jb [0] λ y3=>jb [0] λ y5=>jb [0] λ y7=>jb [0] λ y9=>jb [0] λ y11=>jW 28 [.ownb 1 5 305 2,.ownb 2 5 305 2] n5_ [0,2,3,4] (kW λ z0=>[(4,dI z0.1)]) (uA λ z0=>[(0,.box 120 [DS pI z0.2.1,I z0.2.2.1]),(4,Wn (Dx z0))]) (kA [2,3] λ z0=>[]) (uA λ z0=>[(0,.box 120 [DS pI z0.2.1,I z0.2.2.1]),(4,Wn (Dx z0))]) (λ _ _ z0=>jI (λ h13=>jb [0] λ y14=>jB λ y16 h17=>jC [⟨_,A8 F_ 2 (λ _=>rfl) h17⟩]<|jX 31 [] [0,1,2,3,5]) λ h13=>jY 26 [] n5_) λ z0=>jZ 23 [] [0,4]
theorem A38:EN 148:=en Tryz.func148
instance k86 (x0:Af) (x1:Int):Fk 86 [dO 0 0,dI x1] [.box 120 (B7 x0)] (λ (r:(List Dm)×Af)=>dS 1) (λ r=>[.box 120 (B7 r.2),.sl 189 4 (r.1.map Kh)]) (F86 x0 x1):=
 fnJ Tryz.func86 [0,1,4,5,6,12]<|jb [0] λ y1=>jW 28 [.own 5 189 4] [0,1] [0,4,5,6] (kW λ z0=>[(6,dI z0.1)]) (uA λ z0=>[(0,.box 120 [DS pI z0.2.1,I z0.2.2.1]),(1,.sl 189 4 (z0.2.2.2.map Kh))]) (kA [4,5] λ z0=>[]) (uA λ z0=>[(0,.box 120 [DS pI z0.2.1,I z0.2.2.1]),(1,.sl 189 4 (z0.2.2.2.map Kh))]) (λ _ _ z0=>jI (λ h3=>jb [0] λ y4=>jB λ y6 h7=>jC [⟨_,A8 Kh 4 (λ _=>rfl) h7⟩]<|jX 31 [] [0,2]) λ h3=>jY 26 [] [0,1]) λ z0=>jZ 23 [] [0,1]
instance k88 (x0:Af):Fk 88 [dO 0 0] [.box 120 (B7 x0)] (λ (r:Hp×Af)=>.agg (d55 r.1)) (λ r=>[.box 120 (B7 r.2)]) (F88 x0):=
 fnJ Tryz.func88 [0,2]<|jb [0] λ y1=>jb [0] λ y3=>jb [0] λ y5=>jb [0] λ y7=>jZ 25 [] [0]
instance k13 (x0:Af) (x1:Int):Fk 13 [dO 0 0,dI x1] [.box 120 (B7 x0)] (λ (r:(List Ab)×Af)=>dS 1) (λ r=>[.box 120 (B7 r.2),v1_ r.1]) (F13 x0 x1):=
 fnJ Tryz.func13 [0,1,4,5,6,12]<|jb [0] λ y1=>jW 28 [.own 5 88 2] [0,1] [0,4,5,6] (kW λ z0=>[(6,dI z0.1)]) (uA λ z0=>[(0,.box 120 [DS pI z0.2.1,I z0.2.2.1]),(1,v1_ (Dx z0))]) (kA [4,5] λ z0=>[]) (uA λ z0=>[(0,.box 120 [DS pI z0.2.1,I z0.2.2.1]),(1,v1_ (Dx z0))]) (λ _ _ z0=>jI (λ h3=>jb [0] λ y4=>jB λ y6 h7=>jC [⟨_,A8 q88 2 (λ _=>rfl) h7⟩]<|jX 31 [] [0,2]) λ h3=>jY 26 [] [0,1]) λ z0=>jZ 23 [] [0,1]
instance k140 (x0:Aa) (x1:Ad) (x2:Int):Fk 140 [.agg (d38 x0),.agg (d64 x1),dI x2] [] (λ (r:Ap×Bool)=>.tup [.agg [.os 0,.os 1,.os 2],dB r.2]) (λ r=>[v0_ r.1.Am,v0_ r.1.Ae,v0_ r.1.Ag]) (Pi x0 x1 x2):=
 fnJ Tryz.func140 [0,1,2,3,4,6,7,8,9,10,11,12,13,14,28,37,38,39,54,64,65,66,81]<|jb [] λ y1=>jS 26 [.ownb 2 0 3 1,.ownb 2 1 3 1,.ownb 2 2 3 1] n6_ [2,3,4,6,7,28]<|jI (λ h3=>jZ 24 [.ownb 2 0 3 1,.ownb 2 1 3 1,.ownb 2 2 3 1] [6,7,8]) λ h3=>jb [] λ y4=>jl Cd x0.Ae<|jW 28 [.ownb 7 1 3 1,.ownb 7 2 3 1] Ia [3,4,6,7,8,37,38] (kW λ z0=>[(38,dI z0.1)]) (uA λ z0=>[(8,v0_ z0.2)]) (kA [3,4,6,7,8] λ z0=>[]) (uA λ z0=>[(8,v0_ z0.2)]) (λ _ _ z0=>jI (λ h6=>jb [] λ y7=>jb0 λ y9=>jS 34 [] Ia [3,4,6,7,8,9,37,38,54]<|jI (λ h11=>jB λ y12 h13=>jC [⟨_,A8 pI 1 (λ _=>rfl) h13⟩]<|jX 25 [] [0,1,2,3,4,5,6,7,10,9]) λ h11=>jX 25 [] Ia) λ h6=>jY 26 [] Ia) λ z0=>jl B0 x0.Ag<|jW 24 [] Ia [3,4,6,7,8,64,65] (kW λ z1=>[(65,dI z1.1)]) (uA λ z1=>[(9,v0_ z1.2)]) (cA λ z1=>[(6,dO 0 0),(7,dB false),(8,dO 5 0)]) (cA λ z1=>[.box 237 [.os 1,.os 2,.os 3],v0_ ([]:List Int),v0_ ([]:List Int),v0_ ([]:List Int),v0_ y4,.box 237 [.os 4,.os 6,.os 7],v0_ z0.2,v0_ z1.2]) (λ _ _ z1=>jI (λ h14=>jb [] λ y15=>jb0 λ y17=>jS 34 [] Ia [3,4,6,7,8,12,64,65,81]<|jI (λ h19=>jB λ y20 h21=>jC [⟨_,A8 pI 1 (λ _=>rfl) h21⟩]<|jX 25 [] [0,1,2,3,4,5,6,7,8,10]) λ h19=>jX 25 [] Ia) λ h14=>jY 26 [] [2,3,4,5,6,7,8,9]) λ z1=>jZ 23 [] [4,6,7]
instance k110 (x0:Aa) (x1:Ad):Fv 110 [.agg (d38 x0),.agg (d64 x1)] (λ (r:Int)=>dI r) (Ja x0 x1):=
 fnJ Tryz.func110 [0,1,2,3,4,5,6,7,8,12,38,50,51,52,53,77]<|jb [] λ y1=>jI (λ h3=>jZ 31 [] []) λ h3=>jl pB x1.Ai<|jl Bs x0.Ah<|jC [⟨.when [(((ln x1.Ai) != (ln x0.Ah)),false)] _,λ hg=>okL Bf x1.Ae⟩,⟨.when [(((ln x1.Ai) != (ln x0.Ah)),false)] _,λ hg=>okL Cd x0.Ae⟩,⟨.when [((((ln x1.Ai) != (ln x0.Ah)) || ((ln x1.Ae) != (ln x0.Ae))),false)] _,λ hg=>okL pI x1.An⟩,⟨.when [((((ln x1.Ai) != (ln x0.Ah)) || ((ln x1.Ae) != (ln x0.Ae))),false)] _,λ hg=>okL B0 x0.Ag⟩]<|jS 33 [] [0,1] [2,3,4,38]<|jI (λ h4=>jZ 24 [] []) λ h4=>jb [] λ y5=>jb [] λ y7=>jl pI x1.An<|jF 28 [] [0,1] [2,3,4,50,51,6,52] (kF λ n0 z0=>[(6,dB z0),(52,dI (cnt 0 n0))]) iF (cA λ z0=>[(4,dI 0),(6,dB z0)]) (cA λ z0=>[]) (lnS pI 50) 26 [] (λ _ _ _ a0 z0 hl0 _ hx0=>jC [⟨_,Bm hx0 hl0⟩]<|jb [] λ y9=>jTw [(z0,true)] [] (Bl a0 0 y9.Load)<|jb [] λ y11=>jX 33 [] [0,1]) λ z0=>jI (λ h13=>jZ 27 [] []) λ h13=>jZ 28 [] []
instance k103 (x0:A4):Fv 103 [.agg (d44 x0)] (λ (r:Bool)=>dB r) (Akx x0):=
 fnJ Tryz.func103 [0,1,2,4,6,7,8,9,32]<|jl Es x0.Links<|jF 26 [] [0] [1,2,6,7,8] (kF λ n0 z0=>[(8,dI (cnt 0 n0))]) iF (kA [1,2] λ z0=>[]) iA (lnS Es 6) 26 [0] (λ _ _ _ _ _ hl0 _ hx0=>jC [⟨_,Bm hx0 hl0⟩]<|jb [] λ y1=>jb [] λ y3=>jS 32 [] [0] [1,2,6,7,8,32]<|jI (λ h5=>jZ1 24 [] []) λ h5=>jX 25 [] [0]) λ z0=>jb [] λ y6=>jZ 23 [] []
instance k160s2 (x0:List Ab) (x1c0:A4):Fk 160 [.d (DS q88 x0),.d (.fn (.func 168) [] [.o 0 0])] [.box 44 (d44 x1c0)] (λ (r:Bool×A4)=>dB r.1) (λ r=>[.box 44 (d44 r.2)]) (Zp x0 x1c0):=
 fnJ Tryz.func160 [0,1,4]<|jb [0] λ y1=>jZ 25 [] [0]
theorem Ay7:EN 160:=en Tryz.func160
instance k310s1 (x0:A2):Fk 310 [dO 0 0,.d (.fn (.func 311) [.o 0 0] [])] (.box 373 (zb x0.Ao [.os 1,.os 2,.os 3,.os 4,.os 5])::zp x0.Au [v3_ x0.acts]) (λ (r:A2)=>.tup []) (λ r=>(.box 373 (zb r.Ao [.os 6,.os 7,.os 8,.os 9,.os 10]) :: .non :: .non :: .non :: .non :: .non::zp r.Au [v3_ r.acts])) (Zb x0):=
 fnJ Tryz.func310 [0,1,4,5,6,8,13,14,15,16,32,38,39,40,41]<|jl Bs x0.Ao.Ah<|jF 26 [.own 4 3 1,.mv 1,.mv 2,.mv 3,.mv 4,.mv 5] Eu [0,1,4,13,14,15] (kF λ n0 z0=>[(15,dI (cnt 0 n0))]) (uF λ n0 z0=>[(0,.box 373 [I z0.1,DS Bs z0.2.1,DS Cd z0.2.2.1,DS B0 (g3_ z0),I (g4_ z0),I (g5_ z0),.os 7,.os 8,.os 9,.os 10,.os 11]),(6,v0_ (g6_ z0)),(7,v5_ (g7_ z0)),(8,v4_ (g8_ z0)),(9,v0_ (g9_ z0)),(10,v1_ (O5 z0)),(11,v3_ (Ol z0))]) (kA [0,4] λ z0=>[]) (uA λ z0=>[(0,.box 373 [I z0.1,DS Bs z0.2.1,DS Cd z0.2.2.1,DS B0 (g3_ z0),I (g4_ z0),I (g5_ z0),.os 7,.os 8,.os 9,.os 10,.os 11]),(6,v0_ (g6_ z0)),(7,v5_ (g7_ z0)),(8,v4_ (g8_ z0)),(9,v0_ (g9_ z0)),(10,v1_ (O5 z0)),(11,v3_ (Ol z0))]) (lnS Bs 13) 26 Eu (λ _ _ _ a0 z0 hl0 _ hx0=>jC [⟨_,Bm hx0 hl0⟩]<|jr λ y1 _=>jB λ y3 h4=>jC [⟨.whenR [(y1,true)] _,⟨λ hg=>okC [0,7,8,9,10,11] Ay0 (k311s1 (⟨(⟨z0.1,z0.2.1,z0.2.2.1,(g3_ z0),(g4_ z0),(g5_ z0)⟩:Aa),(⟨(g7_ z0),(g8_ z0),(g9_ z0),(O5 z0)⟩:Ad),(Ol z0)⟩:A2) a0 _ (B4 h4 hg)),λ hg=>by have e:=Ff h4 hg;subst e;rfl⟩⟩]<|jS 32 [] Eu [0,1,4,5,13,14,15,32]<|jI (λ h5=>jB λ y6 h7=>jC [⟨_,A8 pI 1 (λ _=>rfl) h7⟩]<|jX 25 [] [0,1,2,3,4,5,12,7,8,9,10,11]) λ h5=>jX 25 [] Eu) λ z0=>jl pI (g6_ z0)<|jF 23 [] Eu [0,38,39,40] (kF λ n1 z1=>[(40,dI (cnt 0 n1))]) (uF λ n1 z1=>[(0,.box 373 [I z1.1,DS Bs z1.2.1,DS Cd z1.2.2.1,DS B0 (g3_ z1),I (g4_ z1),I (g5_ z1),.os 7,.os 8,.os 9,.os 10,.os 11]),(7,v5_ (g6_ z1)),(8,v4_ (g7_ z1)),(9,v0_ (g8_ z1)),(10,v1_ (g9_ z1)),(11,v3_ (Lj z1))]) (cA λ z1=>[]) (cA λ z1=>[.box 373 [I z1.1,DS Bs z1.2.1,DS Cd z1.2.2.1,DS B0 (g3_ z1),I (g4_ z1),I (g5_ z1),.os 6,.os 7,.os 8,.os 9,.os 10],.non,.non,.non,.non,.non,v5_ (g6_ z1),v4_ (g7_ z1),v0_ (g8_ z1),v1_ (g9_ z1),v3_ (Lj z1)]) (lnO pI 38 6 3 1) 26 [0,1,2,3,4,5,7,8,9,10,11] (λ _ _ _ _ _ hl1 _ hx1=>jC [⟨_,Az (enc:=pI) (Bd hx1 hl1)⟩,⟨_,Bi (enc:=pI) (Bd hx1 hl1)⟩]<|jb [0,7,8,9,10,11] λ y8=>jX 33 [] [0,1,2,3,4,5,6,7,8,9,10,12]) λ z1=>jE id 20 [] O2
instance k354s1 (x0:List Int) (x1c0:Aa):Fk 354 [dS 0,.d (.fn (.func 355) [] [.o 1 0])] [v0_ x0,.box 38 (d38 x1c0)] (λ (r:(List Int)×Aa)=>.tup []) (λ r=>[v0_ r.1,.box 38 (d38 r.2)]) (Y6 x0 x1c0):=
 fnJ Tryz.func354 [0,1]<|jl pI x0<|jb [0,1] λ y1=>jE id 21 [] [0,1]
instance k259s0 (x0:List Cf):Fv 259 [.d (DS F_ x0),.d (.fn (.func 260) [] [])] (λ (r:Bool)=>dB r) (Zi x0):=
 fnJ Tryz.func259 [0,1,4]<|jb [] λ y1=>jZ 25 [] []
instance k411 (x0:Int):Fv 411 [dI x0] (λ (r:Int)=>dI r) (As2 x0):=
 fnJ Tryz.func411 [0,2]<|jT [] (E0 x0)<|jb [] λ y1=>jZ 25 [] []
instance k82 (x0:Af):Fk 82 [dO 0 0] [.box 120 (B7 x0)] (λ (r:Lc×Af)=>.agg [.os 1,.os 2,.os 3,.os 4,.os 5,.os 6,.os 7,.os 8,.os 9,I r.1.Mass,I r.1.Inertia,I r.1.Drag,I r.1.Spin]) (λ r=>[.box 120 (B7 r.2),v0_ r.1.Wind.Surge,v0_ r.1.Wind.Sway,v0_ r.1.Wind.Yaw,v0_ r.1.Current.Surge,v0_ r.1.Current.Sway,v0_ r.1.Current.Yaw,v0_ r.1.Wave.Surge,v0_ r.1.Wave.Sway,v0_ r.1.Wave.Yaw]) (F82 x0):=
 fnJ Tryz.func82 [0,2,3]<|jb [0] λ y1=>jb [0] λ y3=>jb [0] λ y5=>jb [0] λ y7=>jb [0] λ y9=>jC [⟨.nz 10,H_ rfl⟩]<|jb [0] λ y11=>jC [⟨.nz 10,H_ rfl⟩]<|jb [0] λ y13=>jZ 31 [] [0,2,3,4,5,6,7,8,9,10]
instance k83 (x0:Af) (x1:Int):Fk 83 [dO 0 0,dI x1] [.box 120 (B7 x0)] (λ (r:Ca×Af)=>.agg [I r.1.Bow,I r.1.Stern,.os 1]) (λ r=>[.box 120 (B7 r.2),v7_ r.1.A3]) (F83 x0 x1):=
 fnJ Tryz.func83 [0,1,4,5,6,19]<|jb [0] λ y1=>jb [0] λ y3=>jb [0] λ y5=>jW 28 [.ownb 1 2 104 6,.ownb 2 2 104 6] n5_ [0,4,5,6] (kW λ z0=>[(6,dI z0.1)]) (uA λ z0=>[(0,.box 120 [DS pI z0.2.1,I z0.2.2.1]),(4,v7_ (Dx z0))]) (kA [4,5] λ z0=>[]) (uA λ z0=>[(0,.box 120 [DS pI z0.2.1,I z0.2.2.1]),(4,v7_ (Dx z0))]) (λ _ _ z0=>jI (λ h7=>jB λ y10 h11=>jC [⟨.call 148 [dO 0 0] [.box 120 [DS pI z0.2.1,I z0.2.2.1]] (.agg (I9 y10.1)) [.box 120 (B7 y10.2),.non] [0],⟨A38,(CallOk.frzAll [1] (show CO 148 [dO 0 0] [.box 120 [DS pI z0.2.1,I z0.2.2.1]] (.agg [I y10.1.Kind,I y10.1.Station,I y10.1.Max,I y10.1.Rate,I y10.1.Cost,.os 1]) [.box 120 (B7 y10.2),Wn y10.1.Db] from (k148 (⟨z0.2.1,z0.2.2.1⟩:Af) _ h11)) (by kernel_rfl))⟩⟩]<|jB λ y12 h13=>jC [⟨_,A8 Ej 6 (λ _=>rfl) h13⟩]<|jX 31 [] [0,1,2,3,6]) λ h7=>jY 26 [] n5_) λ z0=>jZ 23 [] [0,4]
instance k224 (x0:Aa) (x1:Ad):Fk 224 [.agg (d38 x0),.agg (d64 x1)] [] (λ (r:(List Ap))=>dS 0) (λ r=>[Qn r]) (uG x0 x1):=
 fnJ Tryz.func224 [0,1,2,3,4,5,6,7,12,16,31]<|jb [] λ y1=>jS 26 [] [0,1] [2,3,4,12]<|jI (λ h3=>jZ 24 [.own 4 237 3] [2]) λ h3=>jW 28 [.own 5 237 3] n3_ [2,3,4,5,6] (kW λ z0=>[(6,dI z0.1)]) (uA λ z0=>[(2,Qn z0.2)]) (cA λ z0=>[(4,.d (DS Br [])),(5,dS 0)]) (cA λ z0=>[Qn z0.2]) (λ _ _ z0=>jI (λ h4=>jb [] λ y5=>jr λ y7 _=>jS 32 [] n7_ [2,3,4,5,6,7,31]<|jI (λ h9=>jS 1 [.frz 3] [0,1,2,4,5,6] [2,3,4,5,6,7]<|jS 0 [.frz 3] [0,1,2,4,5] [2,3,4,5,6,7]<|jS 0 [.frz 3] [0,1,2,4] [2,3,4,5,6,7]<|jB λ y10 h11=>jC [⟨_,A8 Br 3 (λ _=>rfl) h11⟩]<|jX 24 [] [0,1,4]) λ h9=>jX 25 [] n3_) λ h4=>jY 26 [] [2]) λ z0=>jZ 23 [] [0]
instance k267 (x0:Aa) (x1:Ad) (x2:Int):Fv 267 [.agg (d38 x0),.agg (d64 x1),dI x2] (λ (r:Int×Bool)=>.tup [dI r.1,dB r.2]) (A10 x0 x1 x2):=
 fnJ Tryz.func267 [0,1,2,3,4,6,7,8,9,24]<|jb [] λ y1=>jC [⟨.when [(!y1.2,false)] _,λ hg=>okL pI y1.1.Ae⟩]<|jS 28 [] [2,3,4,5] [6,7,8,24]<|jI (λ h3=>jZ 24 [] []) λ h3=>jr λ y4 _=>jZ 25 [] []
instance k74 (x0:Aa) (x1:Ad) (x2:Int):Fv 74 [.agg (d38 x0),.agg (d64 x1),dI x2] (λ (r:Bool)=>dB r) (F74 x0 x1 x2):=
 fnJ Tryz.func74 [0,1,2,3,4,6,7,8]<|jb [] λ y1=>jC [⟨.when [(y1.2,true)] _,λ hg=>okL pI y1.1.Ae⟩]<|jZ 27 [] []
instance k271 (x0:Aa) (x1:Ad) (x2:Int):Fv 271 [.agg (d38 x0),.agg (d64 x1),dI x2] (λ (r:Int)=>dI r) (Aj9 x0 x1 x2):=
 fnJ Tryz.func271 [0,1,2,3,4,6,7,8,9,11,26,28,29,30,31]<|jb [] λ y1=>jC [⟨.when [(!y1.2,false)] _,λ hg=>okL pI y1.1.Ae⟩]<|jS 28 [] [1,2,3,4,5] [4,6,7,26]<|jI (λ h3=>jZ 24 [] []) λ h3=>jl pI y1.1.Ag<|jF 28 [] [0,3] [4,6,28,29,9,30] (kF λ n0 z0=>[(9,dI z0),(30,dI (cnt 0 n0))]) iF (cA λ z0=>[(6,dI 0),(9,dI z0)]) (cA λ z0=>[]) (lnO pI 28 1 3 1) 26 [] (λ _ _ _ _ _ hl0 _ hx0=>jC [⟨_,Az (enc:=pI) (Bd hx0 hl0)⟩,⟨_,Bi (enc:=pI) (Bd hx0 hl0)⟩]<|jb [] λ y4=>jX 33 [] [0,1]) λ z0=>jZ 23 [] []
instance k272 (x0:Aa) (x1:Ad) (x2:Int):Fv 272 [.agg (d38 x0),.agg (d64 x1),dI x2] (λ (r:Int)=>dI r) (Aj8 x0 x1 x2):=
 fnJ Tryz.func272 [0,1,2,3,4,6,7,9,11,20,21,22,23]<|jb [] λ y1=>jl pI y1.1.Ae<|jF 30 [] [0,3] [3,6,20,21,9,22] (kF λ n0 z0=>[(9,dI z0),(22,dI (cnt 0 n0))]) iF (cA λ z0=>[(6,dI 0),(9,dI z0)]) (cA λ z0=>[]) (lnO pI 20 1 3 1) 26 [] (λ _ _ _ _ _ hl0 _ hx0=>jC [⟨_,Az (enc:=pI) (Bd hx0 hl0)⟩,⟨_,Bi (enc:=pI) (Bd hx0 hl0)⟩]<|jb [] λ y3=>jX 33 [] [0,1]) λ z0=>jZ 23 [] []
set_option maxHeartbeats 4000000 in
instance k290 (x0:Aa) (x1:Ad) (x2:Int):Fv 290 [.agg (d38 x0),.agg (d64 x1),dI x2] (λ (r:Int×Bool)=>.tup [dI r.1,dB r.2]) (A1t x0 x1 x2):=
 fnJ Tryz.func290 [0,1,2,3,4,6,7,8,9,11,12,13,14,15,17,26,27,28,29,32,33,34,35,88]<|jb [] λ y1=>jS 28 [] n6_ [3,4,6,7,8,26]<|jI (λ h3=>jN) λ h3=>jD true<|jD true<|jK true rfl<|jl Bf x1.Ae<|jW 39 [] n6_ [3,4,6,7,8,11,27,28,29,32,33,34] (kW λ z0=>[(34,dI z0)]) iA (kA [3,4,6,7,8,11,27,28,29,32,33] λ z0=>[(34,dI z0)]) iA (λ _ _ z0=>jI (λ h4=>jb [] λ y5=>jb [] λ y7=>jr λ y9 _=>jb [] λ y11=>jb [] λ y13=>jb [] λ y15=>jb [] λ y17=>jb [] λ y19=>jb0 λ y21=>jS 38 [] n6_ [3,4,6,7,8,11,12,27,28,29,32,33,34,88]<|jI (λ h23=>jN) λ h23=>jX 25 [] n6_) λ h4=>jY 26 [] n6_) λ z0=>jK true rfl<|jl Bf x1.Ae<|jW 35 [] n6_ [3,4,6,7,8,11,27,28,29,32,33,34] (kW λ z1=>[(34,dI z1)]) iA (kA [3,4,6,7,8,11,27,28,29,32,33] λ z1=>[(34,dI z1)]) iA (λ _ _ z1=>jI (λ h24=>jb [] λ y25=>jb [] λ y27=>jr λ y29 _=>jb [] λ y31=>jb [] λ y33=>jb [] λ y35=>jb [] λ y37=>jb [] λ y39=>jb0 λ y41=>jS 38 [] n6_ [3,4,6,7,8,11,12,27,28,29,32,33,34,88]<|jI (λ h43=>jN) λ h43=>jX 25 [] n6_) λ h24=>jY 26 [] n6_) λ z1=>jK true rfl<|jl Bf x1.Ae<|jW 35 [] n6_ [3,4,6,7,8,11,27,28,29,32,33,34] (kW λ z2=>[(34,dI z2)]) iA (kA [3,4,6,7,8,11,27,28,29,32,33] λ z2=>[(34,dI z2)]) iA (λ _ _ z2=>jI (λ h44=>jb [] λ y45=>jb [] λ y47=>jr λ y49 _=>jb [] λ y51=>jb [] λ y53=>jb [] λ y55=>jb [] λ y57=>jb [] λ y59=>jb0 λ y61=>jS 38 [] n6_ [3,4,6,7,8,11,12,27,28,29,32,33,34,88]<|jI (λ h63=>jN) λ h63=>jX 25 [] n6_) λ h44=>jY 26 [] n6_) λ z2=>jK false rfl<|jZ 31 [] []
instance k153 (x0:Aa) (x1:Ad):Fk 153 [.agg (d38 x0),.agg (d64 x1)] [] (λ (r:(List Ap))=>dS 0) (λ r=>[Qn r]) (uV x0 x1):=
 fnJ Tryz.func153 [0,1,2,3,4,5,6,7,8,9,10,11,12,13,14,18,25,26,27,28,47,48,49,58,80,81,82,91]<|jb [] λ y1=>jS 26 [] [0,1] [2,3,4,18]<|jI (λ h3=>jZ 24 [.own 4 237 3] [2]) λ h3=>jb [] λ y4=>jB λ y6 h7=>jC [⟨.roomZ (x0.Am*(72+1)) (List.replicate (Int.toNat x0.Am) (Br (⟨([]:List Int),([]:List Int),([]:List Int)⟩:Ap))) (y6.map Br),S9 h7⟩]<|jl pI y4<|jF 30 [.deep 3 [(3,1),(3,1),(3,1)]] n5_ [2,3,4,5,6,25,26,27] (kF λ n0 z0=>[(27,dI (cnt 0 n0))]) (uF λ n0 z0=>[(4,.gh 3 [(3,1),(3,1),(3,1)] (z0.map Br) none)]) (kA [2,3,4,5,6] λ z0=>[]) (uA λ z0=>[(4,.gh 3 [(3,1),(3,1),(3,1)] (z0.map Br) none)]) (lnO pI 25 2 3 1) 26 n5_ (λ _ _ n0 a0 z0 hl0 _ hx0=>jC [⟨_,Az (enc:=pI) (Bd hx0 hl0)⟩,⟨_,Bi (enc:=pI) (Bd hx0 hl0)⟩]<|jr λ y8 h9=>jB λ y10 h11=>jC [⟨.appD (z0.map Br) (Int.toNat a0) (Br y8) 0 (y8.Am.map pI) ([cnt 0 n0].map pI) 1 (((y8.Am.map pI).length+([cnt 0 n0].map pI).length)*(8+1)) (y10.map pI),Ju 1 (λ _=>rfl) h9 rfl h11⟩,⟨_,Az (enc:=Br) h9⟩]<|jB λ y12 h13=>jC [⟨_,Jl (enc:=Br) h9 h13⟩]<|jX 33 [] [0,1,2,3,8]) λ z0=>jl Cd x0.Ae<|jW 24 [] n5_ [2,3,4,5,6,47,48] (kW λ z1=>[(48,dI z1.1)]) (uA λ z1=>[(4,.gh 3 [(3,1),(3,1),(3,1)] (z1.2.map Br) none)]) (kA [2,3,4,5,6] λ z1=>[]) (uA λ z1=>[(4,.gh 3 [(3,1),(3,1),(3,1)] (z1.2.map Br) none)]) (λ _ _ z1=>jI (λ h14=>jb [] λ y15=>jS 34 [] n5_ [2,3,4,5,6,9,10,47,48,58]<|jI (λ h17=>jB λ y18 h19=>jC [⟨_,Az (enc:=pI) h19⟩,⟨_,Bi (enc:=pI) h19⟩,⟨_,Az (enc:=pI) h19⟩,⟨_,Bi (enc:=pI) h19⟩]<|jr λ y20 h21=>jB λ y22 h23=>jC [⟨.appD (z1.2.map Br) (Int.toNat y18) (Br y20) 1 (y20.Ae.map pI) ([z1.1].map pI) 1 (((y20.Ae.map pI).length+([z1.1].map pI).length)*(8+1)) (y22.map pI),Ju 1 (λ _=>rfl) h21 rfl h23⟩,⟨_,Az (enc:=Br) h21⟩]<|jB λ y24 h25=>jC [⟨_,Jl (enc:=Br) h21 h25⟩]<|jX 25 [] [0,1,2,3,8]) λ h17=>jX 25 [] n5_) λ h14=>jY 26 [] n5_) λ z1=>jl B0 x0.Ag<|jW 24 [] n5_ [2,3,4,5,6,80,81] (kW λ z2=>[(81,dI z2.1)]) (uA λ z2=>[(4,.gh 3 [(3,1),(3,1),(3,1)] (z2.2.map Br) none)]) (cA λ z2=>[(4,.d (DS Br [])),(6,dS 0)]) (cA λ z2=>[.dsl 237 3 1,.gh 3 [(3,1),(3,1),(3,1)] (z2.2.map Br) none]) (λ _ _ z2=>jI (λ h26=>jb [] λ y27=>jS 34 [] n5_ [2,3,4,5,6,12,13,80,81,91]<|jI (λ h29=>jB λ y30 h31=>jC [⟨_,Az (enc:=pI) h31⟩,⟨_,Bi (enc:=pI) h31⟩,⟨_,Az (enc:=pI) h31⟩,⟨_,Bi (enc:=pI) h31⟩]<|jr λ y32 h33=>jB λ y34 h35=>jC [⟨.appD (z2.2.map Br) (Int.toNat y30) (Br y32) 2 (y32.Ag.map pI) ([z2.1].map pI) 1 (((y32.Ag.map pI).length+([z2.1].map pI).length)*(8+1)) (y34.map pI),Ju 1 (λ _=>rfl) h33 rfl h35⟩,⟨_,Az (enc:=Br) h33⟩]<|jB λ y36 h37=>jC [⟨_,Jl (enc:=Br) h33 h37⟩]<|jX 25 [] [0,1,2,3,8]) λ h29=>jX 25 [] n5_) λ h26=>jY 26 [] [3,4]) λ z2=>jS 1 [.flat 0] [0] [4,6]<|jB λ y38 h39=>jC [⟨_,okC [0] Amw (Al4 z2.2 _ h39)⟩]<|jZ 22 [] [1]
instance k104 (x0:A4):Fv 104 [.agg (d44 x0)] (λ (r:Bool)=>dB r) (Akw x0):=
 fnJ Tryz.func104 [0,1,2,3,4,5,6,8,9,10,11,46]<|jl Gk x0.Groups<|jF 26 [] [0] [1,2,8,9,10] (kF λ n0 z0=>[(10,dI (cnt 0 n0))]) (uF λ n0 z0=>[(0,.box 44 [DS q88 z0.1,DS Es z0.2.1,DS Gk z0.2.2])]) (cA λ z0=>[(2,dB false)]) (cA λ z0=>[]) (lnS Gk 8) 26 [] (λ _ _ _ a0 z0 hl0 _ hx0=>jC [⟨_,Bm hx0 hl0⟩]<|jb [] λ y1=>jB λ y4 h3=>jC [⟨.when [(!y1,false)] _,λ hg=>qK Gk 2 (λ _=>rfl) (B4 h3 hg)⟩]<|jB λ y5 h6=>jC [⟨.whenR [(!y1,false)] _,⟨λ hg=>okC [1] Ay5 (k170s1 y4 a0 _ (B4 h6 hg)),λ hg=>by have e:=Ff h6 hg;subst e;rfl⟩⟩,⟨.when [(((!y1) || y5.1),false)] _,λ hg=>okL q88 y5.2.Parts⟩]<|jB λ y7 h8=>jC [⟨.whenR [((((!y1) || y5.1) || ((ln y5.2.Parts)==0)),false)] _,⟨λ hg=>okC [0] Ay7 (k160s2 y5.2.Parts (⟨z0.1,z0.2.1,z0.2.2⟩:A4) _ (B4 h8 hg)),λ hg=>by have e:=Ff h8 hg;subst e;rfl⟩⟩]<|jb [] λ y9=>jS 36 [] [0] [1,2,8,9,10,46]<|jI (λ h11=>jZ1 24 [] []) λ h11=>jX 25 [] [0]) λ z0=>jZ 23 [] []
instance k189 (x0:Aa) (x1:Ad) (x2:Int):Fv 189 [.agg (d38 x0),.agg (d64 x1),dI x2] (λ (r:Int×Bool)=>.tup [dI r.1,dB r.2]) (Aem x0 x1 x2):=
 fnJ Tryz.func189 [0,1,2,3,4,6,7,11]<|jb [] λ y1=>jS 26 [] [0,1] [2,3,4,6,7,11]<|jI (λ h3=>jZ 24 [] []) λ h3=>jb [] λ y4=>jZ 25 [] []
theorem A34:EN 189:=en Tryz.func189
instance k303 (x0:Aa) (x1:Ad) (x2:Int):Fk 303 [.agg (d38 x0),.agg (d64 x1),dI x2] [] (λ (r:Ad×Int)=>.tup [.agg [.os 0,.os 1,.os 2,.os 3],dI r.2]) (λ r=>(zp r.1 [])) (Aj6 x0 x1 x2):=
 fnJ Tryz.func303 [0,1,2,3,4,6,7,8,9,13,18,29]<|jb [] λ y1=>jS 29 [.ownb 2 0 4 1,.ownb 2 1 160 4,.ownb 2 2 3 1,.ownb 2 3 88 2] n7_ [2,3,4,6,7,8,13]<|jI (λ h3=>jZ 24 [.ownb 2 0 4 1,.ownb 2 1 160 4,.ownb 2 2 3 1,.ownb 2 3 88 2] [7,8,9,10]) λ h3=>jC [⟨.when [(decide (x2<0),false)] _,λ hg=>okL Bs x0.Ah⟩]<|jI (λ h4=>jZ 27 [.ownb 2 0 4 1,.ownb 2 1 160 4,.ownb 2 2 3 1,.ownb 2 3 88 2] [7,8,9,10]) λ h4=>jb [] λ y5=>jb [] λ y7=>jS 27 [] [1,2,3,4,5,6] [2,4,6,7,29]<|jI (λ h9=>jZ 24 [.ownb 1 0 4 1,.ownb 1 1 160 4,.ownb 1 2 3 1,.ownb 1 3 88 2] [6,7,8,9]) λ h9=>jb [] λ y10=>jB λ y12 h13=>jC [⟨_,Az (enc:=pB) h13⟩]<|jB λ y14 h15=>jC [⟨_,B3 (enc:=pB) h13 h15⟩]<|jZ 30 [] [6,7,8,9]
theorem A3v:EN 303:=en Tryz.func303
instance k345 (x0:Aa) (x1:Ad) (x2:Int):Fv 345 [.agg (d38 x0),.agg (d64 x1),dI x2] (λ (r:Int×Bool)=>.tup [dI r.1,dB r.2]) (Ata x0 x1 x2):=
 fnJ Tryz.func345 [0,1,2,3,4,6,7,11]<|jb [] λ y1=>jS 26 [] [0,1] [2,3,4,6,7,11]<|jI (λ h3=>jZ 24 [] []) λ h3=>jb [] λ y4=>jZ 25 [] []
instance k347 (x0:Aa) (x1:Ad):Fk 347 [.agg (d38 x0),.agg (d64 x1)] [] (λ (r:Ad×Int)=>.tup [.agg [.os 0,.os 1,.os 2,.os 3],dI r.2]) (λ r=>(zp r.1 [])) (Aj2 x0 x1):=
 fnJ Tryz.func347 [0,1,2,3,4,5,6,7,8,9,14,20,21,22,23,29]<|jb [] λ y1=>jS 28 [.ownb 2 0 4 1,.ownb 2 1 160 4,.ownb 2 2 3 1,.ownb 2 3 88 2] [1,2,3,4,5,6] [3,4,5,6,14]<|jI (λ h3=>jZ 24 [.ownb 1 0 4 1,.ownb 1 1 160 4,.ownb 1 2 3 1,.ownb 1 3 88 2] [6,7,8,9]) λ h3=>jb [] λ y4=>jl Bf x1.Ae<|jG 28 [] [1,2,3,4,5,6,7,8,9,10] [4,5,7,20,21,22] (kF λ n0 z0=>[(22,dI (cnt 0 n0))]) (uF λ n0 z0=>[(6,v4_ z0)]) (kA [4,5,7] λ z0=>[]) (uA λ z0=>[(6,v4_ z0)]) (lnS Bf 20) 26 Ia (λ _ _ _ a0 _ _ _ _=>jI (λ h6=>jT [] (E0 (w64 (a0.Phase+(w64 (36*(w64 (a0.Aq-5000)))))))<|jB λ y7 h8=>jC [⟨_,Az (enc:=Bf) h8⟩]<|jB λ y9 h10=>jC [⟨_,B3 (enc:=Bf) h8 h10⟩]<|jX 36 [] Ia) λ h6=>jX 36 [] Ia) λ z0=>jZ 23 [] [5,6,7,8]
theorem A3s:EN 347:=en Tryz.func347
instance k313 (x0:Aa):Fk 313 [.agg (d38 x0)] [] (λ (r:(List Int))=>dS 0) (λ r=>[v0_ r]) (qX x0):=
 fnJ Tryz.func313 [0,1,2,3,4,7,10,11,12]<|jb [] λ y1=>jI (λ h3=>jZ 29 [.own 2 3 1] [1]) λ h3=>jl B0 x0.Ag<|jW 33 [.own 3 3 1] [0,1] [1,2,3,10,11] (kW λ z0=>[(11,dI z0.1)]) (uA λ z0=>[(1,v0_ z0.2)]) (kA [1,2,3] λ z0=>[]) (uA λ z0=>[(1,v0_ z0.2)]) (λ _ _ z0=>jI (λ h4=>jB λ y5 h6=>jC [⟨_,A8 pI 1 (λ _=>rfl) h6⟩]<|jX 33 [] [0,2]) λ h4=>jY 26 [] [0,1]) λ z0=>jb [1,0] λ y7=>jZ 25 [] [1]
set_option maxHeartbeats 4000000 in
instance k153s0 (x0:Aa) (x1:Ad):Fk 153 [.agg (d38 x0),.agg [.os 0,.os 1,.os 2,.os 3]] (zp x1 []) (λ (r:(List Ap))=>dS 4) (λ r=>(zp x1 [Qn r])) (Apu x0 x1):=
 fnJ Tryz.func153 [0,1,2,3,4,5,6,7,8,9,10,11,12,13,14,18,25,26,27,28,47,48,49,58,80,81,82,91]<|jb0 λ y1=>jS 26 [] n6_ [2,3,4,18]<|jI (λ h3=>jZ 24 [.own 4 237 3] [0,1,2,3,6]) λ h3=>jB λ y4 h5=>jC [⟨.call 228 [.agg (d38 x0),.agg [.os 0,.os 1,.os 2,.os 3]] (zp x1 []) (dS 4) (zp x1 [v0_ y4]) n4_,⟨A3z,((k228 x0 x1 _ h5).lend (by kernel_rfl) (by kernel_rfl) (by kernel_rfl) ⟨A_ (λ _=>rfl),trivial⟩ (by kernel_rfl) (by kernel_rfl))⟩⟩]<|jB λ y6 h7=>jC [⟨.roomZ (x0.Am*(72+1)) (List.replicate (Int.toNat x0.Am) (Br (⟨([]:List Int),([]:List Int),([]:List Int)⟩:Ap))) (y6.map Br),S9 h7⟩]<|jl pI y4<|jF 30 [.deep 7 [(3,1),(3,1),(3,1)]] n9_ [2,3,4,5,6,25,26,27] (kF λ n0 z0=>[(27,dI (cnt 0 n0))]) (uF λ n0 z0=>[(8,.gh 3 [(3,1),(3,1),(3,1)] (z0.map Br) none)]) (kA [2,3,4,5,6] λ z0=>[]) (uA λ z0=>[(8,.gh 3 [(3,1),(3,1),(3,1)] (z0.map Br) none)]) (lnO pI 25 6 3 1) 26 n9_ (λ _ _ n0 a0 z0 hl0 _ hx0=>jC [⟨_,Az (enc:=pI) (Bd hx0 hl0)⟩,⟨_,Bi (enc:=pI) (Bd hx0 hl0)⟩]<|jr λ y8 h9=>jB λ y10 h11=>jC [⟨.appD (z0.map Br) (Int.toNat a0) (Br y8) 0 (y8.Am.map pI) ([cnt 0 n0].map pI) 1 (((y8.Am.map pI).length+([cnt 0 n0].map pI).length)*(8+1)) (y10.map pI),Ju 1 (λ _=>rfl) h9 rfl h11⟩,⟨_,Az (enc:=Br) h9⟩]<|jB λ y12 h13=>jC [⟨_,Jl (enc:=Br) h9 h13⟩]<|jX 33 [] [0,1,2,3,4,5,6,7,12]) λ z0=>jl Cd x0.Ae<|jW 24 [] n9_ [2,3,4,5,6,47,48] (kW λ z1=>[(48,dI z1.1)]) (uA λ z1=>[(8,.gh 3 [(3,1),(3,1),(3,1)] (z1.2.map Br) none)]) (kA [2,3,4,5,6] λ z1=>[]) (uA λ z1=>[(8,.gh 3 [(3,1),(3,1),(3,1)] (z1.2.map Br) none)]) (λ _ _ z1=>jI (λ h14=>jb0 λ y15=>jS 34 [] n9_ [2,3,4,5,6,9,10,47,48,58]<|jI (λ h17=>jB λ y18 h19=>jC [⟨_,Az (enc:=pI) h19⟩,⟨_,Bi (enc:=pI) h19⟩,⟨_,Az (enc:=pI) h19⟩,⟨_,Bi (enc:=pI) h19⟩]<|jr λ y20 h21=>jB λ y22 h23=>jC [⟨.appD (z1.2.map Br) (Int.toNat y18) (Br y20) 1 (y20.Ae.map pI) ([z1.1].map pI) 1 (((y20.Ae.map pI).length+([z1.1].map pI).length)*(8+1)) (y22.map pI),Ju 1 (λ _=>rfl) h21 rfl h23⟩,⟨_,Az (enc:=Br) h21⟩]<|jB λ y24 h25=>jC [⟨_,Jl (enc:=Br) h21 h25⟩]<|jX 25 [] [0,1,2,3,4,5,6,7,12]) λ h17=>jX 25 [] n9_) λ h14=>jY 26 [] n9_) λ z1=>jl B0 x0.Ag<|jW 24 [] n9_ [2,3,4,5,6,80,81] (kW λ z2=>[(81,dI z2.1)]) (uA λ z2=>[(8,.gh 3 [(3,1),(3,1),(3,1)] (z2.2.map Br) none)]) (cA λ z2=>[(4,.d (DS Br [])),(6,dS 4)]) (cA λ z2=>(zp x1 [.dsl 237 3 5,.gh 3 [(3,1),(3,1),(3,1)] (z2.2.map Br) none])) (λ _ _ z2=>jI (λ h26=>jb0 λ y27=>jS 34 [] n9_ [2,3,4,5,6,12,13,80,81,91]<|jI (λ h29=>jB λ y30 h31=>jC [⟨_,Az (enc:=pI) h31⟩,⟨_,Bi (enc:=pI) h31⟩,⟨_,Az (enc:=pI) h31⟩,⟨_,Bi (enc:=pI) h31⟩]<|jr λ y32 h33=>jB λ y34 h35=>jC [⟨.appD (z2.2.map Br) (Int.toNat y30) (Br y32) 2 (y32.Ag.map pI) ([z2.1].map pI) 1 (((y32.Ag.map pI).length+([z2.1].map pI).length)*(8+1)) (y34.map pI),Ju 1 (λ _=>rfl) h33 rfl h35⟩,⟨_,Az (enc:=Br) h33⟩]<|jB λ y36 h37=>jC [⟨_,Jl (enc:=Br) h33 h37⟩]<|jX 25 [] [0,1,2,3,4,5,6,7,12]) λ h29=>jX 25 [] n9_) λ h26=>jY 26 [] [0,1,2,3,7,8]) λ z2=>jS 1 [.flat 4] n5_ [4,6]<|jB λ y38 h39=>jC [⟨_,okC [4] Amw (Al4 z2.2 _ h39)⟩]<|jZ 22 [] [0,1,2,3,5]
instance k188 (x0:Ay):Fv 188 [.agg (I9 x0)] (λ (r:Bool)=>dB r) (Xq x0):=
 fnJ Tryz.func188 n3_<|jT [] (Dp x0.Kind 1 3)<|jTw [(Dp x0.Kind 1 3,true)] [] (Dp x0.Station 0 1)<|jTw [(((Dp x0.Kind 1 3)&&(Dp x0.Station 0 1)),true)] [] (Dp x0.Max 0 5000)<|jTw [((((Dp x0.Kind 1 3)&&(Dp x0.Station 0 1))&&(Dp x0.Max 0 5000)),true)] [] (Dp x0.Rate 0 5000)<|jTw [(((((Dp x0.Kind 1 3)&&(Dp x0.Station 0 1))&&(Dp x0.Max 0 5000))&&(Dp x0.Rate 0 5000)),true)] [] (Dp x0.Cost 1 100)<|jC [⟨.when [((((((Dp x0.Kind 1 3)&&(Dp x0.Station 0 1))&&(Dp x0.Max 0 5000))&&(Dp x0.Rate 0 5000))&&(Dp x0.Cost 1 100)),true)] _,λ hg=>okL F_ x0.Db⟩]<|jb [] λ y1=>jZ 25 [] []
instance k410 (x0:Int) (x1:Int) (x2:Int):Fv 410 [dI x0,dI x1,dI x2] (λ (r:Int)=>dI r) (As3 x0 x1 x2):=
 fnJ Tryz.func410 [0,1,2,6,10]<|jT [] (Ads x1 x2)<|jI (λ h1=>jZ 29 [] []) λ h1=>jb [] λ y2=>jb [] λ y4=>jZ 30 [] []
set_option maxHeartbeats 4000000 in
instance k43 (x0:Af):Fk 43 [dO 0 0] [.box 120 (B7 x0)] (λ (r:Bb×Af)=>.agg [.os 1,.os 2,.os 3,.os 4,.os 5,.os 6,.os 7,.os 8,.os 9,I r.1.Hull.Mass,I r.1.Hull.Inertia,I r.1.Hull.Drag,I r.1.Hull.Spin,I r.1.Ship.Bow,I r.1.Ship.Stern,.os 10,I r.1.Board.Am,.os 11,.os 12,.os 13,I r.1.Board.Phase,I r.1.Board.Aq,I r.1.Table.Start,I r.1.Table.Stop,I r.1.Table.Delay,.os 14,.os 15,.os 16,.os 17,I r.1.Gains.Near,I r.1.Gains.Sum,I r.1.Gains.Calm,I r.1.Gains.Point,I r.1.Gains.Drift,I r.1.Gains.Still,I r.1.Gains.MostSum,I r.1.Gains.MostForce,I r.1.Gains.MostYaw,I r.1.Target.Place.X,I r.1.Target.Place.Y,I r.1.Target.Heading,I r.1.Delay,.p (.v (.string r.1.Operation.Name)),I r.1.Operation.Class,I r.1.Operation.Circle.Place.X,I r.1.Operation.Circle.Place.Y,I r.1.Operation.Circle.Yellow,I r.1.Operation.Circle.Red,I r.1.Operation.Drift,.os 18]) (λ r=>(.box 120 (B7 r.2)::v0_ r.1.Hull.Wind.Surge::v0_ r.1.Hull.Wind.Sway::v0_ r.1.Hull.Wind.Yaw::v0_ r.1.Hull.Current.Surge::v0_ r.1.Hull.Current.Sway::v0_ r.1.Hull.Current.Yaw::v0_ r.1.Hull.Wave.Surge::v0_ r.1.Hull.Wave.Sway::v0_ r.1.Hull.Wave.Yaw::v7_ r.1.Ship.A3::zs r.1.Board [v1_ r.1.Design.Parts,v9_ r.1.Design.Links,Jk r.1.Design.Groups,.sl 189 4 (r.1.References.map Kh),Oy r.1.Sequence.Stages])) (F43 x0):=
 fnJ Tryz.func43 [0,2,3,4,5,6,7,9,42,43,44,82,83,84,85,92,93,94,95]<|jb [0] λ y1=>jb [0] λ y3=>jb [0] λ y5=>jb [0] λ y7=>jb [0] λ y9=>jb [0] λ y11=>jb [0] λ y13=>jb [0] λ y15=>jb [0] λ y17=>jb [0] λ y19=>jb [0] λ y21=>jb [0] λ y23=>jl B0 y5.1.Ag<|jW 30 [.ownb 1 0 3 1,.ownb 1 1 3 1,.ownb 1 2 3 1,.ownb 1 3 3 1,.ownb 1 4 3 1,.ownb 1 5 3 1,.ownb 1 6 3 1,.ownb 1 7 3 1,.ownb 1 8 3 1,.ownb 1 15 104 6,.ownb 1 17 168 3,.ownb 1 18 170 3,.ownb 1 19 172 5,.ownb 1 25 88 2,.ownb 1 26 156 4,.ownb 1 27 166 2,.ownb 1 28 189 4,.ownb 1 49 252 4,.ownb 17 25 88 2,.ownb 17 26 156 4,.ownb 17 27 166 2] Aqv [0,2,3,42,43] (kW λ z0=>[(43,dI z0.1)]) (uA λ z0=>[(0,.box 120 [DS pI z0.2.1,I z0.2.2.1]),(14,Si (Dx z0))]) (kA [0,2,3] λ z0=>[]) (uA λ z0=>[(0,.box 120 [DS pI z0.2.1,I z0.2.2.1]),(14,Si (Dx z0))]) (λ _ _ z0=>jI (λ h25=>jl Ej y3.1.A3<|jb [0] λ y26=>jB λ y28 h29=>jC [⟨_,Az (enc:=B0) h29⟩]<|jB λ y30 h31=>jC [⟨_,B3 (enc:=B0) h29 h31⟩]<|jX 33 [] Aqv) λ h25=>jY 26 [] Aqv) λ z0=>jl Cd y5.1.Ae<|jl Bs y5.1.Ah<|jl B0 (Dx z0)<|jl Ej y3.1.A3<|jl Kh y9.1<|jl pI [0,(ln y5.1.Ae),(ln y5.1.Ah),y5.1.Am,(ln (Dx z0)),(ln y3.1.A3),(ln y9.1),0,0,2]<|jF 26 [.own 5 88 2] Aio [0,2,3,5,82,83,84] (kF λ n1 z1=>[(84,dI (cnt 0 n1))]) (uF λ n1 z1=>[(0,.box 120 [DS pI z1.1,I z1.2.1]),(39,v1_ z1.2.2)]) (kA [0,2,3,5] λ z1=>[]) (uA λ z1=>[(0,.box 120 [DS pI z1.1,I z1.2.1]),(39,v1_ z1.2.2)]) (lnS pI 82) 26 Aio (λ _ _ n1 _ _ hl1 _ hx1=>jC [⟨_,Bm hx1 hl1⟩]<|jb [0] λ y32=>jl pI y32.1<|jF 32 [] A3e [0,2,3,5,6,82,83,84,92,93,94] (kF λ n2 z2=>[(94,dI (cnt 0 n2))]) (uF λ n2 z2=>[(39,v1_ z2)]) (cA λ z2=>[(0,dO 0 0),(2,dO 1 0),(3,dO 17 0),(5,dS 39),(82,.d (DS pI [0,(ln y5.1.Ae),(ln y5.1.Ah),y5.1.Am,(ln (Dx z0)),(ln y3.1.A3),(ln y9.1),0,0,2])),(83,dI ([0,(ln y5.1.Ae),(ln y5.1.Ah),y5.1.Am,(ln (Dx z0)),(ln y3.1.A3),(ln y9.1),0,0,2].length:Int)),(84,dI (cnt 0 n1))]) (cA λ z2=>[.box 120 (B7 y32.2),.box 60 [.os 18,.os 19,.os 20,.os 21,.os 22,.os 23,.os 24,.os 25,.os 26,I 0,I 0,I 0,I 0,I 0,I 0,.os 27,I 0,.os 28,.os 29,.os 30,I 0,I 0,I 0,I 0,I 0,.os 31,.os 32,.os 33,.os 34,I 0,I 0,I 0,I 0,I 0,I 0,I 0,I 0,I 0,I 0,I 0,I 0,I 0,.p (.v (.string ByteArray.empty)),I 0,I 0,I 0,I 0,I 0,I 0,.os 35],v0_ y1.1.Wind.Surge,v0_ y1.1.Wind.Sway,v0_ y1.1.Wind.Yaw,v0_ y1.1.Current.Surge,v0_ y1.1.Current.Sway,v0_ y1.1.Current.Yaw,v0_ y1.1.Wave.Surge,v0_ y1.1.Wave.Sway,v0_ y1.1.Wave.Yaw,v7_ y3.1.A3,L8 y5.1.Ah,.sl 170 3 (y5.1.Ae.map Cd),Si (Dx z0),.sl 189 4 (y9.1.map Kh),Oy y17.1.Stages,.box 60 [.os 2,.os 3,.os 4,.os 5,.os 6,.os 7,.os 8,.os 9,.os 10,I y1.1.Mass,I y1.1.Inertia,I y1.1.Drag,I y1.1.Spin,I y3.1.Bow,I y3.1.Stern,.os 11,I y5.1.Am,.os 12,.os 13,.os 14,I y5.1.Phase,I y5.1.Aq,I y7.1.Start,I y7.1.Stop,I y7.1.Delay,.os 36,.os 37,.os 38,.os 15,I y11.1.Near,I y11.1.Sum,I y11.1.Calm,I y11.1.Point,I y11.1.Drift,I y11.1.Still,I y11.1.MostSum,I y11.1.MostForce,I y11.1.MostYaw,I y19.1,I y21.1,I y23.1,I y13.1,.p (.v (.string y15.1.Name)),I y15.1.Class,I y15.1.Circle.Place.X,I y15.1.Circle.Place.Y,I y15.1.Circle.Yellow,I y15.1.Circle.Red,I y15.1.Drift,.os 16],v0_ ([]:List Int),v0_ ([]:List Int),v0_ ([]:List Int),v0_ ([]:List Int),v0_ ([]:List Int),v0_ ([]:List Int),v0_ ([]:List Int),v0_ ([]:List Int),v0_ ([]:List Int),v7_ ([]:List Ay),L8 ([]:List Ak),.sl 170 3 (([]:List B1).map Cd),Si ([]:List A7),v1_ ([]:List Ab),v9_ ([]:List A6),Jk ([]:List Bn),.sl 189 4 (([]:List Dm).map Kh),Oy ([]:List Il),v1_ ([]:List Ab),v9_ ([]:List A6),Jk ([]:List Bn),v1_ z2]) (lnO pI 92 40 3 1) 26 Aio (λ _ _ _ _ _ hl2 _ hx2=>jC [⟨_,Az (enc:=pI) (Bd hx2 hl2)⟩,⟨_,Bi (enc:=pI) (Bd hx2 hl2)⟩]<|jB λ y34 h35=>jC [⟨_,A8 q88 2 (λ _=>rfl) h35⟩]<|jX 33 [] [0,1,2,3,4,5,6,7,8,9,10,11,12,13,14,15,16,17,18,19,20,21,22,23,24,25,26,27,28,29,30,31,32,33,34,35,36,37,38,41,40]) λ z2=>jX 23 [] Aio) λ z1=>jb [0,39] λ y36=>jb [0,39] λ y38=>jZ 25 [] [0,2,3,4,5,6,7,8,9,10,11,12,13,14,39,40,41,15,16]
theorem e43:EN 43:=en Tryz.func43
instance k196 (x0:Aa) (x1:Ad):Fk 196 [.agg (d38 x0),.agg (d64 x1)] [] (λ (r:Ad)=>.agg [.os 0,.os 1,.os 2,.os 3]) (λ r=>(zp r [])) (Akk x0 x1):=
 fnJ Tryz.func196 [0,1,2,3,4,5,7,9,14,15,16,17,21,22,23,24]<|jb [] λ y1=>jb [] λ y3=>jl Br y3<|jF 28 [.ownb 2 0 4 1,.ownb 2 1 160 4,.ownb 2 2 3 1,.ownb 2 3 88 2] [1,2,3,4,5,6,7,8,9,10,11,12] [3,4,5,14,15,16] (kF λ n0 z0=>[(16,dI (cnt 0 n0))]) (uF λ n0 z0=>[(3,v4_ z0)]) (cA λ z0=>[(4,dO 0 0),(5,dO 5 0)]) (cA λ z0=>(.box 64 [.os 6,.os 7,.os 8,.os 9]::v5_ y1.Ai::v4_ z0::v0_ y1.An::v1_ y1.Al :: .box 64 [.os 1,.os 2,.os 3,.os 4]::ze [])) (lnO Br 14 7 237 3) 26 [1,2,3,4,5,6,8,9,10,11] (λ _ _ n0 a0 _ hl0 _ hx0=>jC [⟨_,Az (enc:=Br) (Bd hx0 hl0)⟩,⟨_,Bi (enc:=Br) (Bd hx0 hl0)⟩]<|jl pI a0.Ae<|jF 32 [] E5 [3,4,5,7,14,15,16,21,22,23] (kF λ n1 z1=>[(23,dI (cnt 0 n1))]) (uF λ n1 z1=>[(3,v4_ z1)]) (cA λ z1=>[(3,dO 0 0),(4,dO 1 0),(5,dO 6 0),(14,dS 7),(15,dI (ln y3)),(16,dI (cnt 0 n0))]) (cA λ z1=>(.box 64 (d64 x1) :: .box 64 [.os 8,.os 9,.os 10,.os 11]::v5_ y1.Ai::v4_ z1::v0_ y1.An::v1_ y1.Al :: .box 64 [.os 2,.os 3,.os 4,.os 5]::Qn y3::ze [])) (lnS pI 21) 26 Eu (λ _ _ _ _ _ hl1 _ hx1=>jC [⟨_,Bm hx1 hl1⟩]<|jb [] λ y5=>jb [] λ y7=>jb [] λ y9=>jb [] λ y11=>jB λ y13 h14=>jC [⟨_,Az (enc:=Bf) h14⟩]<|jB λ y15 h16=>jC [⟨_,B3 (enc:=Bf) h14 h16⟩]<|jB λ y17 h18=>jC [⟨_,Az (enc:=Bf) h18⟩]<|jB λ y19 h20=>jC [⟨_,B3 (enc:=Bf) h18 h20⟩]<|jX 33 [] E5) λ z1=>jX 23 [] Eu) λ z0=>jZ 23 [] [1,2,3,4]
theorem A31:EN 196:=en Tryz.func196
instance k266 (x0:Aa) (x1:Ad) (x2:Int):Fv 266 [.agg (d38 x0),.agg (d64 x1),dI x2] (λ (r:Int)=>dI r) (A11 x0 x1 x2):=
 fnJ Tryz.func266 [0,1,2,3,4,6,7,8,9,10,11,13,14,16,21,31,52,62,77,78,83,126,127,142,159]<|jb [] λ y1=>jS 28 [] [0,1] [2,3,4,6,7,21]<|jI (λ h3=>jN) λ h3=>jC [⟨.when [(decide (x2<0),false)] _,λ hg=>okL Bs x0.Ah⟩]<|jI (λ h4=>jN) λ h4=>jb [] λ y5=>jb [] λ y7=>jb [] λ y9=>jb [] λ y11=>jS 33 [] n3_ [3,4,6,8,52]<|jI (λ h13=>jN) λ h13=>jb [] λ y14=>jS 31 [] n3_ [3,4,6,8,9,10,62,78]<|jI (λ h16=>jN) λ h16=>jI (λ h17=>jb [] λ y18=>jb [] λ y20=>jS 28 [] n3_ [3,4,6,8,9,10,142]<|jI (λ h22=>jN) λ h22=>jb [] λ y23=>jb [] λ y25=>jb [] λ y27=>jS 25 [] [] [6,159]<|jI (λ h29=>jN) λ h29=>jZ 26 [] []) λ h17=>jb [] λ y30=>jb [] λ y32=>jS 29 [] [] [6,77]<|jI (λ h34=>jN) λ h34=>jZ 26 [] []
set_option maxHeartbeats 4000000 in
instance k206 (x0:Aa) (x1:Ad):Fk 206 [.agg (d38 x0),.agg (d64 x1)] [] (λ (r:Ad×(List Aw)×Int)=>.tup [.agg [.os 0,.os 1,.os 2,.os 3],dS 4,dI r.2.2]) (λ r=>(zp r.1 [v3_ r.2.1])) (A14 x0 x1):=
 fnJ Tryz.func206 [0,1,2,3,4,5,6,7,8,9,10,12,13,15,16,17,19,21,26,35,36,37,38,56,57,58,59,85,120,121,122,123,142,145,146,147,148,155]<|jb [] λ y1=>jS 28 [.ownb 2 0 4 1,.ownb 2 1 160 4,.ownb 2 2 3 1,.ownb 2 3 88 2] n7_ [2,3,4,5,6,7,26]<|jI (λ h3=>jN) λ h3=>jb [] λ y4=>jb [] λ y6=>jb [] λ y8=>jl Br y8<|jF 32 [.own 9 133 3] D6 [2,3,4,5,6,8,9,10,35,36,37] (kF λ n0 z0=>[(37,dI (cnt 0 n0))]) iF (cA λ z0=>[(4,dO 0 0),(5,.d (DS E4 [])),(6,dI 0),(8,dO 9 0),(9,dS 10)]) (cA λ z0=>(.box 64 [.os 1,.os 2,.os 3,.os 4]::ze (zp y4 [.box 64 [.os 5,.os 6,.os 7,.os 8],v3_ ([]:List Aw)]))) (lnO Br 35 13 237 3) 26 [2,3,4,5,6,7,8,9,10,11,14] (λ _ _ n0 _ _ hl0 _ hx0=>jC [⟨_,Az (enc:=Br) (Bd hx0 hl0)⟩,⟨_,Bi (enc:=Br) (Bd hx0 hl0)⟩]<|jb [] λ y10=>jb [] λ y12=>jb [] λ y14=>jb [] λ y16=>jl pI y6<|jF 35 [] Jo [2,3,4,5,6,8,9,10,12,13,35,36,37,56,57,58] (kF λ n1 z1=>[(58,dI (cnt 0 n1))]) iF (kA [2,3,4,5,6,8,9,10,12,13,35,36,37] λ z1=>[]) iA (lnO pI 56 12 3 1) 26 Jo (λ _ _ _ _ _ hl1 _ hx1=>jC [⟨_,Az (enc:=pI) (Bd hx1 hl1)⟩,⟨_,Bi (enc:=pI) (Bd hx1 hl1)⟩]<|jb [] λ y18=>jb [] λ y20=>jr λ y22 _=>jS 35 [] Jo [2,3,4,5,6,8,9,10,12,13,15,16,35,36,37,56,57,58,85]<|jI (λ h24=>jX 24 [] Jo) λ h24=>jN) λ z1=>jl pI y6<|jF 23 [] Jo [2,3,4,5,6,8,9,10,12,13,35,36,37,120,121,122] (kF λ n2 z2=>[(122,dI (cnt 0 n2))]) iF (cA λ z2=>[(2,dO 0 0),(3,dO 1 0),(4,dO 2 0),(5,.d (DS E4 [])),(6,dI 0),(8,dO 11 0),(9,dS 14),(10,dS 12),(35,dS 13),(36,dI (ln y8)),(37,dI (cnt 0 n0))]) (cA λ z2=>(.box 38 (d38 x0) :: .box 64 (d64 x1) :: .box 64 [.os 3,.os 4,.os 5,.os 6]::ze (zp y4 [.box 64 [.os 7,.os 8,.os 9,.os 10],v0_ y6,Qn y8,v3_ ([]:List Aw)]))) (lnO pI 120 12 3 1) 26 D6 (λ _ _ _ _ _ hl2 _ hx2=>jC [⟨_,Az (enc:=pI) (Bd hx2 hl2)⟩,⟨_,Bi (enc:=pI) (Bd hx2 hl2)⟩]<|jb [] λ y25=>jr λ y27 _=>jS 33 [] Jo [2,3,4,5,6,8,9,10,12,13,19,35,36,37,120,121,122,142]<|jI (λ h29=>jX 24 [] Jo) λ h29=>jN) λ z2=>jX 23 [] D6) λ z0=>jZ 23 [] [5,6,7,8,10]
theorem A30:EN 206:=en Tryz.func206
instance k287 (x0:Aa) (x1:Bt) (x2:Ad) (x3:Int):Fv 287 [.agg (d38 x0),.agg (d40 x1),.agg (d64 x2),dI x3] (λ (r:Int×Bool)=>.tup [dI r.1,dB r.2]) (A1v x0 x1 x2 x3):=
 fnJ Tryz.func287 [0,1,2,3,4,5,6,8,9,10,11,12,13,33,39,53,73]<|jb [] λ y1=>jTw [(!y1.2,false)] [] (Jy x1)<|jC [⟨.when [(((!y1.2) || (!(Jy x1))),false)] _,λ hg=>okL pI y1.1.Ae⟩]<|jS 28 [] n7_ [3,4,5,6,8,9,10,33]<|jI (λ h3=>jN) λ h3=>jl pI y1.1.Ae<|jW 26 [] n7_ [3,4,5,6,8,9,10,12] (kW λ z0=>[(12,dI z0)]) iA (cA λ z0=>[(8,dI 0),(9,dB false)]) (cA λ z0=>[]) (λ _ _ z0=>jI (λ h4=>jr λ y5 _=>jb [] λ y7=>jr λ y9 _=>jb [] λ y11=>jS 33 [] n7_ [3,4,5,6,8,9,10,12,13,53]<|jI (λ h13=>jN) λ h13=>jb [] λ y14=>jb [] λ y16=>jb [] λ y18=>jS 25 [] n7_ [3,4,5,6,8,9,10,12,13,73]<|jI (λ h20=>jN) λ h20=>jX 25 [] n7_) λ h4=>jY 26 [] []) λ z0=>jZ 23 [] []
instance k289 (x0:Aa) (x1:Bt) (x2:Ad) (x3:Int):Fv 289 [.agg (d38 x0),.agg (d40 x1),.agg (d64 x2),dI x3] (λ (r:Bool)=>dB r) (A1u x0 x1 x2 x3):=
 fnJ Tryz.func289 [0,1,2,3,4,5,6,8]<|jT [] (Jy x1)<|jb [] λ y1=>jb [] λ y3=>jb [] λ y5=>jZ 25 [] []
instance k96 (x0:Aa) (x1:Ad):Fk 96 [.agg (d38 x0),.agg (d64 x1)] [] (λ (r:Ad×Int)=>.tup [.agg [.os 0,.os 1,.os 2,.os 3],dI r.2]) (λ r=>(zp r.1 [])) (F96 x0 x1):=
 fnJ Tryz.func96 [0,1,2,3,4,5,6,7,9,14,21,22,23,24,30]<|jb [] λ y1=>jS 28 [.ownb 2 0 4 1,.ownb 2 1 160 4,.ownb 2 2 3 1,.ownb 2 3 88 2] n7_ [2,3,4,5,6,14]<|jI (λ h3=>jZ 24 [.ownb 2 0 4 1,.ownb 2 1 160 4,.ownb 2 2 3 1,.ownb 2 3 88 2] [7,8,9,10]) λ h3=>jb [] λ y4=>jb [] λ y6=>jl Br y6<|jF 28 [] [1,2,3,4,5,6,7,8,9,10,11,12] [3,4,5,7,21,22,23] (kF λ n0 z0=>[(23,dI (cnt 0 n0))]) (uF λ n0 z0=>[(7,v4_ z0)]) (cA λ z0=>[(4,dO 0 0),(5,dI 0),(7,dO 9 0)]) (cA λ z0=>(.box 64 [.os 1,.os 2,.os 3,.os 4]::ze [v5_ y4.Ai,v4_ z0,v0_ y4.An,v1_ y4.Al,.box 64 [.os 5,.os 6,.os 7,.os 8]])) (lnO Br 21 11 237 3) 26 [1,2,3,4,5,6,7,8,9,10] (λ _ _ _ a0 _ hl0 _ hx0=>jC [⟨_,Az (enc:=Br) (Bd hx0 hl0)⟩,⟨_,Bi (enc:=Br) (Bd hx0 hl0)⟩]<|jl pI a0.Ae<|jS 32 [] E5 [3,4,5,7,9,21,22,23,30]<|jI (λ h8=>jb [] λ y9=>jb [] λ y11=>jb [6,7,8,9] λ y13=>jX 25 [] Eu) λ h8=>jX 25 [] Eu) λ z0=>jZ 23 [] [5,6,7,8]
theorem e96:EN 96:=en Tryz.func96
instance k50 (x0:A4):Fv 50 [.agg (d44 x0)] (λ (r:Int)=>dI r) (F50 x0):=
 fnJ Tryz.func50 [0,1,2,18,32]<|jl q88 x0.Parts<|jC [⟨.when [(decide ((ln x0.Parts)>40),false)] _,λ hg=>okL Es x0.Links⟩,⟨.when [(((decide ((ln x0.Parts)>40)) || (decide ((ln x0.Links)>60))),false)] _,λ hg=>okL Gk x0.Groups⟩]<|jS 26 [] [0] [1,2,18]<|jI (λ h1=>jZ 24 [] []) λ h1=>jb [] λ y2=>jb [] λ y4=>jb [] λ y6=>jS 26 [] [] [2,32]<|jI (λ h8=>jZ 24 [] []) λ h8=>jZ 25 [] []
instance k376 (x0:Aa) (x1:Ad) (x2:Int):Fv 376 [.agg (d38 x0),.agg (d64 x1),dI x2] (λ (r:Bool)=>dB r) (Aj1 x0 x1 x2):=
 fnJ Tryz.func376 [0,1,2,3,4,6,7,9,30,32,33,40]<|jb [] λ y1=>jb [] λ y3=>jb [] λ y5=>jb [] λ y7=>jS 28 [] n3_ [3,4,6,7,30]<|jI (λ h9=>jZ 24 [] []) λ h9=>jI (λ h10=>jb [] λ y11=>jZ 32 [] []) λ h10=>jI (λ h13=>jb [] λ y14=>jb [] λ y16=>jZ 35 [] []) λ h13=>jb [] λ y18=>jb [] λ y20=>jZ 39 [] []
instance k262 (x0:Aa) (x1:Ad) (x2:Int):Fv 262 [.agg (d38 x0),.agg (d64 x1),dI x2] (λ (r:Ap×Bool)=>.tup [.agg (T0 r.1),dB r.2]) (Jv x0 x1 x2):=
 fnJ Tryz.func262 [0,1,2,3,4,6,7,9,12,13,14,15,21]<|jb [] λ y1=>jl Br y1<|jF 26 [.ownb 2 0 3 1,.ownb 2 1 3 1,.ownb 2 2 3 1] [2,3,4,5,6] [2,6,7,12,13,14] (kF λ n0 z0=>[(14,dI (cnt 0 n0))]) iF (cA λ z0=>[(6,dO 0 0),(7,dB false)]) (cA λ z0=>[.box 237 [.os 1,.os 2,.os 3],v0_ ([]:List Int),v0_ ([]:List Int),v0_ ([]:List Int)]) (lnO Br 12 1 237 3) 26 [0,2,3,4] (λ _ _ _ _ _ hl0 _ hx0=>jC [⟨_,Az (enc:=Br) (Bd hx0 hl0)⟩,⟨_,Bi (enc:=Br) (Bd hx0 hl0)⟩]<|jb [] λ y3=>jS 32 [] n6_ [2,6,7,9,12,13,14,21]<|jI (λ h5=>jZ1 24 [] []) λ h5=>jX 25 [] n5_) λ z0=>jZ 23 [.ownb 0 0 3 1,.frz 4,.ownb 0 1 3 1,.frz 5,.ownb 0 2 3 1,.frz 6] []
instance k308s1 (x0:Bc):Fk 308 [dO 0 0] (.box 330 (zb x0.Ao [.os 1,.os 2,.os 3,.os 4,I x0.time])::zp x0.Au []) (λ (r:Bc)=>.tup []) (λ r=>(.box 330 (zb r.Ao [.os 5,.os 6,.os 7,.os 8,I r.time]) :: .non :: .non :: .non :: .non::zp r.Au [])) (Zc x0):=
 fnJ Tryz.func308 [0,2,3,24,25,26,66]<|jB λ y1 h2=>jC [⟨.call 347 [.agg (d38 x0.Ao),.agg [.os 0,.os 1,.os 2,.os 3]] (zp x0.Au []) (.tup [.agg [.os 4,.os 5,.os 6,.os 7],dI y1.2]) (zp x0.Au (zp y1.1 [])) [1,2,3,4],⟨A3s,((k347 x0.Ao x0.Au _ h2).lend (by kernel_rfl) (by kernel_rfl) (by kernel_rfl) ⟨A_ (λ _=>rfl),A_ (λ _=>rfl),A_ (λ _=>rfl),A_ (λ _=>rfl),trivial⟩ (by kernel_rfl) (by kernel_rfl))⟩⟩]<|jl Bf y1.1.Ae<|jW 25 [] n9_ [0,24,25] (kW λ z0=>[(25,dI z0.1)]) (uA λ z0=>[(6,v4_ z0.2)]) (kA [] λ z0=>[]) (uA λ z0=>[(6,v4_ z0.2)]) (λ _ _ z0=>jI (λ h3=>jr λ y4 h5=>jb0 λ y6=>jC [⟨.when [(((y4.State==1)&&y6),true)] _,λ hg=>Bi (enc:=Bf) h5⟩]<|jb [] λ y8=>jS 34 [] n9_ [0,3,24,25,66]<|jI (λ h10=>jB λ y11 h12=>jC [⟨_,B3 (enc:=Bf) h5 h12⟩]<|jX 25 [] n9_) λ h10=>jX 25 [] n9_) λ h3=>jY 26 [] n9_) λ z0=>jE id 20 [.frz 1,.frz 2,.frz 3,.frz 4] n9_
instance k187 (x0:Ay):Fv 187 [.agg (I9 x0)] (λ (r:Bool)=>dB r) (Ati x0):=
 fnJ Tryz.func187 n3_<|jb [] λ y1=>jZ 25 [] []
instance k194 (x0:Ay) (x1:Cg):Fv 194 [.agg (I9 x0),.agg [I x1.X,I x1.Y]] (λ (r:Int×Int)=>.tup [dI r.1,dI r.2]) (Akm x0 x1):=
 fnJ Tryz.func194 [0,1,2,3,4,5,13]<|jb [] λ y1=>jTw [(!y1,false)] [] (Xl x1)<|jS 26 [] [0,1] [2,3,4,5,13]<|jI (λ h3=>jZ 24 [] []) λ h3=>jb [] λ y4=>jZ 25 [] []
instance k405 (x0:Cf) (x1:Int) (x2:Int):Fv 405 [.agg (qJ x0),dI x1,dI x2] (λ (r:Bool)=>dB r) (A1d x0 x1 x2):=
 fnJ Tryz.func405 [0,1,2,3,6,7,8,25]<|jT [] (Xm x0)<|jTw [(((!(Xm x0)) || ((x1==0)&&(x2==0))),false)] [] (Ads x1 x2)<|jS 26 [] [0] [1,2,3,6,25]<|jI (λ h1=>jZ 24 [] []) λ h1=>jb [] λ y2=>jb [] λ y4=>jb [] λ y6=>jb [] λ y8=>jZ 29 [] []
instance k124 (x0:Aa) (x1:Ad):Fk 124 [.agg (d38 x0),.agg (d64 x1)] [] (λ (r:Ad×Int)=>.tup [.agg [.os 0,.os 1,.os 2,.os 3],dI r.2]) (λ r=>(zp r.1 [])) (uX x0 x1):=
 fnJ Tryz.func124 [0,1,2,3,4,5,6,11]<|jb [] λ y1=>jS 28 [.ownb 2 0 4 1,.ownb 2 1 160 4,.ownb 2 2 3 1,.ownb 2 3 88 2] n7_ [2,3,4,5,6,11]<|jI (λ h3=>jZ 24 [.ownb 2 0 4 1,.ownb 2 1 160 4,.ownb 2 2 3 1,.ownb 2 3 88 2] [7,8,9,10]) λ h3=>jb [] λ y4=>jZ 25 [] [7,8,9,10]
theorem Ay8:EN 124:=en Tryz.func124
instance k198 (x0:Aa) (x1:Ad) (x2:Int):Fk 198 [.agg (d38 x0),.agg (d64 x1),dI x2] [] (λ (r:Ad×Int)=>.tup [.agg [.os 0,.os 1,.os 2,.os 3],dI r.2]) (λ r=>(zp r.1 [])) (A17 x0 x1 x2):=
 fnJ Tryz.func198 [0,1,2,3,4,6,7,8,9,15]<|jb [] λ y1=>jS 28 [.ownb 2 0 4 1,.ownb 2 1 160 4,.ownb 2 2 3 1,.ownb 2 3 88 2] n7_ [2,3,4,6,7,8,15]<|jI (λ h3=>jN) λ h3=>jb [] λ y4=>jB λ y6 h7=>jC [⟨_,Az (enc:=pB) h7⟩]<|jB λ y8 h9=>jC [⟨_,B3 (enc:=pB) h7 h9⟩]<|jB λ y10 h11=>jC [⟨.call 196 [.agg (d38 x0),.agg [.os 0,.os 1,.os 2,.os 3]] [v5_ y8,v4_ y4.Ae,v0_ y4.An,v1_ y4.Al] (.agg [.os 4,.os 5,.os 6,.os 7]) (v5_ y8::v4_ y4.Ae::v0_ y4.An::v1_ y4.Al::zp y10 []) [7,8,9,10],⟨A31,((k196 x0 (⟨y8,y4.Ae,y4.An,y4.Al⟩:Ad) _ h11).lend (by kernel_rfl) (by kernel_rfl) (by kernel_rfl) ⟨A_ (λ _=>rfl),A_ (λ _=>rfl),A_ (λ _=>rfl),A_ (λ _=>rfl),trivial⟩ (by kernel_rfl) (by kernel_rfl))⟩⟩]<|jZ 29 [] [12,13,14,15]
set_option maxHeartbeats 4000000 in
instance k45 (x0:Af):Fk 45 [dO 0 0] [.box 120 (B7 x0)] (λ (r:Bb×Af)=>.agg [.os 1,.os 2,.os 3,.os 4,.os 5,.os 6,.os 7,.os 8,.os 9,I r.1.Hull.Mass,I r.1.Hull.Inertia,I r.1.Hull.Drag,I r.1.Hull.Spin,I r.1.Ship.Bow,I r.1.Ship.Stern,.os 10,I r.1.Board.Am,.os 11,.os 12,.os 13,I r.1.Board.Phase,I r.1.Board.Aq,I r.1.Table.Start,I r.1.Table.Stop,I r.1.Table.Delay,DS q88 r.1.Design.Parts,.os 14,.os 15,DS Kh r.1.References,I r.1.Gains.Near,I r.1.Gains.Sum,I r.1.Gains.Calm,I r.1.Gains.Point,I r.1.Gains.Drift,I r.1.Gains.Still,I r.1.Gains.MostSum,I r.1.Gains.MostForce,I r.1.Gains.MostYaw,I r.1.Target.Place.X,I r.1.Target.Place.Y,I r.1.Target.Heading,I r.1.Delay,.p (.v (.string r.1.Operation.Name)),I r.1.Operation.Class,I r.1.Operation.Circle.Place.X,I r.1.Operation.Circle.Place.Y,I r.1.Operation.Circle.Yellow,I r.1.Operation.Circle.Red,I r.1.Operation.Drift,.os 16]) (λ r=>(.box 120 (B7 r.2)::v0_ r.1.Hull.Wind.Surge::v0_ r.1.Hull.Wind.Sway::v0_ r.1.Hull.Wind.Yaw::v0_ r.1.Hull.Current.Surge::v0_ r.1.Hull.Current.Sway::v0_ r.1.Hull.Current.Yaw::v0_ r.1.Hull.Wave.Surge::v0_ r.1.Hull.Wave.Sway::v0_ r.1.Hull.Wave.Yaw::v7_ r.1.Ship.A3::zs r.1.Board [v9_ r.1.Design.Links,Jk r.1.Design.Groups,Oy r.1.Sequence.Stages])) (F45 x0):=
 fnJ Tryz.func45 [0,2,3,4,5,6,7,14,36]<|jB λ y1 h2=>jD true<|jD true<|jK true rfl<|jB λ y3 h4=>jB λ y5 h6=>jB λ y7 h8=>jK true rfl<|jB λ y9 h10=>jB λ y11 h12=>jB λ y13 h14=>jK false rfl<|jC [⟨_,okC [0] e43 (k43 x0 _ h2)⟩,⟨.own,trivial⟩,⟨.own,trivial⟩,⟨_,A8 Bs 3 (λ _=>rfl) h4⟩,⟨_,okC [0] e44 (k44 y1.2 3 _ h6)⟩,⟨.own,trivial⟩,⟨_,Jt Cd 3 (λ _=>rfl) h8⟩,⟨.own,trivial⟩,⟨_,A8 Bs 3 (λ _=>rfl) h10⟩,⟨_,okC [0] e44 (k44 y5.2 3 _ h12)⟩,⟨.own,trivial⟩,⟨_,A8 Cd 3 (λ _=>rfl) h14⟩]<|jW 68 [.ownb 1 0 3 1,.ownb 1 1 3 1,.ownb 1 2 3 1,.ownb 1 3 3 1,.ownb 1 4 3 1,.ownb 1 5 3 1,.ownb 1 6 3 1,.ownb 1 7 3 1,.ownb 1 8 3 1,.ownb 1 15 104 6,.ownb 1 17 168 3,.ownb 1 18 170 3,.ownb 1 19 172 5,.ownb 1 25 88 2,.ownb 1 26 156 4,.ownb 1 27 166 2,.ownb 1 28 189 4,.ownb 1 49 252 4,.ownb 20 15 104 6,.ownb 22 3 172 5] [0,1,2,3,4,5,6,7,8,9,10,12,13,14,15,16,17,18,19,20,22,29,31,32,33,34,35,36,37,38,39,40,41,42,43,44,45,46,47,48,49,50,51] [0,2,3,4,6] (kW λ z0=>[(6,dI z0.1)]) (uA λ z0=>[(0,.box 120 [DS pI z0.2.1,I z0.2.2.1]),(21,L8 (g3_ z0)),(41,v7_ (g4_ z0)),(42,Si (Aya z0))]) (kA [0,2,3,4] λ z0=>[]) (uA λ z0=>[(0,.box 120 [DS pI z0.2.1,I z0.2.2.1]),(21,L8 (g3_ z0)),(41,v7_ (g4_ z0)),(42,Si (Aya z0))]) (λ _ _ z0=>jI (λ h15=>jC [⟨.nz 2,H_ rfl⟩,⟨.own,trivial⟩]<|jB λ y16 h17=>jC [⟨_,A8 Bs 3 (λ _=>rfl) h17⟩]<|jb [0] λ y18=>jb [0] λ y20=>jC [⟨.own,trivial⟩]<|jB λ y22 h23=>jC [⟨_,A8 B0 5 (λ _=>rfl) h23⟩,⟨.nz 2,H_ rfl⟩]<|jb [0] λ y24=>jb [0] λ y26=>jC [⟨.own,trivial⟩]<|jB λ y28 h29=>jC [⟨_,A8 Ej 6 (λ _=>rfl) h29⟩]<|jX 35 [] [0,1,2,3,4,5,6,7,8,9,10,11,12,13,14,15,16,17,18,19,20,44,22,23,24,25,26,27,28,29,30,31,32,33,34,35,36,37,38,39,40,48,46]) λ h15=>jY 26 [] A3d) λ z0=>jb [0] λ y30=>jb [0] λ y32=>jZ 35 [] [0,2,3,4,5,6,7,8,9,10,41,21,22,42,43,44,18]
instance k30 (x0:Aa) (x1:Ad):Fv 30 [.agg (d38 x0),.agg (d64 x1)] (λ (r:Bool)=>dB r) (F30 x0 x1):=
 fnJ Tryz.func30 [0,1,2,3,4,5,13,19]<|jW 26 [] [0,1] [2,3,4,5] (kW λ z0=>[(5,dI z0)]) iA (kA [2,3,4] λ z0=>[]) iA (λ _ _ z0=>jI (λ h1=>jb [] λ y2=>jS 30 [] [0,1] [2,3,4,5,19]<|jI (λ h4=>jZ1 24 [] []) λ h4=>jX 25 [] [0,1]) λ h1=>jY 26 [] [0,1]) λ z0=>jb [] λ y5=>jZ 23 [] []
instance k58 (x0:Aa) (x1:Bt) (x2:As):Fv 58 [.agg (d38 x0),.agg (d40 x1),.agg (d68 x2)] (λ (r:Int)=>dI r) (F58 x0 x1 x2):=
 fnJ Tryz.func58 [0,1,2,3,4,5,6,7,9,10,17,31,37,39,40,41,42,66,79]<|jb [] λ y1=>jS 28 [] n3_ [3,4,5,6,7,17]<|jI (λ h3=>jN) λ h3=>jT [] (Jy x1)<|jI (λ h4=>jN) λ h4=>jl Cs x2.Ba<|jI (λ h5=>jN) λ h5=>jl Cs x2.Ba<|jG 36 [] [0,2] [3,5,6,39,40,41] (kF λ n0 z0=>[(41,dI (cnt 0 n0))]) iF (kA [3,5,6] λ z0=>[]) iA (lnS Cs 39) 26 [0,1] (λ _ _ _ _ _ _ _ _=>jI (λ h6=>jN) λ h6=>jX 36 [] [0,1]) λ z0=>jb [] λ y7=>jb0 λ y9=>jS 26 [] [] [6,79]<|jI (λ h11=>jN) λ h11=>jZ 25 [] []
set_option maxHeartbeats 4000000 in
instance k127 (x0:Aa) (x1:Ad) (x2:Int) (x3:Aw):Fk 127 [.agg (d38 x0),.agg (d64 x1),dI x2,.agg (O9 x3)] [] (λ (r:Ad×Int)=>.tup [.agg [.os 0,.os 1,.os 2,.os 3],dI r.2]) (λ r=>(zp r.1 [])) (Atm x0 x1 x2 x3):=
 fnJ Tryz.func127 [0,1,2,3,4,5,7,8,9,10,11,12,13,14,15,16,17,19,24,42,47,56,67,71,75,84,85,86,87,92,102,110,119,128,139,152,169,177,201,221,229,241,257,266,275,276,277,278,310]<|jb [] λ y1=>jS 28 [.ownb 3 0 4 1,.ownb 3 1 160 4,.ownb 3 2 3 1,.ownb 3 3 88 2] n8_ [2,4,5,7,8,9,10,24]<|jI (λ h3=>jN) λ h3=>jI (λ h4=>jN) λ h4=>jb [] λ y5=>jS 36 [] E5 [2,4,5,7,8,9,11,47,110]<|jI (λ h7=>jb [] λ y8=>jZ 24 [] [13,14,15,16]) λ h7=>jI (λ h10=>jN) λ h10=>jI (λ h11=>jN) λ h11=>jS 31 [] E5 [2,4,5,7,8,9,11,47,139]<|jM (kA [2,4,5,7,8,9,11,47] λ z0=>[(139,dB z0)]) iA (λ _=>jI (λ h12=>jX 23 [] E5) λ h12=>jX 23 [] E5) λ z0=>jI (λ h13=>jC [⟨.when [(decide (x3.Unit<0),false)] _,λ hg=>okL Cd x0.Ae⟩]<|jI (λ h14=>jN) λ h14=>jb [] λ y15=>jb [] λ y17=>jr λ y19 _=>jS 34 [] E5 [2,4,5,7,8,9,11,12,13,169]<|jI (λ h21=>jb [] λ y22=>jS 25 [] E5 [2,4,5,7,8,9,11,12,13,177]<|jI (λ h24=>jN) λ h24=>jB λ y25 h26=>jC [⟨_,Az (enc:=Bf) h26⟩]<|jB λ y27 h28=>jC [⟨_,B3 (enc:=Bf) h26 h28⟩]<|jb [] λ y29=>jb [] λ y31=>jS 28 [] [1,2,3,4,5,6,7,8,9,10,11,12] [5,7,8,9,11,12,13,201]<|jM (kA [5,7,8,9,11,12,13] λ z1=>[]) (uA λ z1=>[(8,v4_ z1)]) (λ _=>jI (λ h33=>jB λ y34 h35=>jC [⟨_,Az (enc:=Bf) h35⟩]<|jB λ y36 h37=>jC [⟨_,B3 (enc:=Bf) h35 h37⟩]<|jX 23 [] Eu) λ h33=>jN) λ z1=>jZ 23 [] [7,8,9,10]) λ h21=>jN) λ h13=>jI (λ h38=>jN) λ h38=>jI (λ h39=>jb [] λ y40=>jl Bf y40.1.Ae<|jF 32 [] [0,3,4,5,6,7,12,13,14,15,16] [2,4,8,9,11,275,276,277] (kF λ n2 z2=>[(277,dI (cnt 0 n2))]) iF (cA λ z2=>[(8,dO 0 0),(9,dI 0),(11,dO 5 0)]) (cA λ z2=>(.box 64 [.os 1,.os 2,.os 3,.os 4]::ze (.box 64 [.os 6,.os 7,.os 8,.os 9]::zp y40.1 []))) (lnO Bf 275 8 160 4) 26 [1,2,3,4,5,6,7,8,9,10] (λ _ _ _ _ _ hl2 _ hx2=>jC [⟨_,Az (enc:=Bf) (Bd hx2 hl2)⟩,⟨_,Bi (enc:=Bf) (Bd hx2 hl2)⟩]<|jb [] λ y42=>jr λ y44 _=>jr λ y46 _=>jb [] λ y48=>jS 32 [] O2 [2,4,8,9,11,14,275,276,277,310]<|jI (λ h50=>jN) λ h50=>jX 25 [] O2) λ z2=>jZ 24 [] [6,7,8,9]) λ h39=>jN
instance k225 (x0:Aa) (x1:Bt) (x2:Ad) (x3:Int) (x4:Int) (x5:A9):Fv 225 [.agg (d38 x0),.agg (d40 x1),.agg (d64 x2),dI x3,dI x4,.agg (Arv x5)] (λ (r:A9×(List Aw)×Int)=>.tup [.agg (Arv r.1),.d (DS E4 r.2.1),dI r.2.2]) (A12 x0 x1 x2 x3 x4 x5):=
 fnJ Tryz.func225 [0,1,2,3,4,5,6,7,8,11,12,13,14,15,16,17,18,19,20,22,28,63,72,119,125,126,132,172]<|jb [] λ y1=>jS 28 [] n5_ [3,4,6,7,8,11,12,13,14,15,28]<|jI (λ h3=>jN) λ h3=>jT [] (Jy x1)<|jI (λ h4=>jN) λ h4=>jI (λ h5=>jN) λ h5=>jb [] λ y6=>jb [] λ y8=>jb [] λ y10=>jb [] λ y12=>jb [] λ y14=>jS 44 [] n5_ [3,4,6,7,8,11,12,13,14,16,18,119]<|jI (λ h16=>jN) λ h16=>jI (λ h17=>jN) λ h17=>jZ 30 [] []
instance k49 (x0:Aa) (x1:Bt) (x2:As):Fv 49 [.agg (d38 x0),.agg (d40 x1),.agg (d68 x2)] (λ (r:Int)=>dI r) (F49 x0 x1 x2):=
 fnJ Tryz.func49 [0,1,2,3,4,5,6,7,8,9,18,22,36,43]<|jb [] λ y1=>jS 31 [] n9_ [3,4,5,6,7,8,9,18]<|jI (λ h3=>jZ 24 [] []) λ h3=>jT [] (F98 x1)<|jI (λ h4=>jZ 27 [] []) λ h4=>jl Cs x2.Ba<|jI (λ h5=>jZ 30 [] []) λ h5=>jb0 λ y6=>jB λ y8 h9=>jC [⟨.whenR [(!y6,false)] _,⟨λ hg=>okC [8,2] Azg (k100s0 x2.Ba x2 _ (B4 h9 hg)),λ hg=>by have e:=Ff h9 hg;subst e;rfl⟩⟩]<|jS 30 [] [] [6,43]<|jI (λ h10=>jZ 24 [] []) λ h10=>jZ 26 [] []
theorem A2u (x y:Ab):Mm x y=some (Rm x y):=by
 have h:∀ a b,Io a b=Go.Lib.compareInt a b:=λ a b=>by
  have hn:∀ c,Pg c=false:=λ c=>by simp [Pg]
  unfold Io Go.Lib.compareInt;rw [hn,hn];simp only [cond_false,Bool.cond_decide]
 unfold Mm U5 Rm;rw [h,h]
 generalize Go.Lib.compareInt x.Kind y.Kind=a;generalize Go.Lib.compareInt x.Number y.Number=b
 by_cases ha:a=0
 ·subst ha
  by_cases hb:b=0
  ·subst hb;rfl
  ·have hb2:(b != 0)=true:=by simpa using hb
   simp [foldI,Qj,andThen,hb2]
 ·have ha2:(a != 0)=true:=by simpa using ha
  simp [foldI,Qj,andThen,ha2,ha]
theorem A2t:Aak:=λ x y=>k107 x y _ (A2u x y)
theorem k51 (x0:A4) (x1:List Ab) (r:List Ab) (h:F51 x0 x1=some r):CO 51 [.agg (d44 x0),.d (DS q88 x1)] [] (.d (DS q88 r)) []:=Ayk F50 R7 (λ a=>(k50 a).k) Aq5 A2t x0 x1 r h
theorem e51:EN 51:=en Tryz.func51
instance k344 (x0:Aa) (x1:Ad) (x2:Int):Fv 344 [.agg (d38 x0),.agg (d64 x1),dI x2] (λ (r:Int×Bool)=>.tup [dI r.1,dB r.2]) (qW x0 x1 x2):=
 fnJ Tryz.func344 [0,1,2,3,4,6,7,8,20]<|jb [] λ y1=>jl pI y1.1.Ae<|jS 28 [] [2] [6,7,8,20]<|jI (λ h3=>jZ 24 [] []) λ h3=>jb [] λ y4=>jZ 25 [] []
instance k190 (x0:Aa) (x1:Ad) (x2:Int):Fv 190 [.agg (d38 x0),.agg (d64 x1),dI x2] (λ (r:Bool)=>dB r) (Ael x0 x1 x2):=
 fnJ Tryz.func190 [0,1,2,3,4,6,7]<|jb [] λ y1=>jl pI y1.1.Ae<|jZ 27 [] []
theorem A33:EN 190:=en Tryz.func190
instance k382 (x0:Aa) (x1:Ad) (x2:Int):Fv 382 [.agg (d38 x0),.agg (d64 x1),dI x2] (λ (r:Int)=>dI r) (Adx x0 x1 x2):=
 fnJ Tryz.func382 [0,1,2,3,4,6,7,9,11,20,21,22,23,29]<|jb [] λ y1=>jl pI y1.1.Ag<|jG 30 [] [1,2] [4,6,7,20,21,9,22] (kF λ n0 z0=>[(9,dI z0),(22,dI (cnt 0 n0))]) iF (cA λ z0=>[(6,dI 0),(9,dI z0)]) (cA λ z0=>[]) (lnS pI 20) 26 [] (λ _ _ _ _ _ _ _ _=>jl pI y1.1.Ae<|jI (λ h3=>jb [] λ y4=>jX 36 [] [0,1]) λ h3=>jX 36 [] [0,1]) λ z0=>jZ 23 [] []
instance k383 (x0:Aa) (x1:Ad) (x2:Int):Fv 383 [.agg (d38 x0),.agg (d64 x1),dI x2] (λ (r:Int)=>dI r) (Adw x0 x1 x2):=
 fnJ Tryz.func383 [0,1,2,3,4,6,7,9,11,20,21,22,23]<|jb [] λ y1=>jl pI y1.1.Ae<|jF 30 [] [0] [3,6,20,21,9,22] (kF λ n0 z0=>[(9,dI z0),(22,dI (cnt 0 n0))]) iF (cA λ z0=>[(6,dI 0),(9,dI z0)]) (cA λ z0=>[]) (lnS pI 20) 26 [] (λ _ _ _ _ _ hl0 _ hx0=>jC [⟨_,Bm hx0 hl0⟩]<|jb [] λ y3=>jX 33 [] [0]) λ z0=>jZ 23 [] []
instance k257s0 (x0:List Ay):Fv 257 [.d (DS Ej x0),.d (.fn (.func 187) [] [])] (λ (r:Int)=>dI r) (Ad8 x0):=
 fnJ Tryz.func257 [0,1,4,5,7,8,9,16]<|jl Ej x0<|jF 26 [] [] [0,1,4,7,8] (kF λ n0 z0=>[(8,dI (cnt 0 n0))]) iF (kA [4] λ z0=>[]) iA (lnS Ej 0) 26 [] (λ _ _ _ _ _ hl0 _ hx0=>jC [⟨_,Bm hx0 hl0⟩]<|jb [] λ y1=>jS 32 [] [] [0,1,4,5,7,8,16]<|jI (λ h3=>jZ1 24 [] []) λ h3=>jX 25 [] []) λ z0=>jZ 23 [] []
instance k117 (x0:Ay) (x1:Int):Fv 117 [.agg (I9 x0),dI x1] (λ (r:Int)=>dI r) (Aku x0 x1):=
 fnJ Tryz.func117 [0,1,2,4,5,6,7,17,24]<|jb [] λ y1=>jI (λ h3=>jZ 32 [] []) λ h3=>jI (λ h4=>jZ 35 [] []) λ h4=>jb [] λ u6=>jb [] λ y7=>jZ 39 [] []
instance k404s0 (x0:Cf) (x1:Int) (x2:Int):Fv 404 [.agg (qJ x0),.d (.ip [.v (.int .i64 x1)]),.d (.ip [.v (.int .i64 x2)])] (λ (r:Bool)=>dB r) (Aov x0 x1 x2):=
 fnJ Tryz.func404 n5_<|jb [] λ y1=>jZ 25 [] []
set_option maxHeartbeats 4000000 in
instance k205 (x0:Aa) (x1:Ad):Fk 205 [.agg (d38 x0),.agg (d64 x1)] [] (λ (r:Ad×(List Aw)×Int)=>.tup [.agg [.os 0,.os 1,.os 2,.os 3],dS 4,dI r.2.2]) (λ r=>(zp r.1 [v3_ r.2.1])) (A15 x0 x1):=
 fnJ Tryz.func205 [0,1,2,3,4,5,6,7,8,9,10,11,12,17,24,25,26,38,50,51,52,53,74]<|jb [] λ y1=>jS 28 [.ownb 2 0 4 1,.ownb 2 1 160 4,.ownb 2 2 3 1,.ownb 2 3 88 2] n7_ [2,3,4,5,6,7,17]<|jI (λ h3=>jN) λ h3=>jb [] λ y4=>jl Bs x0.Ah<|jW 30 [.own 9 133 3] E5 [2,3,4,5,6,8,9,24,25] (kW λ z0=>[(25,dI z0)]) iA (cA λ z0=>[(2,dO 0 0),(4,dO 1 0),(5,.d (DS E4 [])),(6,dI 0),(8,dO 10 0),(9,dS 11)]) (cA λ z0=>(.box 38 (d38 x0) :: .box 64 [.os 2,.os 3,.os 4,.os 5]::ze (zp y4 [.box 64 [.os 6,.os 7,.os 8,.os 9],v3_ ([]:List Aw)]))) (λ _ _ z0=>jI (λ h6=>jr λ y7 _=>jb [] λ y9=>jS 32 [] E5 [2,3,4,5,6,8,9,10,24,25,38]<|jI (λ h11=>jN) λ h11=>jX 25 [] E5) λ h6=>jY 26 [] [0,2,3,4,5,6,7,8,9,10,11,12]) λ z0=>jl Bs x0.Ah<|jF 24 [] Eu [2,4,5,6,8,9,50,51,52] (kF λ n1 z1=>[(52,dI (cnt 0 n1))]) iF (kA [2,4,5,6,8,9] λ z1=>[]) iA (lnS Bs 50) 26 Eu (λ _ _ _ _ _ hl1 _ hx1=>jC [⟨_,Bm hx1 hl1⟩]<|jr λ y12 _=>jb0 λ y14=>jS 32 [] Eu [2,4,5,6,8,9,11,50,51,52,74]<|jI (λ h16=>jN) λ h16=>jX 25 [] Eu) λ z1=>jB λ y17 h18=>jC [⟨.call 124 [.agg (d38 x0),.agg [.os 0,.os 1,.os 2,.os 3]] (zp y4 []) (.tup [.agg [.os 4,.os 5,.os 6,.os 7],dI y17.2]) (zp y4 (zp y17.1 [])) [6,7,8,9],⟨Ay8,((k124 x0 y4 _ h18).lend (by kernel_rfl) (by kernel_rfl) (by kernel_rfl) ⟨A_ (λ _=>rfl),A_ (λ _=>rfl),A_ (λ _=>rfl),A_ (λ _=>rfl),trivial⟩ (by kernel_rfl) (by kernel_rfl))⟩⟩]<|jZ 25 [] [12,13,14,15,11]
instance k377 (x0:Aa) (x1:Ad) (x2:Ak):Fv 377 [.agg (d38 x0),.agg (d64 x1),.agg (Ace x2)] (λ (r:Bool)=>dB r) (Aj0 x0 x1 x2):=
 fnJ Tryz.func377 [0,1,2,3,4,5,6,7,8,9,10,20,22,23,49]<|jb [] λ y1=>jS 28 [] n3_ [3,4,5,6,7,20]<|jI (λ h3=>jZ 24 [] []) λ h3=>jI (λ h4=>jb [] λ y5=>jb [] λ y7=>jb [] λ y9=>jTw [(!y5.2,false)] [] (Adv x0 y7 y9)<|jZ 34 [] []) λ h4=>jI (λ h11=>jb [] λ y12=>jb [] λ y14=>jT [] (Adv x0 y12 y14)<|jZ 35 [] []) λ h11=>jZ 37 [] []
instance k304 (x0:Aa) (x1:Ad) (x2:Int) (x3:Int):Fk 304 [.agg (d38 x0),.agg (d64 x1),dI x2,dI x3] [] (λ (r:Ad×Int)=>.tup [.agg [.os 0,.os 1,.os 2,.os 3],dI r.2]) (λ r=>(zp r.1 [])) (Aj5 x0 x1 x2 x3):=
 fnJ Tryz.func304 [0,1,2,3,4,5,8,9,10,11,12,13,14,15,16,17,23,44,63,76]<|jb [] λ y1=>jS 28 [.ownb 2 0 4 1,.ownb 2 1 160 4,.ownb 2 2 3 1,.ownb 2 3 88 2] n7_ [2,3,4,5,8,9,10,23]<|jI (λ h3=>jZ 24 [.ownb 2 0 4 1,.ownb 2 1 160 4,.ownb 2 2 3 1,.ownb 2 3 88 2] [7,8,9,10]) λ h3=>jC [⟨.when [(decide (x2<0),false)] _,λ hg=>okL Cd x0.Ae⟩]<|jI (λ h4=>jZ 29 [.ownb 2 0 4 1,.ownb 2 1 160 4,.ownb 2 2 3 1,.ownb 2 3 88 2] [7,8,9,10]) λ h4=>jb [] λ y5=>jb [] λ y7=>jS 33 [] n7_ [2,4,5,8,9,11,63]<|jI (λ h9=>jZ 24 [.ownb 2 0 4 1,.ownb 2 1 160 4,.ownb 2 2 3 1,.ownb 2 3 88 2] [7,8,9,10]) λ h9=>jb [] λ y10=>jb [] λ y12=>jS 32 [] Eu [4,5,8,9,11,13,14,15,76]<|jI (λ h14=>jb [] λ y15=>jb [] λ y17=>jb [7,8,9,10] λ y19=>jZ 29 [] [7,8,9,10]) λ h14=>jb [] λ y21=>jb [7,8,9,10] λ y23=>jZ 27 [] [7,8,9,10]
theorem A3u:EN 304:=en Tryz.func304
instance k312s0 (x0:Ak) (x1:A2):Fk 312 [.agg (Ace x0),dO 0 0] (.box 333 [.o 1 0] :: .box 373 (zb x1.Ao [.os 2,.os 3,.os 4,.os 5,.os 6])::zp x1.Au [v3_ x1.acts]) (λ (r:Bool×A2)=>dB r.1) (λ r=>(.box 333 [.o 1 0] :: .box 373 (zb r.2.Ao [.os 2,.os 3,.os 4,.os 5,.os 6])::zp r.2.Au [v3_ r.2.acts])) (Y8 x0 x1):=
 fnJ Tryz.func312 n4_<|jb0 λ y1=>jZ 25 [] n7_
theorem Ayz:EN 312:=en Tryz.func312
instance k356s0 (x0:A2) (x1:Int):Fv 356 [.d (.ip [.v (.int .i64 x0.Ao.Am),.s (x0.Ao.Ah.map Bs),.s (x0.Ao.Ae.map Cd),.s (x0.Ao.Ag.map B0),.v (.int .i64 x0.Ao.Phase),.v (.int .i64 x0.Ao.Aq),.s (x0.Au.Ai.map pB),.s (x0.Au.Ae.map Bf),.s (x0.Au.An.map pI),.s (x0.Au.Al.map q88),.s (x0.acts.map E4)]),dI x1] (λ (r:Int)=>dI r) (Um x0 x1):=
 fnJ Tryz.func356 [0,1,4]<|jb [] λ y1=>jb [] λ y3=>jZ 25 [] []
instance k186s0 (x0:List Ay):Fv 186 [.d (DS Ej x0),.d (.fn (.func 187) [] [])] (λ (r:Bool)=>dB r) (Zm x0):=
 fnJ Tryz.func186 [0,1,4]<|jb [] λ y1=>jZ 25 [] []
def Abb:List Nat:=[0,1,2,3,4,6,7,8,43]
theorem A2n (rec116:Aa->Ad->Int->Option Bool) (ih116:∀ (x0:Aa) (x1:Ad) (x2:Int) (r:Bool),rec116 x0 x1 x2=some r->CO 116 [.agg (d38 x0),.agg (d64 x1),.d (I x2)] [] (.d (Bo r)) []) (x0:Aa) (x1:Ad) (x2:Int) (r:Bool) (h:Zs rec116 x0 x1 x2=some r):CO 116 [.agg (d38 x0),.agg (d64 x1),.d (I x2)] [] (.d (Bo r)) []:=by
 unfold Zs at h
 refine co 53 Tryz.func116 λ C hC=>?_
 obtain⟨y1,h2,y3,h4,y5,h6,h⟩:=An5 h
 obtain⟨y7,h8,y9,h10,h⟩:=L5 h
 refine wn Abb 28 [] [pc A34 (k189 x0 x1 x2 _ h2) [],pw A33 (λ hg=>k190 x0 x1 y1.1 _ (B4 h4 hg)) [],pw A32 (λ hg=>k191 x1 4 x2 _ (B4 h6 hg)) [],pR pI h8,pR B0 h10] [] 0 [0,1] [2,3,4,6,43] hC [] ?_
 rcases cB h with⟨h11,h⟩ | ⟨h11,h⟩
 ·replace h:=sI h
  subst h
  exact wr Abb 24 [true] [] [] 0 [] hC [pq h11]
 ·obtain⟨y12,h13,y14,h15,h⟩:=L5 h
  replace h:=sI h
  subst h
  exact wr Abb 25 [false] [pr B0 h13,pc Ay4 (Ax1 rec116 ih116 y12.Needs x0 x1 _ h15) [0,1]] [] 0 [] hC [pq h11]
theorem A2m (n:Nat):∀ (x0:Aa) (x1:Ad) (x2:Int) (r:Bool),Zr n x0 x1 x2=some r->CO 116 [.agg (d38 x0),.agg (d64 x1),.d (I x2)] [] (.d (Bo r)) []:=by
 induction n with
 | zero=>intro x0 x1 x2 r h;cases h
 | succ n ih=>intro x0 x1 x2 r h;exact A2n _ ih x0 x1 x2 r h
theorem A3k (x0:Aa) (x1:Ad) (x2:Int) (r:Bool) (h:Ato x0 x1 x2=some r):CO 116 [.agg (d38 x0),.agg (d64 x1),.d (I x2)] [] (.d (Bo r)) []:=A2m 1000 x0 x1 x2 r h
instance k21 (x0:A4) (x1:As) (x2:List Ab):Fv 21 [.agg (d44 x0),.agg (d68 x1),.d (DS q88 x2)] (λ (r:(List Ab))=>.d (DS q88 r)) (F21 x0 x1 x2):=
 fnJ Tryz.func21 [0,1,2,3,4,6]<|jB λ y1 h2=>jC [⟨_,okC [] e68 (k68 x2 x1.Power.Al _ h2)⟩]<|jB λ y3 h4=>jC [⟨_,okC [] e51 (k51 x0 y1 _ h4)⟩]<|jZ 25 [] []
instance k318s2 (x0:List Cf) (x1c0:Int) (x1c1:Int):Fk 318 [.d (DS F_ x0),.d (.fn (.func 404) [] [.o 0 0,.o 1 0])] [.box 3 [I x1c0],.box 3 [I x1c1]] (λ (r:Int×Int×Int)=>dI r.1) (λ r=>[.box 3 [I r.2.1],.box 3 [I r.2.2]]) (Ape x0 x1c0 x1c1):=
 fnJ Tryz.func318 [0,1,4,5,7,8,9,16]<|jl F_ x0<|jF 26 [] [0,1] [0,1,4,7,8] (kF λ n0 z0=>[(8,dI (cnt 0 n0))]) iF (kA [4] λ z0=>[]) iA (lnS F_ 0) 26 [0,1] (λ _ _ _ _ _ hl0 _ hx0=>jC [⟨_,Bm hx0 hl0⟩]<|jb0 λ y1=>jS 32 [] [0,1] [0,1,4,5,7,8,16]<|jI (λ h3=>jZ1 24 [] [0,1]) λ h3=>jX 25 [] [0,1]) λ z0=>jZ 23 [] [0,1]
instance k95s1 (x0:Af) (x1:Aa):Fk 95 [dO 0 0,.agg [I x1.Am,.os 1,.os 2,.os 3,I x1.Phase,I x1.Aq]] (.box 120 (B7 x0)::zs x1 []) (λ (r:Ad×Af)=>.agg [.os 4,.os 5,.os 6,.os 7]) (λ r=>(.box 120 (B7 r.2)::zs x1 (zp r.1 []))) (Aah x0 x1):=
 fnJ Tryz.func95 [0,1,3,4,5]<|jC [⟨.flts [.box 64 [.p (.v (.slice none 0 0)),.p (.v (.slice none 0 0)),.p (.v (.slice none 0 0)),.p (.v (.slice none 0 0))]],trivial⟩]<|jb n4_ λ y1=>jB λ y3 h4=>jC [⟨.call 124 [.agg [I x1.Am,.os 0,.os 1,.os 2,I x1.Phase,I x1.Aq],.agg [.os 3,.os 4,.os 5,.os 6]] (zs x1 (zp y1.1 [])) (.tup [.agg [.os 7,.os 8,.os 9,.os 10],dI y3.2]) (zs x1 (zp y1.1 (zp y3.1 []))) [1,2,3,7,8,9,10],⟨Ay8,((k124 x1 y1.1 _ h4).lend (by kernel_rfl) (by kernel_rfl) (by kernel_rfl) ⟨A_ (λ _=>rfl),A_ (λ _=>rfl),A_ (λ _=>rfl),A_ (λ _=>rfl),trivial⟩ (by kernel_rfl) (by kernel_rfl))⟩⟩,⟨.flt 6 (.box 64 [.p (.v (.slice none 0 0)),.p (.v (.slice none 0 0)),.p (.v (.slice none 0 0)),.p (.v (.slice none 0 0))]) (.box 64 [.p (.v (.slice none 0 0)),.p (.v (.slice none 0 0)),.p (.v (.slice none 0 0)),.p (.v (.slice none 0 0))]),rfl⟩]<|jZ 27 [] [0,1,2,3,11,12,13,14]
instance k129 (x0:Aa) (x1:Ad):Fk 129 [.agg (d38 x0),.agg (d64 x1)] [] (λ (r:Ad×(List Aw)×Int)=>.tup [.agg [.os 0,.os 1,.os 2,.os 3],dS 4,dI r.2.2]) (λ r=>(zp r.1 [v3_ r.2.1])) (A2b x0 x1):=
 fnJ Tryz.func129 [0,1,2,3,4,5,6,7,8,9,10,20]<|jb [] λ y1=>jS 28 [.ownb 2 0 4 1,.ownb 2 1 160 4,.ownb 2 2 3 1,.ownb 2 3 88 2] [0,2,3,4,5,6,7,8,9,10,11,12] [2,4,5,6,7,8,9,20]<|jI (λ h3=>jN) λ h3=>jB λ y4 h5=>jC [⟨.call 206 [.agg (d38 x0),.agg [.os 0,.os 1,.os 2,.os 3]] (zp y1.1 []) (.tup [.agg [.os 4,.os 5,.os 6,.os 7],dS 8,dI y4.2.2]) (zp y1.1 (zp y4.1 [v3_ y4.2.1])) [2,3,4,5],⟨A30,((k206 x0 y1.1 _ h5).lend (by kernel_rfl) (by kernel_rfl) (by kernel_rfl) ⟨A_ (λ _=>rfl),A_ (λ _=>rfl),A_ (λ _=>rfl),A_ (λ _=>rfl),A_ (λ _=>rfl),trivial⟩ (by kernel_rfl) (by kernel_rfl))⟩⟩]<|jB λ y6 h7=>jC [⟨_,A8 E4 3 (λ _=>rfl) h7⟩]<|jZ 27 [] [12,13,14,15,17]
instance k343 (x0:Aa) (x1:Ad) (x2:Int):Fv 343 [.agg (d38 x0),.agg (d64 x1),dI x2] (λ (r:Int)=>dI r) (Aj3 x0 x1 x2):=
 fnJ Tryz.func343 [0,1,2,3,4,6,7,8,9,11,15,19,29,66]<|jb [] λ y1=>jS 29 [] [0,1] [2,3,4,6,7,15]<|jI (λ h3=>jZ 24 [] []) λ h3=>jC [⟨.when [(decide (x2<0),false)] _,λ hg=>okL Bs x0.Ah⟩]<|jI (λ h4=>jZ 27 [] []) λ h4=>jb [] λ y5=>jS 27 [] [0,1] [2,3,4,6,29]<|jI (λ h7=>jZ 24 [] []) λ h7=>jb [] λ y8=>jb [] λ y10=>jb [] λ y12=>jb [] λ y14=>jS 33 [] [] [6,66]<|jI (λ h16=>jZ 24 [] []) λ h16=>jZ 25 [] []
instance k310s2 (x0:A2):Fk 310 [dO 0 0,.d (.fn (.func 312) [] [.o 6 0])] (.box 373 (zb x0.Ao [.os 1,.os 2,.os 3,.os 4,.os 5])::zp x0.Au [v3_ x0.acts,.box 333 [.o 0 0]]) (λ (r:A2)=>.tup []) (λ r=>(.box 373 (zb r.Ao [.os 7,.os 8,.os 9,.os 10,.os 11]) :: .non :: .non :: .non :: .non :: .non :: .box 333 [.o 0 0]::zp r.Au [v3_ r.acts])) (Za x0):=
 fnJ Tryz.func310 [0,1,4,5,6,8,13,14,15,16,32,38,39,40,41]<|jl Bs x0.Ao.Ah<|jF 26 [.own 4 3 1,.mv 1,.mv 2,.mv 3,.mv 4,.mv 5] E5 [0,1,4,13,14,15] (kF λ n0 z0=>[(15,dI (cnt 0 n0))]) (uF λ n0 z0=>[(0,.box 373 [I z0.1,DS Bs z0.2.1,DS Cd z0.2.2.1,DS B0 (g3_ z0),I (g4_ z0),I (g5_ z0),.os 8,.os 9,.os 10,.os 11,.os 12]),(7,v0_ (g6_ z0)),(8,v5_ (g7_ z0)),(9,v4_ (g8_ z0)),(10,v0_ (g9_ z0)),(11,v1_ (O5 z0)),(12,v3_ (Ol z0))]) (kA [0,4] λ z0=>[]) (uA λ z0=>[(0,.box 373 [I z0.1,DS Bs z0.2.1,DS Cd z0.2.2.1,DS B0 (g3_ z0),I (g4_ z0),I (g5_ z0),.os 8,.os 9,.os 10,.os 11,.os 12]),(7,v0_ (g6_ z0)),(8,v5_ (g7_ z0)),(9,v4_ (g8_ z0)),(10,v0_ (g9_ z0)),(11,v1_ (O5 z0)),(12,v3_ (Ol z0))]) (lnS Bs 13) 26 E5 (λ _ _ _ a0 z0 hl0 _ hx0=>jC [⟨_,Bm hx0 hl0⟩]<|jr λ y1 _=>jB λ y3 h4=>jC [⟨.whenR [(y1,true)] _,⟨λ hg=>okC [6,0,8,9,10,11,12] Ayz (k312s0 a0 (⟨(⟨z0.1,z0.2.1,z0.2.2.1,(g3_ z0),(g4_ z0),(g5_ z0)⟩:Aa),(⟨(g7_ z0),(g8_ z0),(g9_ z0),(O5 z0)⟩:Ad),(Ol z0)⟩:A2) _ (B4 h4 hg)),λ hg=>by have e:=Ff h4 hg;subst e;rfl⟩⟩]<|jS 32 [] E5 [0,1,4,5,13,14,15,32]<|jI (λ h5=>jB λ y6 h7=>jC [⟨_,A8 pI 1 (λ _=>rfl) h7⟩]<|jX 25 [] [0,1,2,3,4,5,6,13,8,9,10,11,12]) λ h5=>jX 25 [] E5) λ z0=>jl pI (g6_ z0)<|jF 23 [] E5 [0,38,39,40] (kF λ n1 z1=>[(40,dI (cnt 0 n1))]) (uF λ n1 z1=>[(0,.box 373 [I z1.1,DS Bs z1.2.1,DS Cd z1.2.2.1,DS B0 (g3_ z1),I (g4_ z1),I (g5_ z1),.os 8,.os 9,.os 10,.os 11,.os 12]),(8,v5_ (g6_ z1)),(9,v4_ (g7_ z1)),(10,v0_ (g8_ z1)),(11,v1_ (g9_ z1)),(12,v3_ (Lj z1))]) (cA λ z1=>[]) (cA λ z1=>[.box 373 [I z1.1,DS Bs z1.2.1,DS Cd z1.2.2.1,DS B0 (g3_ z1),I (g4_ z1),I (g5_ z1),.os 7,.os 8,.os 9,.os 10,.os 11],.non,.non,.non,.non,.non,.box 333 [.o 0 0],v5_ (g6_ z1),v4_ (g7_ z1),v0_ (g8_ z1),v1_ (g9_ z1),v3_ (Lj z1)]) (lnO pI 38 7 3 1) 26 [0,1,2,3,4,5,6,8,9,10,11,12] (λ _ _ _ _ _ hl1 _ hx1=>jC [⟨_,Az (enc:=pI) (Bd hx1 hl1)⟩,⟨_,Bi (enc:=pI) (Bd hx1 hl1)⟩]<|jb [0,8,9,10,11,12] λ y8=>jX 33 [] [0,1,2,3,4,5,6,7,8,9,10,11,13]) λ z1=>jE id 20 [] Eu
instance k316s2 (x0:A2) (x1:List Int) (x2:Int):Fk 316 [dO 0 0,dS 6,dI x2] (.box 373 (zb x0.Ao [.os 1,.os 2,.os 3,.os 4,.os 5])::zp x0.Au [v3_ x0.acts,v0_ x1]) (λ (r:A2)=>.tup []) (λ r=>(.box 373 (zb r.Ao [.os 7,.os 8,.os 9,.os 10,.os 11]) :: .non :: .non :: .non :: .non :: .non::v0_ x1::zp r.Au [v3_ r.acts])) (Ur x0 x1 x2):=
 fnJ Tryz.func316 [0,1,2,7,8,9,10,11,12,38]<|jl pI x1<|jF 23 [.mv 1,.mv 2,.mv 3,.mv 4,.mv 5] Eu [0,2,9,10,11] (kF λ n0 z0=>[(11,dI (cnt 0 n0))]) (uF λ n0 z0=>[(9,v0_ z0.1),(11,v3_ z0.2)]) (kA [] λ z0=>[]) (uA λ z0=>[(9,v0_ z0.1),(11,v3_ z0.2)]) (lnO pI 9 6 3 1) 26 Eu (λ _ _ _ _ _ hl0 _ hx0=>jC [⟨_,Az (enc:=pI) (Bd hx0 hl0)⟩,⟨_,Bi (enc:=pI) (Bd hx0 hl0)⟩]<|jb0 λ y1=>jr λ y3 h4=>jb [] λ y5=>jS 34 [] Eu [0,2,7,8,9,10,11,38]<|jI (λ h7=>jC [⟨_,Az (enc:=pI) h4⟩,⟨_,Bi (enc:=pI) h4⟩,⟨_,Az (enc:=pI) h4⟩]<|jB λ y8 h9=>jC [⟨_,B3 (enc:=pI) h4 h9⟩]<|jr λ y10 _=>jB λ y12 h13=>jC [⟨_,A8 E4 3 (λ _=>rfl) h13⟩]<|jX 27 [] [0,1,2,3,4,5,6,7,8,9,10,12]) λ h7=>jX 25 [] Eu) λ z0=>jE id 20 [] Eu
instance k317s1 (x0:A2) (x1:List Int) (x2:Int):Fk 317 [dO 0 0,dS 6,dI x2] (.box 373 (zb x0.Ao [.os 1,.os 2,.os 3,.os 4,.os 5])::zp x0.Au [v3_ x0.acts,v0_ x1]) (λ (r:A2)=>.tup []) (λ r=>(.box 373 (zb r.Ao [.os 7,.os 8,.os 9,.os 10,.os 11]) :: .non :: .non :: .non :: .non :: .non::v0_ x1::zp r.Au [v3_ r.acts])) (Uq x0 x1 x2):=
 fnJ Tryz.func317 [0,1,2,7,8,9,10,11,28]<|jl pI x1<|jF 23 [.mv 1,.mv 2,.mv 3,.mv 4,.mv 5] Eu [0,2,8,9,10] (kF λ n0 z0=>[(10,dI (cnt 0 n0))]) (uF λ n0 z0=>[(0,.box 373 [I z0.1,DS Bs z0.2.1,DS Cd z0.2.2.1,DS B0 (g3_ z0),I (g4_ z0),I (g5_ z0),.os 7,.os 8,.os 9,.os 10,.os 11]),(7,v5_ (g6_ z0)),(8,v4_ (g7_ z0)),(9,v0_ (g8_ z0)),(10,v1_ (g9_ z0)),(11,v3_ (Lj z0))]) (kA [] λ z0=>[]) (uA λ z0=>[(0,.box 373 [I z0.1,DS Bs z0.2.1,DS Cd z0.2.2.1,DS B0 (g3_ z0),I (g4_ z0),I (g5_ z0),.os 7,.os 8,.os 9,.os 10,.os 11]),(7,v5_ (g6_ z0)),(8,v4_ (g7_ z0)),(9,v0_ (g8_ z0)),(10,v1_ (g9_ z0)),(11,v3_ (Lj z0))]) (lnO pI 8 6 3 1) 26 Eu (λ _ _ _ _ _ hl0 _ hx0=>jC [⟨_,Az (enc:=pI) (Bd hx0 hl0)⟩,⟨_,Bi (enc:=pI) (Bd hx0 hl0)⟩]<|jr λ y1 _=>jb0 λ y3=>jS 32 [] E5 [0,2,7,8,9,10,28]<|jI (λ h5=>jb [0,7,8,9,10,11,12] λ y6=>jX 25 [] [0,1,2,3,4,5,6,13,14,15,16,17]) λ h5=>jX 25 [] Eu) λ z0=>jE id 20 [] Eu
instance k113 (x0:Ca):Fv 113 [.agg (d33 x0)] (λ (r:Int)=>dI r) (Xs x0):=
 fnJ Tryz.func113 [0,1,2,3,8,33]<|jl Ej x0.A3<|jI (λ h1=>jZ 30 [] []) λ h1=>jI (λ h2=>jZ 33 [] []) λ h2=>jb [] λ y3=>jI (λ h5=>jZ 36 [] []) λ h5=>jZ 38 [] []
instance k259s2 (x0:List Cf) (x1c0:Int) (x1c1:Int):Fk 259 [.d (DS F_ x0),.d (.fn (.func 404) [] [.o 0 0,.o 1 0])] [.box 3 [I x1c0],.box 3 [I x1c1]] (λ (r:Bool×Int×Int)=>dB r.1) (λ r=>[.box 3 [I r.2.1],.box 3 [I r.2.2]]) (Apn x0 x1c0 x1c1):=
 fnJ Tryz.func259 [0,1,4]<|jb [0,1] λ y1=>jZ 25 [] [0,1]
instance k46s1 (x0:Af) (x1:Aa):Fk 46 [dO 0 0,.agg [I x1.Am,.os 1,.os 2,.os 3,I x1.Phase,I x1.Aq]] (.box 120 (B7 x0)::zs x1 []) (λ (r:As×Af)=>.agg [I r.1.Time,.os 4,.os 5,.os 6,.os 7,.os 8,.os 9]) (λ r=>(.box 120 (B7 r.2)::zs x1 (zp r.1.Power [v6_ r.1.Ba,v2_ r.1.Bh]))) (Y2 x0 x1):=
 fnJ Tryz.func46 [0,1,3,4,5,6,16]<|jC [⟨.flts [.box 68 [I 0,.p (.v (.slice none 0 0)),.p (.v (.slice none 0 0)),.p (.v (.slice none 0 0)),.p (.v (.slice none 0 0)),.p (.v (.slice none 0 0)),.p (.v (.slice none 0 0))]],trivial⟩]<|jb [0] λ y1=>jb n4_ λ y3=>jC [⟨.flt 6 (.box 68 [I 0,.p (.v (.slice none 0 0)),.p (.v (.slice none 0 0)),.p (.v (.slice none 0 0)),.p (.v (.slice none 0 0)),.p (.v (.slice none 0 0)),.p (.v (.slice none 0 0))]) (.box 68 [I 0,.p (.v (.slice none 0 0)),.p (.v (.slice none 0 0)),.p (.v (.slice none 0 0)),.p (.v (.slice none 0 0)),.p (.v (.slice none 0 0)),.p (.v (.slice none 0 0))]),rfl⟩]<|jW 28 [.ownb 5 1 4 1,.ownb 5 2 160 4,.ownb 5 3 3 1,.ownb 5 4 88 2,.ownb 5 5 141 2,.ownb 5 6 217 5,.ownb 6 5 141 2,.ownb 6 6 217 5] Axu [0,3,4,5,6] (kW λ z0=>[(6,dI z0.1)]) (uA λ z0=>[(0,.box 120 [DS pI z0.2.1,I z0.2.2.1]),(17,v6_ (Dx z0))]) (cA λ z0=>[(4,dO 4 0),(5,dO 5 0)]) (cA λ z0=>(.box 120 [DS pI z0.2.1,I z0.2.2.1]::zs x1 (.box 68 [I 0,.os 10,.os 11,.os 12,.os 13,.os 14,.os 15] :: .box 68 [I y1.1,.os 6,.os 7,.os 8,.os 9,.os 16,.os 17]::zp y3.1 (ze [v6_ ([]:List A9),v2_ ([]:List Bu),v6_ (Dx z0),v2_ ([]:List Bu)])))) (λ _ _ z0=>jI (λ h5=>jb [0] λ y6=>jb [0] λ y8=>jB λ y10 h11=>jC [⟨_,A8 Cs 2 (λ _=>rfl) h11⟩]<|jX 31 [] [0,1,2,3,4,5,6,7,8,9,10,11,12,13,14,15,16,19,18]) λ h5=>jY 26 [] [0,1,2,3,5,6,7,8,9,10,11,12,13,14,15,16,17,18]) λ z0=>jZ 23 [] [0,1,2,3,6,7,8,9,16,17]
end Go.Proofs.YtiaaaghdkhnonaaGreat
