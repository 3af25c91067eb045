import Derived.Test.YtpdbkiafikdgpaaGreatDoorM0
set_option linter.unusedVariables false
set_option maxHeartbeats 4000000
namespace Go.Proofs.YtpdbkiafikdgpaaGreatDoor
open Go.SL
def Hi:List Nat:=[0,1,2,3,4,6,16,17,18,19,28,29,44,71]
def Oc (x0:Aa) (n0:Nat) (z0:(List Int)×(List (List Int))):St:=[(1,dO 0 0),(2,dB false),(3,dS 1),(4,dS 2),(16,.d (DS q70 x0.Ad)),(17,dI (ln x0.Ad)),(18,dI (cnt 0 n0))]
def Tr (x0:Aa) (n0:Nat) (z0:(List Int)×(List (List Int))):List Res:=[.box 30 (d30 x0),v0_ z0.1,.dsl 22 1 3,.gh 1 [(3,1)] (z0.2.map (pL pI)) none]
def Ak3  (z0:(List Int)×(List (List Int))):St:=[(2,dB false),(3,dS 0),(4,dS 1)]
def Amk  (z0:(List Int)×(List (List Int))):List Res:=[v0_ z0.1,.dsl 22 1 2,.gh 1 [(3,1)] (z0.2.map (pL pI)) none]
theorem A7b (x0:Aa) (r:Bool) (h:Ajh x0=some r):CO 113 [.agg (d30 x0)] [] (.d (Bo r)) []:=by
 unfold Ajh at h
 refine co 116 Tryz.func113 λ C hC=>?_
 obtain⟨y1,h2,y3,h4,h⟩:=Bb h
 refine ws Hi 28 [] [⟨.flts [v0_ y1,.zsl 22 1 (y3.map (pL pI))],trivial⟩,pl q72 x0.Ac,⟨.fltm 1 (.room ((ln x0.Ac)*(8+1)) (List.replicate (Int.toNat (ln x0.Ac)) (pI 0)) (y1.map pI)) (v0_ y1) (v0_ y1),⟨Js h2,rfl⟩⟩,pl q81 x0.Ae,⟨.fltm 2 (.roomZ ((ln x0.Ae)*(24+1)) (List.replicate (Int.toNat (ln x0.Ae)) ((pL pI) ([]:List Int))) (y3.map (pL pI))) (.zsl 22 1 (y3.map (pL pI))) (.zsl 22 1 (y3.map (pL pI))),⟨Si h4,rfl⟩⟩,pl q70 x0.Ad] [.deep 2 [(3,1)]] 0 n4_ (Oc x0 0 (y1,y3)) (Tr x0 0 (y1,y3)) hC [] ?_
 obtain⟨w0,hm0,hret0,hnext0⟩:=Ar h
 clear h
 refine wc w0 (Ak3) (Amk) ?_ λ z0 hs0=>?_
 ·refine wb ?_
  refine Bv 16 rfl λ hl0=>?_
  refine wl (Oc x0) (Tr x0) hm0 (λ z0 hn0=>?_) λ n0 a0 z0 w0b hi0 hx0 h hb0 hr0=>?_
  ·clear hm0
   exact wx w0 (Ak3) (Amk) Hi 26 [false] [] [] 0 [1,2,3] _ hC [pq (Be hl0)] hn0
  ·unfold zL at h
   refine wn Hi 33 [true] [pt hx0 hl0,pc e91 (k91 a0.A 0 (w64 (x0.An-1)) _ rfl) []] [] 0 n5_ [1,2,3,4,6,16,17,18,28] hC [pq (A_ hi0 hl0)] ?_
   rcases cB h with⟨h5,h⟩ | ⟨h5,h⟩
   ·have hq:=hret0 _ (hr0 _ (sI h).symm)
    replace hq:=sI hq
    subst hq
    exact wr Hi 24 [true] [] [] 0 [] hC [pq h5]
   ·refine wn Hi 26 [false] [⟨.when [((a0.Kind==1),true)] (.call 91 [dI a0.B,dI (w64 (a0.A+1)),dI (w64 (x0.An-1))] [] (dB (F91 a0.B (w64 (a0.A+1)) (w64 (x0.An-1)))) [] []),λ hg=>⟨e91,(k91 a0.B (w64 (a0.A+1)) (w64 (x0.An-1)) _ rfl)⟩⟩] [] 0 n5_ [1,2,3,4,6,16,17,18,29] hC [pq h5] ?_
    rcases cB h with⟨h6,h⟩ | ⟨h6,h⟩
    ·exact wx w0b (Oc x0 (n0+1)) (Tr x0 (n0+1)) Hi 26 [true] [] [] 0 n4_ _ hC [pq h6] (sI h).symm
    ·obtain⟨y7,h8,h⟩:=Az h
     refine wn Hi 24 [false] [pL_ [((a0.Kind==2),true)] pI z0.1,⟨.when [((a0.Kind==2),true)] (.call 91 [dI a0.B,dI 0,dI (w64 ((ln z0.1)-1))] [] (.d (Bo (F91 a0.B 0 (w64 ((ln z0.1)-1))))) [] []),λ hg=>⟨e91,(k91 a0.B 0 (w64 ((ln z0.1)-1)) _ rfl)⟩⟩,pR pI h8,pN pI h8] [] 0 n5_ [1,2,3,4,6,16,17,18,44] hC [pq h6] ?_
     rcases cB h with⟨h9,h⟩ | ⟨h9,h⟩
     ·obtain⟨y10,h11,y12,h13,h⟩:=Bb h
      exact wx w0b (Oc x0 (n0+1)) (Tr x0 (n0+1)) Hi 26 [true] [pr pI h11,pn pI h11,pr pI h11,pu pI h11 h13] [] 0 n4_ _ hC [pq h9] (sI h).symm
     ·obtain⟨y14,h15,y16,h17,h⟩:=Bb h
      refine wn Hi 24 [false] [pL_ [((a0.Kind==3),true)] (pL pI) z0.2,⟨.when [((a0.Kind==3),true)] (.call 91 [dI a0.B,dI 0,dI (w64 ((ln z0.2)-1))] [] (.d (Bo (F91 a0.B 0 (w64 ((ln z0.2)-1))))) [] []),λ hg=>⟨e91,(k91 a0.B 0 (w64 ((ln z0.2)-1)) _ rfl)⟩⟩,pR (pL pI) h15,pN (pL pI) h15,⟨.when [(((a0.Kind==3)&&(F91 a0.B 0 (w64 ((ln z0.2)-1)))),true)] (.callB 152 [.d (DS pI y14),dI a0.A] (dB y16) (z0.2.map (pL pI)) (Int.toNat a0.B) ((pL pI) y14)),λ hg=>Awb ⟨Xs,(Xm y14 a0.A _ (Bf h17 hg))⟩ (Bf h15 hg)⟩] [] 0 n5_ [1,2,3,4,6,16,17,18,71] hC [pq h9] ?_
      rcases cB h with⟨h18,h⟩ | ⟨h18,h⟩
      ·obtain⟨y19,h20,y21,h22,y23,h24,h⟩:=B0 h
       exact wx w0b (Oc x0 (n0+1)) (Tr x0 (n0+1)) Hi 26 [true] [pr (pL pI) h20,pn (pL pI) h20,⟨.appD (z0.2.map (pL pI)) (Int.toNat a0.B) ((pL pI) y19) 0 (y19.map pI) ([a0.A].map pI) 1 (((y19.map pI).length+([a0.A].map pI).length)*(8+1)) (y21.map pI),Il 1 (λ _=>rfl) h20 rfl h22⟩,pr (pL pI) h20,⟨.updD (z0.2.map (pL pI)) (Int.toNat a0.B) (Int.toNat a0.B) ((pL pI) y19) ((pL pI) y21) (y23.map (pL pI)),Ic h20 h24⟩] [] 0 [0,1,2,8] _ hC [pq h18] (sI h).symm
      ·have hq:=hret0 _ (hr0 _ (sI h).symm)
       replace hq:=sI hq
       subst hq
       exact wr Hi 24 [false] [] [] 0 [] hC [pq h18]
 ·have h:=hnext0 _ hs0
  refine wn Hi 1 [] [] [.flat 1] 0 [0,1] [2,3,4] hC [] ?_
  obtain⟨y27,h28,y29,h30,h⟩:=Bb h
  replace h:=sI h
  subst h
  exact wr Hi 22 [] [pb Xs (Xm z0.1 0 _ h28),pv A3j (λ hg=>A14 z0.2 _ (Bf h30 hg))] [] 0 [] hC []
theorem A8c:EN 113:=en Tryz.func113
def Lt:List Nat:=[0,1,4,5,7,8,9,16]
def R6 (x0:List Af) (n0:Nat) (z0:Unit):St:=[(0,.d (DS q93 x0)),(1,.d (.fn (.func 89) [] [])),(4,dI 0),(7,dI (ln x0)),(8,dI (cnt 0 n0))]
def Yh  (n0:Nat) (z0:Unit):List Res:=[]
def Aaz  (z0:Unit):St:=[(4,dI 0)]
def Ab5  (z0:Unit):List Res:=[]
theorem A2i (x0:List Af) (r:Int) (h:uA x0=some r):CO 119 [.d (DS q93 x0),.d (.fn (.func 89) [] [])] [] (.d (I r)) []:=by
 unfold uA at h
 refine co 19 Tryz.func119 λ C hC=>?_
 refine ws Lt 26 [] [pl q93 x0] [] 0 [] (R6 x0 0 ()) (Yh 0 ()) hC [] ?_
 obtain⟨w0,hm0,hret0,hnext0⟩:=Ar h
 clear h
 refine wc w0 (Aaz) (Ab5) ?_ λ z0 hs0=>?_
 ·refine wb ?_
  refine Bv 0 rfl λ hl0=>?_
  refine wl (R6 x0) (Yh) hm0 (λ z0 hn0=>?_) λ n0 a0 z0 w0b hi0 hx0 h hb0 hr0=>?_
  ·clear hm0
   exact wx w0 (Aaz) (Ab5) Lt 26 [false] [] [] 0 [] _ hC [pq (Be hl0)] hn0
  ·unfold Acb at h
   refine wn Lt 32 [true] [pt hx0 hl0,pc e89 (k89 a0 _ rfl) []] [] 0 [] [0,1,4,5,7,8,16] hC [pq (A_ hi0 hl0)] ?_
   rcases cB h with⟨h1,h⟩ | ⟨h1,h⟩
   ·have hq:=hret0 _ (hr0 _ (sI h).symm)
    replace hq:=sI hq
    subst hq
    exact wr Lt 24 [true] [] [] 0 [] hC [pq h1]
   ·exact wx w0b (R6 x0 (n0+1)) (Yh (n0+1)) Lt 25 [false] [] [] 0 [] _ hC [pq h1] (sI h).symm
 ·have h:=hnext0 _ hs0
  replace h:=sI h
  subst h
  exact wr Lt 23 [] [] [] 0 [] hC []
theorem A3x:EN 119:=en Tryz.func119
theorem A46 (x0:List Aw) (x1c0c0:As) (r:Bool×As) (h:qL x0 x1c0c0=some r):CO 51 [.d (DS q84 x0),.d (.fn (.func 52) [] [.o 0 0])] [.box 111 [.fn (.func 48) [] [.o 1 0]],.box 43 (d43 x1c0c0)] (.d (Bo r.1)) [.box 111 [.fn (.func 48) [] [.o 1 0]],.box 43 (d43 r.2)]:=by
 unfold qL at h
 refine co 9 Tryz.func51 λ C hC=>?_
 obtain⟨y1,h2,h⟩:=Az h
 replace h:=sI h
 subst h
 exact wr [0,1,4] 25 [] [pc A5p (A44 x0 x1c0c0 _ h2) [0,1]] [] 2 [0,1] hC []
theorem A5r:EN 51:=en Tryz.func51
theorem Afu (x0:A1) (x1:Int) (r:Bool) (h:Jg x0 x1=some r):CO 175 [.d (.ip [.v (.int .i64 x0.Ak.An),.s (x0.Ak.Ad.map q70),.s (x0.Ak.Ac.map q72),.s (x0.Ak.Ae.map q81),.v (.int .i64 x0.Ak.Phase),.v (.int .i64 x0.Ak.Ap),.s (x0.Au.Ag.map pB),.s (x0.Au.Ac.map q93),.s (x0.Au.Aq.map pI),.s (x0.Au.Ao.map q96),.v (.int .i64 x0.time)]),.d (I x1)] [] (.d (Bo r)) []:=by
 unfold Jg at h
 refine co 19 Tryz.func175 λ C hC=>?_
 obtain⟨y1,h2,y3,h4,h⟩:=Bb h
 replace h:=sI h
 subst h
 exact wr [0,1,4] 25 [] [pc A7m (A6l x0.Ak x1 _ h2) [],pr pB h4] [] 0 [] hC []
theorem Agl:EN 175:=en Tryz.func175
theorem Z2 (x0:Int) (x1:Int) (x2:Ay) (r:Bool×Ay) (h:Kp x0 x1 x2=some r):CO 189 [.d (I x0),.d (I x1),.d (.o 0 0)] (.box 190 [.o 1 0] :: .box 214 (zb x2.Ak [.os 2,.os 3,.os 4,.os 5,.os 6])::zp x2.Au [v6_ x2.acts]) (.d (Bo r.1)) (.box 190 [.o 1 0] :: .box 214 (zb r.2.Ak [.os 2,.os 3,.os 4,.os 5,.os 6])::zp r.2.Au [v6_ r.2.acts]):=by
 unfold Kp at h
 refine co 13 Tryz.func189 λ C hC=>?_
 obtain⟨y1,h2,h⟩:=Az h
 replace h:=sI h
 subst h
 exact wr [0,1,2,5] 25 [] [pb Kx (Ku x2.Au x0 x1 _ h2)] [] 7 n7_ hC []
theorem jB:EN 189:=en Tryz.func189
def Iq:List Nat:=[0,1,2,3,8,9,14,34]
def Rn (x1:Int) (x2:Int) (z0:Int×(List Int)):St:=[(0,dS 0),(1,dI x1),(2,dI x2),(3,.d (.fn (.func 191) [] [.o 1 0])),(8,dI z0.1)]
def X8 (x3c0:Aa) (z0:Int×(List Int)):List Res:=[v0_ z0.2,.box 30 (d30 x3c0)]
def Aaf  (z0:Int×(List Int)):St:=[]
def Abl (x3c0:Aa) (z0:Int×(List Int)):List Res:=[v0_ z0.2,.box 30 (d30 x3c0)]
def Rm (x1:Int) (x2:Int) (z0:Int×(List Int)) (z1:Int×(List Int)):St:=[(0,dS 0),(1,dI x1),(2,dI x2),(3,.d (.fn (.func 191) [] [.o 1 0])),(8,dI z0.1),(9,dI z1.1)]
def X7 (x3c0:Aa) (z1:Int×(List Int)):List Res:=[v0_ z1.2,.box 30 (d30 x3c0)]
def Aae (x1:Int) (x2:Int) (z0:Int×(List Int)) (z1:Int×(List Int)):St:=[(0,dS 0),(1,dI x1),(2,dI x2),(3,.d (.fn (.func 191) [] [.o 1 0])),(8,dI z0.1)]
def Abk (x3c0:Aa) (z1:Int×(List Int)):List Res:=[v0_ z1.2,.box 30 (d30 x3c0)]
theorem Ar1 (x0:List Int) (x1:Int) (x2:Int) (x3c0:Aa) (r:(List Int)×Aa) (h:Tu x0 x1 x2 x3c0=some r):CO 213 [.d (.os 0),.d (I x1),.d (I x2),.d (.fn (.func 191) [] [.o 1 0])] [v0_ x0,.box 30 (d30 x3c0)] (.tup []) [v0_ r.1,.box 30 (d30 r.2)]:=by
 unfold Tu at h
 refine co 53 Tryz.func213 λ C hC=>?_
 refine ws Iq 23 [] [] [] 2 [0,1] (Rn x1 x2 (w64 (x1+1),x0)) (X8 x3c0 (w64 (x1+1),x0)) hC [] ?_
 obtain⟨w0,hm0,hret0,hnext0⟩:=Ar h
 clear h
 refine wc w0 (Aaf) (Abl x3c0) ?_ λ z0 hs0=>?_
 ·refine wb ?_
  refine ww (Rn x1 x2) (X8 x3c0) hm0 λ z0 w0b h hb0 hr0=>?_
  unfold Tt at h
  rcases cB h with⟨h1,h⟩ | ⟨h1,h⟩
  ·refine ws Iq 30 [true] [] [] 2 [0,1] (Rm x1 x2 z0 (z0.1,z0.2)) (X7 x3c0 (z0.1,z0.2)) hC [pq h1] ?_
   obtain⟨w1,hm1,hret1,hnext1⟩:=Ar h
   clear h
   refine wc w1 (Aae x1 x2 z0) (Abk x3c0) ?_ λ z1 hs1=>?_
   ·refine wb ?_
    refine ww (Rm x1 x2 z0) (X7 x3c0) hm1 λ z1 w1b h hb1 hr1=>?_
    unfold Nr at h
    obtain⟨y8,h9,y10,h11,y12,h13,h⟩:=B0 h
    refine wn Iq 24 [] [pR pI h9,pN pI h9,pR pI h11,pN pI h11,pv A20 (λ hg=>A1l y8 y10 x3c0 _ (Bf h13 hg))] [] 2 [0,1] [0,1,2,3,8,9,34] hC [] ?_
    rcases cB h with⟨h14,h⟩ | ⟨h14,h⟩
    ·obtain⟨y15,h16,y17,h18,y19,h20,h⟩:=B0 h
     obtain⟨y21,h22,y23,h24,h⟩:=Bb h
     exact wx w1b (Rm x1 x2 z0) (X7 x3c0) Iq 28 [true] [pr pI h16,pn pI h16,pr pI h18,pn pI h18,pr pI h18,pu pI h18 h20,pr pI h22,pu pI h22 h24] [] 2 [0,1] _ hC [pq h14] (sI h).symm
    ·exact wx w1 (Aae x1 x2 z0) (Abk x3c0) Iq 23 [false] [] [] 2 [0,1] (z1.1,z1.2) hC [pq h14] (hb1 _ (sI h).symm)
   ·have h:=hnext1 _ hs1
    exact wx w0b (Rn x1 x2) (X8 x3c0) Iq 23 [] [] [] 2 [0,1] _ hC [] (sI h).symm
  ·exact wx w0 (Aaf) (Abl x3c0) Iq 26 [false] [] [] 2 [0,1] (z0.1,z0.2) hC [pq h1] (hb0 _ (sI h).symm)
 ·have h:=hnext0 _ hs0
  replace h:=sI h
  subst h
  exact wf Iq 20 [] [] [] 2 [0,1] hC []
theorem Asu:EN 213:=en Tryz.func213
def Lk:List Nat:=[0,1,4,5,7,8,9,16]
def Rt (x0:List Int) (n0:Nat) (z0:Unit):St:=[(0,dS 0),(1,.d (.fn (.func 161) [] [.o 1 0])),(4,dI 0),(7,dI (ln x0)),(8,dI (cnt 0 n0))]
def X_ (x0:List Int) (x1c0:Ai) (n0:Nat) (z0:Unit):List Res:=[v0_ x0,.box 137 (H4 x1c0)]
def Aai  (z0:Unit):St:=[(4,dI 0)]
def Abo (x0:List Int) (x1c0:Ai) (z0:Unit):List Res:=[v0_ x0,.box 137 (H4 x1c0)]
theorem A1k (x0:List Int) (x1c0:Ai) (r:Int×Ai) (h:qR x0 x1c0=some r):CO 192 [.d (.os 0),.d (.fn (.func 161) [] [.o 1 0])] [v0_ x0,.box 137 (H4 x1c0)] (.d (I r.1)) [v0_ x0,.box 137 (H4 r.2)]:=by
 unfold qR at h
 refine co 19 Tryz.func192 λ C hC=>?_
 refine ws Lk 26 [] [pl pI x0] [] 2 [0,1] (Rt x0 0 ()) (X_ x0 x1c0 0 ()) hC [] ?_
 obtain⟨w0,hm0,hret0,hnext0⟩:=Ar h
 clear h
 refine wc w0 (Aai) (Abo x0 x1c0) ?_ λ z0 hs0=>?_
 ·refine wb ?_
  refine Cj 0 0 rfl rfl λ hl0=>?_
  refine wl (Rt x0) (X_ x0 x1c0) hm0 (λ z0 hn0=>?_) λ n0 a0 z0 w0b hi0 hx0 h hb0 hr0=>?_
  ·clear hm0
   exact wx w0 (Aai) (Abo x0 x1c0) Lk 26 [false] [] [] 2 [0,1] _ hC [pq (Be hl0)] hn0
  ·unfold Ns at h
   obtain⟨y1,h2,h⟩:=Az h
   refine wn Lk 32 [true] [pr pI (Bn hx0 hl0),pn pI (Bn hx0 hl0),pb Asx (Ar4 a0 x1c0 _ h2)] [] 2 [0,1] [0,1,4,5,7,8,16] hC [pq (A_ hi0 hl0)] ?_
   rcases cB h with⟨h3,h⟩ | ⟨h3,h⟩
   ·have hq:=hret0 _ (hr0 _ (sI h).symm)
    replace hq:=sI hq
    subst hq
    exact wr Lk 24 [true] [] [] 2 [0,1] hC [pq h3]
   ·exact wx w0b (Rt x0 (n0+1)) (X_ x0 x1c0 (n0+1)) Lk 25 [false] [] [] 2 [0,1] _ hC [pq h3] (sI h).symm
 ·have h:=hnext0 _ hs0
  replace h:=sI h
  subst h
  exact wr Lk 23 [] [] [] 2 [0,1] hC []
theorem A2z:EN 192:=en Tryz.func192
theorem A7d (x0:Int) (r:(List Aw)) (h:Ob x0=some r):CO 105 [.d (I x0)] [] (.d (.os 0)) [v5_ r]:=by
 unfold Ob at h
 refine co 7 Tryz.func105 λ C hC=>?_
 obtain⟨y1,h2,h⟩:=Az h
 replace h:=sI h
 subst h
 exact wr [0,2] 25 [] [pc A77 (A66 [(⟨(-1),(-1)⟩:Aw)] x0 _ h2) []] [] 0 [0] hC []
theorem A8e:EN 105:=en Tryz.func105
theorem A6t (x0:Aa) (x1:Ab) (x2:Ai) (x3:Int) (r:Bool) (h:Ai6 x0 x1 x2 x3=some r):CO 169 [.agg (d30 x0),.agg (d39 x1),.agg (H4 x2),.d (I x3)] [] (.d (Bo r)) []:=by
 unfold Ai6 at h
 refine co 58 Tryz.func169 λ C hC=>?_
 obtain⟨y1,h2,y3,h4,y5,h6,y7,h8,h⟩:=Cr h
 obtain⟨y9,h10,y11,h12,y13,h14,y15,h16,h⟩:=Cr h
 replace h:=sI h
 subst h
 exact wr [0,1,2,3,4,5,6,8,9,10,11] 31 [] [pc An4 (Ann x0 x3 _ h2) [],pr q70 h4,pc Kx (Ku x1 1 x3 _ h6) [],pw Kx (λ hg=>Ku x1 2 y1 _ (Bf h8 hg)) [],pw Kx (λ hg=>Ku x1 3 y3.A _ (Bf h10 hg)) [],pw Xs (λ hg=>Xm x2.An y3.A _ (Bf h12 hg)) [],pw Xs (λ hg=>Xm x2.Ac x3 _ (Bf h14 hg)) [],pR q93 h16] [] 0 [] hC []
theorem A7u:EN 169:=en Tryz.func169
def Fu:List Nat:=[0,2,3,4,5,6,7,8,9,10,11,24,29,47,60,96,121,155]
def Za  (z0:Sg3):St:=[(0,dO 0 0),(2,dO 1 0),(3,dO 2 0),(4,dI z0.1)]
def Ac6 (y1:Int×Ah) (y3:Int×Ah) (y5:Int×Ah) (z0:Sg3):List Res:=[.box 77 [DS pI z0.2.1,I z0.2.2.1],.box 30 [I 0,.os 3,.os 4,.os 5,I 0,I 0],.box 30 [I y1.1,.os 6,.os 7,.os 8,I y3.1,I y5.1],v9_ ([]:List Aj),Hz ([]:List Bg),Hy ([]:List A5),v9_ (Ef z0),Hz ([]:List Bg),Hy ([]:List A5)]
def Arj  (z0:Sg3):St:=[(0,dO 0 0),(2,dO 1 0),(3,dO 2 0)]
def Au2 (y1:Int×Ah) (y3:Int×Ah) (y5:Int×Ah) (z0:Sg3):List Res:=[.box 77 [DS pI z0.2.1,I z0.2.2.1],.box 30 [I 0,.os 3,.os 4,.os 5,I 0,I 0],.box 30 [I y1.1,.os 6,.os 7,.os 8,I y3.1,I y5.1],v9_ ([]:List Aj),Hz ([]:List Bg),Hy ([]:List A5),v9_ (Ef z0),Hz ([]:List Bg),Hy ([]:List A5)]
def Ae1  (z1:(List Aj)):St:=[(0,dO 0 0),(2,dO 1 0),(3,dO 2 0)]
def Ahr (y1:Int×Ah) (y3:Int×Ah) (y5:Int×Ah) (y15:Int×Ah) (z1:(List Aj)):List Res:=[.box 77 (d77 y15.2),.box 30 [I 0,.os 3,.os 4,.os 5,I 0,I 0],.box 30 [I y1.1,.os 6,.os 7,.os 8,I y3.1,I y5.1],v9_ ([]:List Aj),Hz ([]:List Bg),Hy ([]:List A5),v9_ z1,Hz ([]:List Bg),Hy ([]:List A5)]
def Aed  (z2:Sg5):St:=[(0,dO 0 0),(2,dO 1 0),(3,dO 2 0),(5,dI z2.1)]
def Apk (y1:Int×Ah) (y3:Int×Ah) (y5:Int×Ah) (z2:Sg5):List Res:=[.box 77 [DS pI z2.2.1,I z2.2.2.1],.box 30 [I 0,.os 3,.os 4,.os 5,I 0,I 0],.box 30 [I y1.1,.os 6,.os 7,.os 8,I y3.1,I y5.1],v9_ ([]:List Aj),Hz ([]:List Bg),Hy ([]:List A5),v9_ (g3_ z2),Hz (Ih z2),Hy ([]:List A5)]
def Ari  (z2:Sg5):St:=[(0,dO 0 0),(2,dO 1 0),(3,dO 2 0)]
def Au1 (y1:Int×Ah) (y3:Int×Ah) (y5:Int×Ah) (z2:Sg5):List Res:=[.box 77 [DS pI z2.2.1,I z2.2.2.1],.box 30 [I 0,.os 3,.os 4,.os 5,I 0,I 0],.box 30 [I y1.1,.os 6,.os 7,.os 8,I y3.1,I y5.1],v9_ ([]:List Aj),Hz ([]:List Bg),Hy ([]:List A5),v9_ (g3_ z2),Hz (Ih z2),Hy ([]:List A5)]
def Y_  (z3:Sg4):St:=[(0,dO 0 0),(2,dO 1 0),(3,dO 2 0),(7,dI z3.1)]
def Ac5 (y1:Int×Ah) (y3:Int×Ah) (y5:Int×Ah) (z2:Sg5) (z3:Sg4):List Res:=[.box 77 [DS pI z3.2.1,I z3.2.2.1],.box 30 [I 0,.os 3,.os 4,.os 5,I 0,I 0],.box 30 [I y1.1,.os 6,.os 7,.os 8,I y3.1,I y5.1],v9_ ([]:List Aj),Hz ([]:List Bg),Hy ([]:List A5),v9_ (g3_ z3),Hz (Ih z2),Hy (Ih z3)]
def Arh  (z3:Sg4):St:=[(2,dO 1 0),(3,dO 2 0)]
def Au0 (y1:Int×Ah) (y3:Int×Ah) (y5:Int×Ah) (z2:Sg5) (z3:Sg4):List Res:=[.box 77 [DS pI z3.2.1,I z3.2.2.1],.box 30 [I 0,.os 3,.os 4,.os 5,I 0,I 0],.box 30 [I y1.1,.os 6,.os 7,.os 8,I y3.1,I y5.1],v9_ ([]:List Aj),Hz ([]:List Bg),Hy ([]:List A5),v9_ (g3_ z3),Hz (Ih z2),Hy (Ih z3)]
def Ae0 (z3:Sg4) (z4:(List Aj)):St:=[(0,dO 0 0),(2,dO 1 0),(3,dO 2 0),(7,dI z3.1),(8,dI (ln (Ih z3)))]
def Ahq (y1:Int×Ah) (y3:Int×Ah) (y5:Int×Ah) (z2:Sg5) (z3:Sg4) (y42:Int×Ah) (z4:(List Aj)):List Res:=[.box 77 (d77 y42.2),.box 30 [I 0,.os 3,.os 4,.os 5,I 0,I 0],.box 30 [I y1.1,.os 8,.os 6,.os 7,I y3.1,I y5.1],v9_ ([]:List Aj),Hz ([]:List Bg),Hy ([]:List A5),Hz (Ih z2),Hy (Ih z3),v9_ z4]
set_option maxHeartbeats 4000000 in
theorem k10 (x0 : Ah) (r : Aa × Ah) (h : F10 x0 = some r) : CO 10 [.d (.o 0 0)] [.box 77 (d77 x0)] (.agg [I r.1.An, .os 1, .os 2, .os 3, I r.1.Phase, I r.1.Ap]) (.box 77 (d77 r.2) :: zs r.1 []) := by
 unfold F10 at h
 refine co 168 Tryz.func10 λ C hC=>?_
 obtain⟨y1,h2,y3,h4,y5,h6,h⟩:=B0 h
 refine ws Fu 28 [] [pc e26 (k26 x0 1 4 _ h2) [0],pc e27 (k27 y1.2 [0,50,200,1800] _ h4) [0],pc e27 (k27 y3.2 [0,10,50] _ h6) [0]] [.ownb 1 1 70 3,.ownb 1 2 72 3,.ownb 1 3 81 5,.ownb 2 1 70 3,.ownb 2 2 72 3,.ownb 2 3 81 5] 1 n9_ (Za (1,y5.2.L,y5.2.At,([]:List Aj))) (Ac6 y1 y3 y5 (1,y5.2.L,y5.2.At,([]:List Aj))) hC [] ?_
 obtain⟨w0,hm0,hret0,hnext0⟩:=Ar h
 clear h
 refine wc w0 (Arj) (Au2 y1 y3 y5) ?_ λ z0 hs0=>?_
 ·refine wb ?_
  refine ww (Za) (Ac6 y1 y3 y5) hm0 λ z0 w0b h hb0 hr0=>?_
  unfold uD at h
  rcases cB h with⟨h7,h⟩ | ⟨h7,h⟩
  ·obtain⟨y8,h9,h⟩:=Az h
   rcases cB h with⟨h10,h⟩ | ⟨h10,h⟩
   ·obtain⟨y11,h12,y13,h14,h⟩:=Bb h
    exact wx w0b (Za) (Ac6 y1 y3 y5) Fu 34 [true,true] [pc e19 (k19 (⟨z0.2.1,z0.2.2.1⟩:Ah) 6 _ h9) [0],pc e19 (k19 y8.2 z0.1 _ h12) [0],pa q70 3 h14] [] 1 [0,1,2,3,4,5,9,7,8] _ hC [pq h7,pq h10] (sI h).symm
   ·exact wx w0b (Za) (Ac6 y1 y3 y5) Fu 34 [true,false] [pc e19 (k19 (⟨z0.2.1,z0.2.2.1⟩:Ah) 6 _ h9) [0]] [] 1 n9_ _ hC [pq h7,pq h10] (sI h).symm
  ·exact wx w0 (Arj) (Au2 y1 y3 y5) Fu 26 [false] [] [] 1 n9_ (z0.1,z0.2.1,z0.2.2.1,(Ef z0)) hC [pq h7] (hb0 _ (sI h).symm)
 ·have h := hnext0 _ hs0
  obtain⟨y15,h16,h⟩:=Az h
  refine wn Fu 24 [] [⟨.whenR [(decide (y1.1>2),true)] (.call 19 [dO 0 0,dI 2] [.box 77 [DS pI z0.2.1,I z0.2.2.1]] (dI y15.1) [.box 77 (d77 y15.2)] [0]),⟨λ hg=>⟨e19,(k19 (⟨z0.2.1,z0.2.2.1⟩:Ah) 2 _ (Bf h16 hg))⟩,λ hg=>by have e:=Hq h16 hg;subst e;rfl⟩⟩] [] 1 n9_ [0,2,3,47] hC [] ?_
  obtain⟨w1,h,hret1,hnext1⟩:=Ar h
  refine wc w1 (Ae1) (Ahr y1 y3 y5 y15) ?_ λ z1 hs1=>?_
  ·unfold Ajk at h
   rcases cB h with⟨h17,h⟩ | ⟨h17,h⟩
   ·obtain⟨y18,h19,h⟩:=Az h
    exact wx w1 (Ae1) (Ahr y1 y3 y5 y15) Fu 23 [true] [pa q70 3 h19] [] 1 [0,1,2,3,4,5,9,7,8] _ hC [pq h17] (sI h).symm
   ·exact wx w1 (Ae1) (Ahr y1 y3 y5 y15) Fu 23 [false] [] [] 1 n9_ _ hC [pq h17] (sI h).symm
  ·clear h;have h:=hnext1 _ hs1
   obtain⟨y20,h21,h⟩:=Az h
   refine ws Fu 24 [] [pc e19 (k19 y15.2 5 _ h21) [0]] [] 1 n9_ (Aed (y20.1,y20.2.L,y20.2.At,z1,([]:List Bg))) (Apk y1 y3 y5 (y20.1,y20.2.L,y20.2.At,z1,([]:List Bg))) hC [] ?_
   obtain⟨w2,hm2,hret2,hnext2⟩:=Ar h
   clear h
   refine wc w2 (Ari) (Au1 y1 y3 y5) ?_ λ z2 hs2=>?_
   ·refine wb ?_
    refine ww (Aed) (Apk y1 y3 y5) hm2 λ z2 w2b h hb2 hr2=>?_
    unfold uC at h
    rcases cB h with⟨h22,h⟩ | ⟨h22,h⟩
    ·obtain⟨y23,h24,y25,h26,y27,h28,y29,h30,h⟩:=Cr h
     obtain⟨y31,h32,y33,h34,h⟩:=Bb h
     exact wx w2b (Aed) (Apk y1 y3 y5) Fu 35 [true] [pc e19 (k19 (⟨z2.2.1,z2.2.2.1⟩:Ah) y1.1 _ h24) [0],pl q72 (Ih z2),pa q70 3 h26,pc e27 (k27 y23.2 [10,50,100] _ h28) [0],pc e27 (k27 y27.2 [0,5,y27.1] _ h30) [0],pc e27 (k27 y29.2 [0,1,3] _ h32) [0],pa q72 3 h34] [] 1 [0,1,2,3,4,5,9,10,8] _ hC [pq h22] (sI h).symm
    ·exact wx w2 (Ari) (Au1 y1 y3 y5) Fu 26 [false] [] [] 1 n9_ (z2.1,z2.2.1,z2.2.2.1,(g3_ z2),(Ih z2)) hC [pq h22] (hb2 _ (sI h).symm)
   ·have h:=hnext2 _ hs2
    obtain⟨y35,h36,h⟩:=Az h
    refine ws Fu 24 [] [pc e19 (k19 (⟨z2.2.1,z2.2.2.1⟩:Ah) 6 _ h36) [0]] [] 1 n9_ (Y_ (y35.1,y35.2.L,y35.2.At,(g3_ z2),([]:List A5))) (Ac5 y1 y3 y5 z2 (y35.1,y35.2.L,y35.2.At,(g3_ z2),([]:List A5))) hC [] ?_
    obtain⟨w3,hm3,hret3,hnext3⟩:=Ar h
    clear h
    refine wc w3 (Arh) (Au0 y1 y3 y5 z2) ?_ λ z3 hs3=>?_
    ·refine wb ?_
     refine ww (Y_) (Ac5 y1 y3 y5 z2) hm3 λ z3 w3b h hb3 hr3=>?_
     unfold uB at h
     rcases cB h with⟨h37,h⟩ | ⟨h37,h⟩
     ·obtain⟨y38,h39,y40,h41,y42,h43,h⟩:=B0 h
      refine wn Fu 37 [true] [pl q81 (Ih z3),pc e19 (k19 (⟨z3.2.1,z3.2.2.1⟩:Ah) y1.1 _ h39) [0],pa q70 3 h41,⟨.whenR [(decide (y1.1>1),true)] (.call 19 [dO 0 0,dI 4] [.box 77 (d77 y38.2)] (dI y42.1) [.box 77 (d77 y42.2)] [0]),⟨λ hg=>⟨e19,(k19 y38.2 4 _ (Bf h43 hg))⟩,λ hg=>by have e:=Hq h43 hg;subst e;rfl⟩⟩] [] 1 [0,1,2,3,4,5,7,8,9] [0,2,3,7,8,9,121] hC [pq h37] ?_
      obtain⟨w4,h,hret4,hnext4⟩:=Ar h
      refine wc w4 (Ae0 z3) (Ahq y1 y3 y5 z2 z3 y42) ?_ λ z4 hs4=>?_
      ·unfold Ajj at h
       rcases cB h with⟨h44,h⟩ | ⟨h44,h⟩
       ·obtain⟨u46,h45,y47,h48,h⟩:=Bb h
        exact wx w4 (Ae0 z3) (Ahq y1 y3 y5 z2 z3 y42) Fu 23 [true] [⟨.nz y1.1,Aff h45⟩,pa q70 3 h48] [] 1 [0,1,2,3,4,5,6,7,9] _ hC [pq h44] (sI h).symm
       ·exact wx w4 (Ae0 z3) (Ahq y1 y3 y5 z2 z3 y42) Fu 23 [false] [] [] 1 n9_ _ hC [pq h44] (sI h).symm
      ·clear h;have h:=hnext4 _ hs4
       obtain⟨y49,h50,y51,h52,y53,h54,h⟩:=B0 h
       obtain⟨y55,h56,y57,h58,h⟩:=Bb h
       refine wn Fu 28 [] [pc e27 (k27 y42.2 [0,5,20,40] _ h50) [0],⟨.nz 2,Zj rfl⟩,pc e27 (k27 y49.2 [0,w64 (Int.tdiv y49.1 2),y49.1] _ h52) [0],pc e19 (k19 y51.2 3 _ h54) [0],pc e26 (k26 y53.2 (-1) 2 _ h56) [0],⟨.whenR [(decide ((ln (Ih z3))>0),true)] (.call 19 [dO 0 0,dI 4] [.box 77 (d77 y55.2)] (dI y57.1) [.box 77 (d77 y57.2)] [0]),⟨λ hg=>⟨e19,(k19 y55.2 4 _ (Bf h58 hg))⟩,λ hg=>by have e:=Hq h58 hg;subst e;rfl⟩⟩] [.ownb 9 4 3 1] 1 Anc [0,2,3,7,8,11,155] hC [] ?_
       rcases cB h with⟨h59,h⟩ | ⟨h59,h⟩
       ·obtain⟨y60,h61,y62,h63,h⟩:=Bb h
        exact wx w3b (Y_) (Ac5 y1 y3 y5 z2) Fu 26 [true] [pc e19 (k19 y57.2 (ln (Ih z3)) _ h61) [0],pa q81 5 h63] [] 1 [0,1,2,3,4,5,8,6,11] _ hC [pq h59] (sI h).symm
       ·refine wn Fu 2 [false] [] [.frz 10] 1 Gs [0,2,3,7,11] hC [pq h59] ?_
        obtain⟨y64,h65,h⟩:=Az h
        exact wx w3b (Y_) (Ac5 y1 y3 y5 z2) Fu 24 [] [pa q81 5 h65] [] 1 [0,1,2,3,4,5,8,6,10] _ hC [] (sI h).symm
     ·exact wx w3 (Arh) (Au0 y1 y3 y5 z2) Fu 26 [false] [] [] 1 n9_ (z3.1,z3.2.1,z3.2.2.1,(g3_ z3),(Ih z3)) hC [pq h37] (hb3 _ (sI h).symm)
    ·have h:=hnext3 _ hs3
     replace h:=sI h
     subst h
     exact wr Fu 23 [] [] [] 1 [0,6,7,8] hC []
theorem e10:EN 10:=en Tryz.func10
theorem k11 (x0:Ah) (r:A2×Ah) (h:F11 x0=some r):CO 11 [.d (.o 0 0)] [.box 77 (d77 x0)] (.agg (d33 r.1)) [.box 77 (d77 r.2)]:=by
 unfold F11 at h
 refine co 13 Tryz.func11 λ C hC=>?_
 obtain⟨y1,h2,y3,h4,y5,h6,h⟩:=B0 h
 replace h:=sI h
 subst h
 exact wr [0,2] 25 [] [pc e27 (k27 x0 [60,80,100] _ h2) [0],pc e27 (k27 y1.2 [1,30,50] _ h4) [0],pc e27 (k27 y3.2 [0,1,3] _ h6) [0]] [] 1 [0] hC []
theorem e11:EN 11:=en Tryz.func11
def Cp:List Nat:=[0,1,3,4,5,6,7,8,9,11,12,13,16,17,18,30,31,32,35,36,37,38,57,67,68,69,89,90,91,92,114,119,126]
def Wy (x1:Aa) (z0:Int×(List Int)×Int×(List Bool)):St:=[(0,dO 0 0),(3,dO 4 0),(4,dO 5 0),(5,dO 6 0),(16,dI (ln x1.Ad)),(17,dI z0.1)]
def yT (x1:Aa) (z0:Int×(List Int)×Int×(List Bool)):List Res:=(.box 77 [DS pI z0.2.1,I z0.2.2.1]::zs x1 (.box 30 [I x1.An,.os 1,.os 2,.os 3,I x1.Phase,I x1.Ap] :: .box 39 [.os 7,.os 8,.os 9,.os 10] :: .box 39 [.os 11,.os 12,.os 13,.os 14]::ze [v2_ (Ef z0),v4_ ([]:List Af),v0_ ([]:List Int),v3_ ([]:List Al)]))
def Aew  (z0:Int×(List Int)×Int×(List Bool)):St:=[(0,dO 0 0),(3,dO 4 0),(4,dO 5 0),(5,dO 6 0)]
def Ahm (x1:Aa) (z0:Int×(List Int)×Int×(List Bool)):List Res:=(.box 77 [DS pI z0.2.1,I z0.2.2.1]::zs x1 (.box 30 [I x1.An,.os 1,.os 2,.os 3,I x1.Phase,I x1.Ap] :: .box 39 [.os 7,.os 8,.os 9,.os 10] :: .box 39 [.os 11,.os 12,.os 13,.os 14]::ze [v2_ (Ef z0),v4_ ([]:List Af),v0_ ([]:List Int),v3_ ([]:List Al)]))
def Wx (x1:Aa) (z1:Int×(List Bool)):St:=[(0,dO 0 0),(3,dO 4 0),(4,dO 5 0),(5,dO 6 0),(30,dI (ln x1.Ae)),(31,dI z1.1)]
def yS (x1:Aa) (z0:Int×(List Int)×Int×(List Bool)) (z1:Int×(List Bool)):List Res:=(.box 77 [DS pI z0.2.1,I z0.2.2.1]::zs x1 (.box 30 [I x1.An,.os 1,.os 2,.os 3,I x1.Phase,I x1.Ap] :: .box 39 [.os 7,.os 8,.os 9,.os 10] :: .box 39 [.os 11,.os 12,.os 13,.os 14]::ze [v2_ z1.2,v4_ ([]:List Af),v0_ ([]:List Int),v3_ ([]:List Al)]))
def Aev  (z1:Int×(List Bool)):St:=[(0,dO 0 0),(3,dO 4 0),(4,dO 5 0),(5,dO 6 0)]
def Ahl (x1:Aa) (z0:Int×(List Int)×Int×(List Bool)) (z1:Int×(List Bool)):List Res:=(.box 77 [DS pI z0.2.1,I z0.2.2.1]::zs x1 (.box 30 [I x1.An,.os 1,.os 2,.os 3,I x1.Phase,I x1.Ap] :: .box 39 [.os 7,.os 8,.os 9,.os 10] :: .box 39 [.os 11,.os 12,.os 13,.os 14]::ze [v2_ z1.2,v4_ ([]:List Af),v0_ ([]:List Int),v3_ ([]:List Al)]))
def Pm (x1:Aa) (z1:Int×(List Bool)) (n2:Nat) (z2:Bool×(List Bool)):St:=[(0,dO 0 0),(3,dO 4 0),(4,dO 5 0),(5,dO 6 0),(6,dI z1.1),(7,dB z2.1),(30,dI (ln x1.Ae)),(31,dI z1.1),(35,dS 1),(36,dI (ln x1.Ad)),(37,dI (cnt 0 n2))]
def Vx (x1:Aa) (z0:Int×(List Int)×Int×(List Bool)) (n2:Nat) (z2:Bool×(List Bool)):List Res:=(.box 77 [DS pI z0.2.1,I z0.2.2.1]::zs x1 (.box 30 [I x1.An,.os 1,.os 2,.os 3,I x1.Phase,I x1.Ap] :: .box 39 [.os 7,.os 8,.os 9,.os 10] :: .box 39 [.os 11,.os 12,.os 13,.os 14]::ze [v2_ z2.2,v4_ ([]:List Af),v0_ ([]:List Int),v3_ ([]:List Al)]))
def Aeu (x1:Aa) (z1:Int×(List Bool)) (z2:Bool×(List Bool)):St:=[(0,dO 0 0),(3,dO 4 0),(4,dO 5 0),(5,dO 6 0),(30,dI (ln x1.Ae)),(31,dI z1.1)]
def Ahk (x1:Aa) (z0:Int×(List Int)×Int×(List Bool)) (z2:Bool×(List Bool)):List Res:=(.box 77 [DS pI z0.2.1,I z0.2.2.1]::zs x1 (.box 30 [I x1.An,.os 1,.os 2,.os 3,I x1.Phase,I x1.Ap] :: .box 39 [.os 7,.os 8,.os 9,.os 10] :: .box 39 [.os 11,.os 12,.os 13,.os 14]::ze [v2_ z2.2,v4_ ([]:List Af),v0_ ([]:List Int),v3_ ([]:List Al)]))
def Ww (x1:Aa) (z3:Sg7):St:=[(0,dO 0 0),(3,dO 4 0),(4,dO 5 0),(5,dO 6 0),(67,dI (ln x1.Ac)),(68,dI z3.1)]
def yR (x1:Aa) (z1:Int×(List Bool)) (z3:Sg7):List Res:=(.box 77 [DS pI z3.2.1,I z3.2.2.1]::zs x1 (.box 30 [I x1.An,.os 1,.os 2,.os 3,I x1.Phase,I x1.Ap] :: .box 39 [.os 7,.os 8,.os 9,.os 10] :: .box 39 [.os 11,.os 12,.os 13,.os 14]::ze [v2_ z1.2,v4_ (Ef z3),v0_ ([]:List Int),v3_ ([]:List Al)]))
def Aet  (z3:Sg7):St:=[(0,dO 0 0),(3,dO 4 0),(4,dO 5 0),(5,dO 6 0)]
def Ahj (x1:Aa) (z1:Int×(List Bool)) (z3:Sg7):List Res:=(.box 77 [DS pI z3.2.1,I z3.2.2.1]::zs x1 (.box 30 [I x1.An,.os 1,.os 2,.os 3,I x1.Phase,I x1.Ap] :: .box 39 [.os 7,.os 8,.os 9,.os 10] :: .box 39 [.os 11,.os 12,.os 13,.os 14]::ze [v2_ z1.2,v4_ (Ef z3),v0_ ([]:List Int),v3_ ([]:List Al)]))
def Wv (x1:Aa) (n4:Nat) (z4:(List Int)×Int×(List Int)):St:=[(0,dO 0 0),(3,dO 4 0),(4,dO 5 0),(5,dO 6 0),(89,dS 3),(90,dI (ln x1.Ae)),(91,dI (cnt 0 n4))]
def yQ (x1:Aa) (z1:Int×(List Bool)) (z3:Sg7) (n4:Nat) (z4:(List Int)×Int×(List Int)):List Res:=(.box 77 [DS pI z4.1,I z4.2.1]::zs x1 (.box 30 [I x1.An,.os 1,.os 2,.os 3,I x1.Phase,I x1.Ap] :: .box 39 [.os 7,.os 8,.os 9,.os 10] :: .box 39 [.os 11,.os 12,.os 13,.os 14]::ze [v2_ z1.2,v4_ (Ef z3),v0_ z4.2.2,v3_ ([]:List Al)]))
def Aes  (z4:(List Int)×Int×(List Int)):St:=[(0,dO 0 0),(3,dO 4 0),(4,dO 5 0),(5,dO 6 0)]
def Ahi (x1:Aa) (z1:Int×(List Bool)) (z3:Sg7) (z4:(List Int)×Int×(List Int)):List Res:=(.box 77 [DS pI z4.1,I z4.2.1]::zs x1 (.box 30 [I x1.An,.os 1,.os 2,.os 3,I x1.Phase,I x1.Ap] :: .box 39 [.os 7,.os 8,.os 9,.os 10] :: .box 39 [.os 11,.os 12,.os 13,.os 14]::ze [v2_ z1.2,v4_ (Ef z3),v0_ z4.2.2,v3_ ([]:List Al)]))
def Ly  (z5:Int×(List Int)×Int×(List Al)):St:=[(0,dO 0 0),(3,dO 4 0),(4,dO 5 0),(5,dO 6 0),(12,dI z5.1)]
def O1 (x1:Aa) (z1:Int×(List Bool)) (z3:Sg7) (z4:(List Int)×Int×(List Int)) (z5:Int×(List Int)×Int×(List Al)):List Res:=(.box 77 [DS pI z5.2.1,I z5.2.2.1]::zs x1 (.box 30 [I x1.An,.os 1,.os 2,.os 3,I x1.Phase,I x1.Ap] :: .box 39 [.os 7,.os 8,.os 9,.os 10] :: .box 39 [.os 11,.os 12,.os 13,.os 14]::ze [v2_ z1.2,v4_ (Ef z3),v0_ z4.2.2,v3_ (Ef z5)]))
def Aer  (z5:Int×(List Int)×Int×(List Al)):St:=[(4,dO 4 0),(5,dO 5 0)]
def Ahh (x1:Aa) (z1:Int×(List Bool)) (z3:Sg7) (z4:(List Int)×Int×(List Int)) (z5:Int×(List Int)×Int×(List Al)):List Res:=(.box 77 [DS pI z5.2.1,I z5.2.2.1]::zs x1 (.box 39 [.os 6,.os 7,.os 8,.os 9] :: .box 39 [.os 10,.os 11,.os 12,.os 13]::ze [v2_ z1.2,v4_ (Ef z3),v0_ z4.2.2,v3_ (Ef z5)]))
set_option maxHeartbeats 4000000 in
theorem A47 (x0 : Ah) (x1 : Aa) (r : Ab × Ah) (h : V1 x0 x1 = some r) : CO 46 [.d (.o 0 0), .agg [I x1.An, .os 1, .os 2, .os 3, I x1.Phase, I x1.Ap]] (.box 77 (d77 x0) :: zs x1 []) (.agg [.os 4, .os 5, .os 6, .os 7]) (.box 77 (d77 r.2) :: zs x1 (zp r.1 [])) := by
 unfold V1 at h
 refine co 134 Tryz.func46 λ C hC=>?_
 refine ws Cp 28 [] [pl q70 x1.Ad] [.ownb 5 0 4 1,.ownb 5 1 93 4,.ownb 5 2 3 1,.ownb 5 3 96 2,.ownb 6 0 4 1,.ownb 6 1 93 4,.ownb 6 2 3 1,.ownb 6 3 96 2] 4 Ed (Wy x1 (0,x0.L,x0.At,([]:List Bool))) (yT x1 (0,x0.L,x0.At,([]:List Bool))) hC [] ?_
 obtain⟨w0,hm0,hret0,hnext0⟩:=Ar h
 clear h
 refine wc w0 (Aew) (Ahm x1) ?_ λ z0 hs0=>?_
 ·refine wb ?_
  refine ww (Wy x1) (yT x1) hm0 λ z0 w0b h hb0 hr0=>?_
  unfold Q4 at h
  rcases cB h with⟨h1,h⟩ | ⟨h1,h⟩
  ·obtain⟨y2,h3,y4,h5,h⟩:=Bb h
   exact wx w0b (Wy x1) (yT x1) Cp 31 [true] [pc e19 (k19 (⟨z0.2.1,z0.2.2.1⟩:Ah) 2 _ h3) [0],pa pB 1 h5] [] 4 [0,1,2,3,4,5,6,7,8,9,10,15,12,13,14] _ hC [pq h1] (sI h).symm
  ·exact wx w0 (Aew) (Ahm x1) Cp 26 [false] [] [] 4 Ed (z0.1,z0.2.1,z0.2.2.1,(Ef z0)) hC [pq h1] (hb0 _ (sI h).symm)
 ·have h := hnext0 _ hs0
  refine ws Cp 24 [] [pl q81 x1.Ae] [] 4 Ed (Wx x1 (0,(Ef z0))) (yS x1 z0 (0,(Ef z0))) hC [] ?_
  obtain⟨w1,hm1,hret1,hnext1⟩:=Ar h
  clear h
  refine wc w1 (Aev) (Ahl x1 z0) ?_ λ z1 hs1=>?_
  ·refine wb ?_
   refine ww (Wx x1) (yS x1 z0) hm1 λ z1 w1b h hb1 hr1=>?_
   unfold Q3 at h
   rcases cB h with⟨h6,h⟩ | ⟨h6,h⟩
   ·refine ws Cp 34 [true] [pl q70 x1.Ad] [] 4 Ed (Pm x1 z1 0 (true,z1.2)) (Vx x1 z0 0 (true,z1.2)) hC [pq h6] ?_
    obtain⟨w2,hm2,hret2,hnext2⟩:=Ar h
    clear h
    refine wc w2 (Aeu x1 z1) (Ahk x1 z0) ?_ λ z2 hs2=>?_
    ·refine wb ?_
     refine Cj 35 1 rfl rfl λ hl2=>?_
     refine wl (Pm x1 z1) (Vx x1 z0) hm2 (λ z2 hn2=>?_) λ n2 a2 z2 w2b hi2 hx2 h hb2 hr2=>?_
     ·clear hm2
      exact wx w2 (Aeu x1 z1) (Ahk x1 z0) Cp 26 [false] [] [] 4 Ed _ hC [pq (Be hl2)] hn2
     ·unfold Q2 at h
      obtain⟨y7,h8,h⟩:=Az h
      refine wn Cp 32 [true] [pr q70 (Bn hx2 hl2),pn q70 (Bn hx2 hl2),pR pB h8,pN pB h8] [] 4 Ed [0,3,4,5,6,7,8,30,31,35,36,37,57] hC [pq (A_ hi2 hl2)] ?_
      rcases cB h with⟨h9,h⟩ | ⟨h9,h⟩
      ·obtain⟨y10,h11,y12,h13,h⟩:=Bb h
       exact wx w2b (Pm x1 z1 (n2+1)) (Vx x1 z0 (n2+1)) Cp 27 [true] [pr pB h11,pu pB h11 h13] [] 4 Ed _ hC [pq h9] (sI h).symm
      ·exact wx w2b (Pm x1 z1 (n2+1)) (Vx x1 z0 (n2+1)) Cp 25 [false] [] [] 4 Ed _ hC [pq h9] (sI h).symm
    ·have h:=hnext2 _ hs2
     exact wx w1b (Wx x1) (yS x1 z0) Cp 23 [] [] [] 4 Ed _ hC [] (sI h).symm
   ·exact wx w1 (Aev) (Ahl x1 z0) Cp 26 [false] [] [] 4 Ed (z1.1,z1.2) hC [pq h6] (hb1 _ (sI h).symm)
  ·have h := hnext1 _ hs1
   refine ws Cp 24 [] [pl q72 x1.Ac] [] 4 Ed (Ww x1 (0,z0.2.1,z0.2.2.1,([]:List Af))) (yR x1 z1 (0,z0.2.1,z0.2.2.1,([]:List Af))) hC [] ?_
   obtain⟨w3,hm3,hret3,hnext3⟩:=Ar h
   clear h
   refine wc w3 (Aet) (Ahj x1 z1) ?_ λ z3 hs3=>?_
   ·refine wb ?_
    refine ww (Ww x1) (yR x1 z1) hm3 λ z3 w3b h hb3 hr3=>?_
    unfold Q1 at h
    rcases cB h with⟨h14,h⟩ | ⟨h14,h⟩
    ·obtain⟨y15,h16,y17,h18,y19,h20,h⟩:=B0 h
     obtain⟨y21,h22,y23,h24,h⟩:=Bb h
     exact wx w3b (Ww x1) (yR x1 z1) Cp 31 [true] [pc e27 (k27 (⟨z3.2.1,z3.2.2.1⟩:Ah) [0,1,2,2,2,3] _ h16) [0],pc e19 (k19 y15.2 5 _ h18) [0],pc e27 (k27 y17.2 [5000,5000,5005,4950] _ h20) [0],pc e27 (k27 y19.2 [0,0,40,1800,3590] _ h22) [0],pa q93 4 h24] [] 4 [0,1,2,3,4,5,6,7,8,9,10,11,15,13,14] _ hC [pq h14] (sI h).symm
    ·exact wx w3 (Aet) (Ahj x1 z1) Cp 26 [false] [] [] 4 Ed (z3.1,z3.2.1,z3.2.2.1,(Ef z3)) hC [pq h14] (hb3 _ (sI h).symm)
   ·have h := hnext3 _ hs3
    refine ws Cp 24 [] [pl q81 x1.Ae] [] 4 Ed (Wv x1 0 (z3.2.1,z3.2.2.1,([]:List Int))) (yQ x1 z1 z3 0 (z3.2.1,z3.2.2.1,([]:List Int))) hC [] ?_
    obtain⟨w4,hm4,hret4,hnext4⟩:=Ar h
    clear h
    refine wc w4 (Aes) (Ahi x1 z1 z3) ?_ λ z4 hs4=>?_
    ·refine wb ?_
     refine Cj 89 3 rfl rfl λ hl4=>?_
     refine wl (Wv x1) (yQ x1 z1 z3) hm4 (λ z4 hn4=>?_) λ n4 a4 z4 w4b hi4 hx4 h hb4 hr4=>?_
     ·clear hm4
      exact wx w4 (Aes) (Ahi x1 z1 z3) Cp 26 [false] [] [] 4 Ed _ hC [pq (Be hl4)] hn4
     ·unfold Q0 at h
      obtain⟨y25,h26,y27,h28,h⟩:=Bb h
      exact wx w4b (Wv x1 (n4+1)) (yQ x1 z1 z3 (n4+1)) Cp 33 [true] [pr q81 (Bn hx4 hl4),pn q81 (Bn hx4 hl4),⟨.nz 3,Zj rfl⟩,pc e27 (k27 (⟨z4.1,z4.2.1⟩:Ah) [a4.Load,a4.Load,a4.Least,w64 (Int.tdiv a4.Load 3)] _ h26) [0],pa pI 1 h28] [] 4 [0,1,2,3,4,5,6,7,8,9,10,11,12,16,14] _ hC [pq (A_ hi4 hl4)] (sI h).symm
    ·have h:=hnext4 _ hs4
     refine ws Cp 24 [] [] [] 4 Ed (Ly (1,z4.1,z4.2.1,([]:List Al))) (O1 x1 z1 z3 z4 (1,z4.1,z4.2.1,([]:List Al))) hC [] ?_
     obtain⟨w5,hm5,hret5,hnext5⟩:=Ar h
     clear h
     refine wc w5 (Aer) (Ahh x1 z1 z3 z4) ?_ λ z5 hs5=>?_
     ·refine wb ?_
      refine ww (Ly) (O1 x1 z1 z3 z4) hm5 λ z5 w5b h hb5 hr5=>?_
      unfold Qz at h
      rcases cB h with⟨h29,h⟩ | ⟨h29,h⟩
      ·obtain⟨y30,h31,h⟩:=Az h
       rcases cB h with⟨h32,h⟩ | ⟨h32,h⟩
       ·obtain⟨y33,h34,h⟩:=Az h
        refine wn Cp 35 [true,true] [pc e19 (k19 (⟨z5.2.1,z5.2.2.1⟩:Ah) 5 _ h31) [0],pc e19 (k19 y30.2 4 _ h34) [0],pb e64 (k64 x1 (⟨z5.1,y33.1⟩:Al) _ rfl)] [] 4 A6h [0,3,4,5,12,13,126] hC [pq h29,pq h32] ?_
        rcases cB h with⟨h35,h⟩ | ⟨h35,h⟩
        ·obtain⟨y36,h37,h⟩:=Az h
         exact wx w5b (Ly) (O1 x1 z1 z3 z4) Cp 25 [true] [pa q96 2 h37] [] 4 [0,1,2,3,4,5,6,7,8,9,10,11,12,13,16] _ hC [pq h35] (sI h).symm
        ·exact wx w5b (Ly) (O1 x1 z1 z3 z4) Cp 25 [false] [] [] 4 Ed _ hC [pq h35] (sI h).symm
       ·exact wx w5b (Ly) (O1 x1 z1 z3 z4) Cp 34 [true,false] [pc e19 (k19 (⟨z5.2.1,z5.2.2.1⟩:Ah) 5 _ h31) [0]] [] 4 Ed _ hC [pq h29,pq h32] (sI h).symm
      ·exact wx w5 (Aer) (Ahh x1 z1 z3 z4) Cp 26 [false] [] [] 4 [0,1,2,3,5,6,7,8,9,10,11,12,13,14] (z5.1,z5.2.1,z5.2.2.1,(Ef z5)) hC [pq h29] (hb5 _ (sI h).symm)
     ·have h:=hnext5 _ hs5
      replace h:=sI h
      subst h
      exact wr Cp 23 [] [] [] 4 [0,1,2,3,10,11,12,13] hC []
theorem A5s:EN 46:=en Tryz.func46
def Dn:List Nat:=[0,1,2,3,4,5,7,8,9,10,11,12,13,15,19,45,47,48,49,50,74,77,78,79,80,92,97,99,100,101,102,124,128,129,130,134,135,136,137,144,149]
def Adz (x1:Ab) (n0:Nat) (z0:Unit):St:=[(2,dO 0 0),(3,dO 1 0),(4,dI 0),(47,.d (DS q93 x1.Ac)),(48,dI (ln x1.Ac)),(49,dI (cnt 0 n0))]
def Ao6 (x0:Aa) (x1:Ab) (n0:Nat) (z0:Unit):List Res:=[.box 30 (d30 x0),.box 39 (d39 x1)]
def Aq1  (z0:Unit):St:=[(2,dO 0 0),(3,dO 1 0),(4,dI 0)]
def Auk (x0:Aa) (x1:Ab) (z0:Unit):List Res:=[.box 30 (d30 x0),.box 39 (d39 x1)]
def Ady (x1:Ab) (n1:Nat) (z1:Unit):St:=[(2,dO 0 0),(3,dO 1 0),(4,dI 0),(77,.d (DS pI x1.Aq)),(78,dI (ln x1.Aq)),(79,dI (cnt 0 n1))]
def Ao5 (x0:Aa) (x1:Ab) (n1:Nat) (z1:Unit):List Res:=[.box 30 (d30 x0),.box 39 (d39 x1)]
def Aq0  (z1:Unit):St:=[(2,dO 0 0),(3,dO 1 0),(4,dI 0)]
def Auj (x0:Aa) (x1:Ab) (z1:Unit):List Res:=[.box 30 (d30 x0),.box 39 (d39 x1)]
def Adx (x1:Ab) (n2:Nat) (z2:Unit):St:=[(2,dO 0 0),(3,dO 1 0),(4,dI 0),(99,.d (DS q96 x1.Ao)),(100,dI (ln x1.Ao)),(101,dI (cnt 0 n2))]
def Ao4 (x0:Aa) (x1:Ab) (n2:Nat) (z2:Unit):List Res:=[.box 30 (d30 x0),.box 39 (d39 x1)]
def Aqz  (z2:Unit):St:=[(2,dO 0 0),(3,dO 1 0),(4,dI 0)]
def Aui (x0:Aa) (x1:Ab) (z2:Unit):List Res:=[.box 30 (d30 x0),.box 39 (d39 x1)]
def Adw (x0:Aa) (z3:Int):St:=[(2,dO 0 0),(3,dO 1 0),(4,dI 0),(128,dI (ln x0.Ae)),(129,dI z3)]
def Ao3 (x0:Aa) (x1:Ab) (z3:Int):List Res:=[.box 30 (d30 x0),.box 39 (d39 x1)]
def Aqy  (z3:Int):St:=[(4,dI 0)]
def Auh  (z3:Int):List Res:=[]
def Y8 (x0:Aa) (z3:Int) (y14:(List Int)) (n4:Nat) (z4:Int):St:=[(2,dO 0 0),(3,dO 1 0),(4,dI 0),(13,dI z4),(128,dI (ln x0.Ae)),(129,dI z3),(134,dS 2),(135,dI (ln y14)),(136,dI (cnt 0 n4))]
def Ac3 (x0:Aa) (x1:Ab) (y14:(List Int)) (n4:Nat) (z4:Int):List Res:=[.box 30 (d30 x0),.box 39 (d39 x1),v0_ y14]
def Aqx (x0:Aa) (z3:Int) (z4:Int):St:=[(2,dO 0 0),(3,dO 1 0),(4,dI 0),(13,dI z4),(128,dI (ln x0.Ae)),(129,dI z3)]
def Aug (x0:Aa) (x1:Ab) (z4:Int):List Res:=[.box 30 (d30 x0),.box 39 (d39 x1)]
set_option maxHeartbeats 4000000 in
theorem k62 (x0 : Aa) (x1 : Ab) (r : Int) (h : F62 x0 x1 = some r) : CO 62 [.agg (d30 x0), .agg (d39 x1)] [] (.d (I r)) [] := by
 unfold F62 at h
 refine co 151 Tryz.func62 λ C hC=>?_
 obtain⟨y1,h2,h⟩:=Az h
 rcases cB h with⟨h3,h⟩ | ⟨h3,h⟩
 ·replace h:=sI h
  subst h
  exact wr Dn 31 [true] [pc e43 (k43 x0 _ h2) []] [] 0 [] hC [pq h3]
 ·refine wn Dn 33 [false] [pc e43 (k43 x0 _ h2) [], pl pB x1.Ag, pl q70 x0.Ad, pL_ [(((ln x1.Ag) != (ln x0.Ad)), false)] q93 x1.Ac, pL_ [(((ln x1.Ag) != (ln x0.Ad)), false)] q72 x0.Ac, pL_ [((((ln x1.Ag) != (ln x0.Ad)) || ((ln x1.Ac) != (ln x0.Ac))), false)] pI x1.Aq, pL_ [((((ln x1.Ag) != (ln x0.Ad)) || ((ln x1.Ac) != (ln x0.Ac))), false)] q81 x0.Ae] [] 0 [0, 1] [2, 3, 4, 45] hC [pq h3] ?_
  rcases cB h with⟨h4,h⟩ | ⟨h4,h⟩
  ·replace h:=sI h
   subst h
   exact wr Dn 24 [true] [] [] 0 [] hC [pq h4]
  ·refine ws Dn 26 [false] [pl q93 x1.Ac] [] 0 [0, 1] (Adz x1 0 ()) (Ao6 x0 x1 0 ()) hC [pq h4] ?_
   obtain⟨w0,hm0,hret0,hnext0⟩:=Ar h
   clear h
   refine wc w0 (Aq1) (Auk x0 x1) ?_ λ z0 hs0=>?_
   ·refine wb ?_
    refine Bv 47 rfl λ hl0=>?_
    refine wl (Adz x1) (Ao6 x0 x1) hm0 (λ z0 hn0=>?_) λ n0 a0 z0 w0b hi0 hx0 h hb0 hr0=>?_
    ·clear hm0
     exact wx w0 (Aq1) (Auk x0 x1) Dn 26 [false] [] [] 0 [0,1] _ hC [pq (Be hl0)] hn0
    ·unfold Ais at h
     refine wn Dn 32 [true] [pt hx0 hl0,pc e82 (k82 a0.State 0 3 _ rfl) [],⟨.when [(!(F82 a0.State 0 3),false)] (.call 82 [dI a0.Since,dI 0,dI 2147483648] [] (dB (F82 a0.Since 0 2147483648)) [] []),λ hg=>⟨e82,(k82 a0.Since 0 2147483648 _ rfl)⟩⟩,⟨.when [(((!(F82 a0.State 0 3)) || (!(F82 a0.Since 0 2147483648))),false)] (.call 82 [dI a0.Ap,dI 0,dI 6000] [] (dB (F82 a0.Ap 0 6000)) [] []),λ hg=>⟨e82,(k82 a0.Ap 0 6000 _ rfl)⟩⟩,⟨.when [((((!(F82 a0.State 0 3)) || (!(F82 a0.Since 0 2147483648))) || (!(F82 a0.Ap 0 6000))),false)] (.call 82 [dI a0.Phase,dI 0,dI 3599] [] (dB (F82 a0.Phase 0 3599)) [] []),λ hg=>⟨e82,(k82 a0.Phase 0 3599 _ rfl)⟩⟩] [] 0 [0,1] [2,3,4,47,48,49,74] hC [pq (A_ hi0 hl0)] ?_
     rcases cB h with⟨h5,h⟩ | ⟨h5,h⟩
     ·have hq:=hret0 _ (hr0 _ (sI h).symm)
      replace hq:=sI hq
      subst hq
      exact wr Dn 24 [true] [] [] 0 [] hC [pq h5]
     ·exact wx w0b (Adz x1 (n0+1)) (Ao6 x0 x1 (n0+1)) Dn 25 [false] [] [] 0 [0,1] _ hC [pq h5] (sI h).symm
   ·have h := hnext0 _ hs0
    refine ws Dn 24 [] [pl pI x1.Aq] [] 0 [0,1] (Ady x1 0 ()) (Ao5 x0 x1 0 ()) hC [] ?_
    obtain⟨w1,hm1,hret1,hnext1⟩:=Ar h
    clear h
    refine wc w1 (Aq0) (Auj x0 x1) ?_ λ z1 hs1=>?_
    ·refine wb ?_
     refine Bv 77 rfl λ hl1=>?_
     refine wl (Ady x1) (Ao5 x0 x1) hm1 (λ z1 hn1=>?_) λ n1 a1 z1 w1b hi1 hx1 h hb1 hr1=>?_
     ·clear hm1
      exact wx w1 (Aq0) (Auj x0 x1) Dn 26 [false] [] [] 0 [0,1] _ hC [pq (Be hl1)] hn1
     ·unfold Air at h
      obtain⟨y6,h7,h⟩:=Az h
      refine wn Dn 32 [true] [pt hx1 hl1,pr q81 h7,pc e82 (k82 a1 0 y6.Load _ rfl) []] [] 0 [0,1] [2,3,4,77,78,79,92] hC [pq (A_ hi1 hl1)] ?_
      rcases cB h with⟨h8,h⟩ | ⟨h8,h⟩
      ·have hq:=hret1 _ (hr1 _ (sI h).symm)
       replace hq:=sI hq
       subst hq
       exact wr Dn 24 [true] [] [] 0 [] hC [pq h8]
      ·exact wx w1b (Ady x1 (n1+1)) (Ao5 x0 x1 (n1+1)) Dn 25 [false] [] [] 0 [0,1] _ hC [pq h8] (sI h).symm
    ·have h := hnext1 _ hs1
     rcases cB h with⟨h9,h⟩ | ⟨h9,h⟩
     ·replace h:=sI h
      subst h
      exact wr Dn 27 [true] [pl q96 x1.Ao] [] 0 [] hC [pq h9]
     ·refine ws Dn 29 [false] [pl q96 x1.Ao,pl q96 x1.Ao] [] 0 [0,1] (Adx x1 0 ()) (Ao4 x0 x1 0 ()) hC [pq h9] ?_
      obtain⟨w2,hm2,hret2,hnext2⟩:=Ar h
      clear h
      refine wc w2 (Aqz) (Aui x0 x1) ?_ λ z2 hs2=>?_
      ·refine wb ?_
       refine Bv 99 rfl λ hl2=>?_
       refine wl (Adx x1) (Ao4 x0 x1) hm2 (λ z2 hn2=>?_) λ n2 a2 z2 w2b hi2 hx2 h hb2 hr2=>?_
       ·clear hm2
        exact wx w2 (Aqz) (Aui x0 x1) Dn 26 [false] [] [] 0 [0,1] _ hC [pq (Be hl2)] hn2
       ·unfold Aiq at h
        obtain⟨y10,h11,h⟩:=Az h
        refine wn Dn 32 [true] [pt hx2 hl2,pc e64 (k64 x0 a2 _ rfl) [],pR q96 h11,⟨.when [(!(F64 x0 a2),false),(decide ((cnt 0 n2)>0),true)] (.call 84 [.agg (d96 y10),.agg (d96 a2)] [] (dB (F84 y10 a2)) [] []),λ hg=>⟨e84,(k84 y10 a2 _ rfl)⟩⟩] [] 0 [0,1] [2,3,4,99,100,101,124] hC [pq (A_ hi2 hl2)] ?_
        rcases cB h with⟨h12,h⟩ | ⟨h12,h⟩
        ·have hq:=hret2 _ (hr2 _ (sI h).symm)
         replace hq:=sI hq
         subst hq
         exact wr Dn 24 [true] [] [] 0 [] hC [pq h12]
        ·exact wx w2b (Adx x1 (n2+1)) (Ao4 x0 x1 (n2+1)) Dn 25 [false] [] [] 0 [0,1] _ hC [pq h12] (sI h).symm
      ·have h:=hnext2 _ hs2
       refine ws Dn 24 [] [pl q81 x0.Ae] [] 0 [0,1] (Adw x0 0) (Ao3 x0 x1 0) hC [] ?_
       obtain⟨w3,hm3,hret3,hnext3⟩:=Ar h
       clear h
       refine wc w3 (Aqy) (Auh) ?_ λ z3 hs3=>?_
       ·refine wb ?_
        refine ww (Adw x0) (Ao3 x0 x1) hm3 λ z3 w3b h hb3 hr3=>?_
        unfold Aip at h
        rcases cB h with⟨h13,h⟩ | ⟨h13,h⟩
        ·obtain⟨y14,h15,h⟩:=Az h
         refine ws Dn 35 [true] [pc e83 (k83 x0 3 z3 _ h15) [],pl pI y14] [] 0 n3_ (Y8 x0 z3 y14 0 0) (Ac3 x0 x1 y14 0 0) hC [pq h13] ?_
         obtain⟨w4,hm4,hret4,hnext4⟩:=Ar h
         clear h
         refine wc w4 (Aqx x0 z3) (Aug x0 x1) ?_ λ z4 hs4=>?_
         ·refine wb ?_
          refine Cj 134 2 rfl rfl λ hl4=>?_
          refine wl (Y8 x0 z3 y14) (Ac3 x0 x1 y14) hm4 (λ z4 hn4=>?_) λ n4 a4 z4 w4b hi4 hx4 h hb4 hr4=>?_
          ·clear hm4
           exact wx w4 (Aqx x0 z3) (Aug x0 x1) Dn 26 [false] [] [] 0 [0,1] _ hC [pq (Be hl4)] hn4
          ·unfold Aio at h
           obtain⟨y16,h17,h⟩:=Az h
           rcases cB h with⟨h18,h⟩ | ⟨h18,h⟩
           ·exact wx w4b (Y8 x0 z3 y14 (n4+1)) (Ac3 x0 x1 y14 (n4+1)) Dn 36 [true,true] [pr pI (Bn hx4 hl4),pn pI (Bn hx4 hl4),pr pB h17] [] 0 n3_ _ hC [pq (A_ hi4 hl4),pq h18] (sI h).symm
           ·exact wx w4b (Y8 x0 z3 y14 (n4+1)) (Ac3 x0 x1 y14 (n4+1)) Dn 36 [true,false] [pr pI (Bn hx4 hl4),pn pI (Bn hx4 hl4),pr pB h17] [] 0 n3_ _ hC [pq (A_ hi4 hl4),pq h18] (sI h).symm
         ·have h:=hnext4 _ hs4
          rcases cB h with⟨h19,h⟩ | ⟨h19,h⟩
          ·have hq:=hret3 _ (hr3 _ (sI h).symm)
           replace hq:=sI hq
           subst hq
           exact wr Dn 26 [true] [] [] 0 [] hC [pq h19]
          ·exact wx w3b (Adw x0) (Ao3 x0 x1) Dn 27 [false] [] [] 0 [0,1] _ hC [pq h19] (sI h).symm
        ·exact wx w3 (Aqy) (Auh) Dn 26 [false] [] [] 0 [] z3 hC [pq h13] (hb3 _ (sI h).symm)
       ·have h:=hnext3 _ hs3
        replace h:=sI h
        subst h
        exact wr Dn 23 [] [] [] 0 [] hC []
theorem e62:EN 62:=en Tryz.func62
def Ft:List Nat:=[0,1,3,4,5,10,11,21,31,44,59]
def Xc (y1:Int×Ah) (z0:Bool):St:=[(0,dO 0 0),(3,dO 4 0),(4,dO 5 0),(5,dO 6 0),(10,dI y1.1),(11,dB z0)]
def X6 (x1:Aa) (y1:Int×Ah) (z0:Bool):List Res:=(.box 77 (d77 y1.2)::zs x1 [.box 30 [I x1.An,.os 1,.os 2,.os 3,I x1.Phase,I x1.Ap],.box 63 [I 0,I 0,I 0],.box 63 [I y1.1,I 0,I 0]])
def Xb (y1:Int×Ah) (z1:Bool):St:=[(0,dO 0 0),(3,dO 4 0),(4,dO 5 0),(5,dO 6 0),(10,dI y1.1),(21,dB z1)]
def X5 (x1:Aa) (y1:Int×Ah) (z1:Bool):List Res:=(.box 77 (d77 y1.2)::zs x1 [.box 30 [I x1.An,.os 1,.os 2,.os 3,I x1.Phase,I x1.Ap],.box 63 [I 0,I 0,I 0],.box 63 [I y1.1,I 0,I 0]])
theorem A48 (x0 : Ah) (x1 : Aa) (r : Am × Ah) (h : qM x0 x1 = some r) : CO 36 [.d (.o 0 0), .agg [I x1.An, .os 1, .os 2, .os 3, I x1.Phase, I x1.Ap]] (.box 77 (d77 x0) :: zs x1 []) (.agg (d63 r.1)) (.box 77 (d77 r.2) :: zs x1 []) := by
 unfold qM at h
 refine co 69 Tryz.func36 λ C hC=>?_
 obtain⟨y1,h2,h⟩:=Az h
 refine wn Ft 32 [] [pc e26 (k26 x0 1 9 _ h2) [0]] [] 4 n7_ [0,3,4,5,10,11] hC [] ?_
 obtain⟨w0,h,hret0,hnext0⟩:=Ar h
 refine wc w0 (Xc y1) (X6 x1 y1) ?_ λ z0 hs0=>?_
 ·unfold Yo at h
  rcases cB h with⟨h3,h⟩ | ⟨h3,h⟩
  ·exact wx w0 (Xc y1) (X6 x1 y1) Ft 23 [true] [] [] 4 n7_ _ hC [pq h3] (sI h).symm
  ·exact wx w0 (Xc y1) (X6 x1 y1) Ft 23 [false] [] [] 4 n7_ _ hC [pq h3] (sI h).symm
 ·clear h; have h := hnext0 _ hs0
  rcases cB h with⟨h4,h⟩ | ⟨h4,h⟩
  ·obtain⟨y5,h6,h⟩:=Az h
   replace h:=sI h
   subst h
   exact wr Ft 26 [true] [pl q70 x1.Ad,pc e19 (k19 y1.2 (w64 ((ln x1.Ad)+1)) _ h6) [0]] [] 4 n4_ hC [pq h4]
  ·refine wn Ft 25 [false] [] [] 4 n7_ [0,3,4,5,10,21] hC [pq h4] ?_
   obtain⟨w1,h,hret1,hnext1⟩:=Ar h
   refine wc w1 (Xb y1) (X5 x1 y1) ?_ λ z1 hs1=>?_
   ·unfold Yn at h
    rcases cB h with⟨h7,h⟩ | ⟨h7,h⟩
    ·exact wx w1 (Xb y1) (X5 x1 y1) Ft 23 [true] [] [] 4 n7_ _ hC [pq h7] (sI h).symm
    ·exact wx w1 (Xb y1) (X5 x1 y1) Ft 23 [false] [] [] 4 n7_ _ hC [pq h7] (sI h).symm
   ·clear h;have h:=hnext1 _ hs1
    rcases cB h with⟨h8,h⟩ | ⟨h8,h⟩
    ·obtain⟨y9,h10,h⟩:=Az h
     replace h:=sI h
     subst h
     exact wr Ft 26 [true] [pl q72 x1.Ac,pc e19 (k19 y1.2 (w64 ((ln x1.Ac)+1)) _ h10) [0]] [] 4 n4_ hC [pq h8]
    ·rcases cB h with⟨h11,h⟩ | ⟨h11,h⟩
     ·obtain⟨y12,h13,y14,h15,h⟩:=Bb h
      replace h:=sI h
      subst h
      exact wr Ft 29 [false,true] [pl q81 x1.Ae,pc e19 (k19 y1.2 (w64 ((ln x1.Ae)+1)) _ h13) [0],pc e27 (k27 y12.2 [0,5,20,41] _ h15) [0]] [] 4 n4_ hC [pq h8,pq h11]
     ·rcases cB h with⟨h16,h⟩ | ⟨h16,h⟩
      ·obtain⟨y17,h18,y19,h20,h⟩:=Bb h
       replace h:=sI h
       subst h
       exact wr Ft 32 [false,false,true] [pl q72 x1.Ac,pc e19 (k19 y1.2 (w64 ((ln x1.Ac)+1)) _ h18) [0],pc e19 (k19 y17.2 (w64 (x1.An+1)) _ h20) [0]] [] 4 n4_ hC [pq h8,pq h11,pq h16]
      ·rcases cB h with⟨h21,h⟩ | ⟨h21,h⟩
       ·obtain⟨y22,h23,y24,h25,h⟩:=Bb h
        replace h:=sI h
        subst h
        exact wr Ft 38 [false,false,false,true,true] [pc e26 (k26 y1.2 1 4 _ h23) [0],pc e19 (k19 y22.2 4 _ h25) [0]] [] 4 n4_ hC [pq h8,pq h11,pq h16,pq h21,pq h21]
       ·rcases cB h with⟨h26,h⟩ | ⟨h26,h⟩
        ·obtain⟨y27,h28,y29,h30,h⟩:=Bb h
         replace h:=sI h
         subst h
         exact wr Ft 38 [false,false,false,false,true] [pc e26 (k26 y1.2 1 4 _ h28) [0],pc e19 (k19 y27.2 4 _ h30) [0]] [] 4 n4_ hC [pq h8,pq h11,pq h16,pq h21,pq h26]
        ·replace h:=sI h
         subst h
         exact wr Ft 38 [false,false,false,false,false] [] [] 4 n4_ hC [pq h8,pq h11,pq h16,pq h21,pq h26]
theorem A5t:EN 36:=en Tryz.func36
def N0:List Nat:=[0,1,2,3,5,6,7,29,43,44,45,46,56,57,58,59,71]
def Adn (x0:Aa) (n0:Nat) (z0:Bool):St:=[(1,dO 0 0),(2,dI 0),(3,dB z0),(43,.d (DS q72 x0.Ac)),(44,dI (ln x0.Ac)),(45,dI (cnt 0 n0))]
def Aou (x0:Aa) (n0:Nat) (z0:Bool):List Res:=[.box 30 (d30 x0)]
def Aqk  (z0:Bool):St:=[(1,dO 0 0),(2,dI 0),(3,dB z0)]
def At3 (x0:Aa) (z0:Bool):List Res:=[.box 30 (d30 x0)]
def Adm (x0:Aa) (n1:Nat) (z1:Bool):St:=[(2,dI 0),(3,dB z1),(56,.d (DS q81 x0.Ae)),(57,dI (ln x0.Ae)),(58,dI (cnt 0 n1))]
def Aot  (n1:Nat) (z1:Bool):List Res:=[]
def Aqj  (z1:Bool):St:=[(2,dI 0),(3,dB z1)]
def At2  (z1:Bool):List Res:=[]
theorem k86 (x0:Aa) (r:Int) (h:F86 x0=some r):CO 86 [.agg (d30 x0)] [] (.d (I r)) []:=by
 unfold F86 at h
 refine co 72 Tryz.func86 λ C hC=>?_
 refine wn N0 26 [] [pc e91 (k91 x0.An 1 6 _ rfl) [],pL_ [(!(F91 x0.An 1 6),false)] q70 x0.Ad,pL_ [(((!(F91 x0.An 1 6)) || (decide ((ln x0.Ad)>24))),false)] q72 x0.Ac,pL_ [((((!(F91 x0.An 1 6)) || (decide ((ln x0.Ad)>24))) || (decide ((ln x0.Ac)>8))),false)] q81 x0.Ae] [] 0 [0] [1,2,29] hC [] ?_
 rcases cB h with⟨h1,h⟩ | ⟨h1,h⟩
 ·replace h:=sI h
  subst h
  exact wr N0 24 [true] [] [] 0 [] hC [pq h1]
 ·obtain⟨y2,h3,h⟩:=Az h
  refine ws N0 28 [false] [pc A8c (A7b x0 _ h3) [],⟨.when [(y2,true)] (.call 91 [dI x0.Phase,dI 0,dI 1800] [] (dB (F91 x0.Phase 0 1800)) [] []),λ hg=>⟨e91,(k91 x0.Phase 0 1800 _ rfl)⟩⟩,⟨.when [((y2&&(F91 x0.Phase 0 1800)),true)] (.call 91 [dI x0.Ap,dI 0,dI 6000] [] (dB (F91 x0.Ap 0 6000)) [] []),λ hg=>⟨e91,(k91 x0.Ap 0 6000 _ rfl)⟩⟩,pl q72 x0.Ac] [] 0 [0] (Adn x0 0 ((y2&&(F91 x0.Phase 0 1800))&&(F91 x0.Ap 0 6000))) (Aou x0 0 ((y2&&(F91 x0.Phase 0 1800))&&(F91 x0.Ap 0 6000))) hC [pq h1] ?_
  obtain⟨w0,hm0,hret0,hnext0⟩:=Ar h
  clear h
  refine wc w0 (Aqk) (At3 x0) ?_ λ z0 hs0=>?_
  ·refine wb ?_
   refine Bv 43 rfl λ hl0=>?_
   refine wl (Adn x0) (Aou x0) hm0 (λ z0 hn0=>?_) λ n0 a0 z0 w0b hi0 hx0 h hb0 hr0=>?_
   ·clear hm0
    exact wx w0 (Aqk) (At3 x0) N0 26 [false] [] [] 0 [0] _ hC [pq (Be hl0)] hn0
   ·unfold Au6 at h
    exact wx w0b (Adn x0 (n0+1)) (Aou x0 (n0+1)) N0 33 [true] [pt hx0 hl0,⟨.when [(z0,true)] (.call 114 [.agg (d72 a0)] [] (dB (zK a0)) [] []),λ hg=>⟨A8b,(A7a a0 _ rfl)⟩⟩] [] 0 [0] _ hC [pq (A_ hi0 hl0)] (sI h).symm
  ·have h:=hnext0 _ hs0
   refine ws N0 24 [] [pl q81 x0.Ae] [] 0 [] (Adm x0 0 z0) (Aot 0 z0) hC [] ?_
   obtain⟨w1,hm1,hret1,hnext1⟩:=Ar h
   clear h
   refine wc w1 (Aqj) (At2) ?_ λ z1 hs1=>?_
   ·refine wb ?_
    refine Bv 56 rfl λ hl1=>?_
    refine wl (Adm x0) (Aot) hm1 (λ z1 hn1=>?_) λ n1 a1 z1 w1b hi1 hx1 h hb1 hr1=>?_
    ·clear hm1
     exact wx w1 (Aqj) (At2) N0 26 [false] [] [] 0 [] _ hC [pq (Be hl1)] hn1
    ·unfold Aic at h
     obtain⟨y4,h5,h⟩:=Az h
     exact wx w1b (Adm x0 (n1+1)) (Aot (n1+1)) N0 33 [true] [pt hx1 hl1,pw A8a (λ hg=>A69 a1 (cnt 0 n1) _ (Bf h5 hg)) []] [] 0 [] _ hC [pq (A_ hi1 hl1)] (sI h).symm
   ·have h:=hnext1 _ hs1
    rcases cB h with⟨h6,h⟩ | ⟨h6,h⟩
    ·replace h:=sI h
     subst h
     exact wr N0 27 [true] [] [] 0 [] hC [pq h6]
    ·replace h:=sI h
     subst h
     exact wr N0 28 [false] [] [] 0 [] hC [pq h6]
theorem e86:EN 86:=en Tryz.func86
theorem A40 (x0:List Af) (r:Bool) (h:Vz x0=some r):CO 88 [.d (DS q93 x0),.d (.fn (.func 89) [] [])] [] (.d (Bo r)) []:=by
 unfold Vz at h
 refine co 9 Tryz.func88 λ C hC=>?_
 obtain⟨y1,h2,h⟩:=Az h
 replace h:=sI h
 subst h
 exact wr [0,1,4] 25 [] [pc A3x (A2i x0 _ h2) []] [] 0 [] hC []
theorem A5l:EN 88:=en Tryz.func88
theorem A2a (x0:A1) (x1:Int) (r:Int×A1) (h:Uk x0 x1=some r):CO 139 [.d (.o 0 0),.d (I x1)] (.box 175 (zb x0.Ak [.os 1,.os 2,.os 3,.os 4,I x0.time])::zp x0.Au []) (.d (I r.1)) (.box 175 (zb r.2.Ak [.os 1,.os 2,.os 3,.os 4,I r.2.time])::zp r.2.Au []):=by
 unfold Uk at h
 refine co 53 Tryz.func139 λ C hC=>?_
 obtain⟨y1,h2,y3,h4,h⟩:=Bb h
 refine wn [0,1,4,5,23,43] 26 [] [pr q93 h2,pn q93 h2,pv Kx (λ hg=>Ku x0.Au 1 x1 _ (Bf h4 hg))] [] 5 n5_ [0,1,4,23] hC [] ?_
 rcases cB h with⟨h5,h⟩ | ⟨h5,h⟩
 ·replace h:=sI h
  subst h
  exact wr [0,1,4,5,23,43] 24 [true] [] [] 5 n5_ hC [pq h5]
 ·obtain⟨y6,h7,y8,h9,h⟩:=Bb h
  refine wn [0,1,4,5,23,43] 28 [false] [pr q72 h7,pv Agl (λ hg=>Afu x0 x1 _ (Bf h9 hg))] [] 5 n6_ [0,1,4,5,43] hC [pq h5] ?_
  rcases cB h with⟨h10,h⟩ | ⟨h10,h⟩
  ·obtain⟨y11,h12,h⟩:=Az h
   replace h:=sI h
   subst h
   exact wr [0,1,4,5,23,43] 27 [true] [pr q93 h2,pu q93 h2 h12] [] 5 n5_ hC [pq h10]
  ·obtain⟨y13,h14,h⟩:=Az h
   replace h:=sI h
   subst h
   exact wr [0,1,4,5,23,43] 27 [false] [pr q93 h2,pu q93 h2 h14] [] 5 n5_ hC [pq h10]
theorem A3p:EN 139:=en Tryz.func139
theorem A19 (x0:A1) (x1:Int) (r:Int×A1) (h:Uj x0 x1=some r):CO 140 [.d (.o 0 0),.d (I x1)] (.box 175 (zb x0.Ak [.os 1,.os 2,.os 3,.os 4,I x0.time])::zp x0.Au []) (.d (I r.1)) (.box 175 (zb r.2.Ak [.os 1,.os 2,.os 3,.os 4,I r.2.time])::zp r.2.Au []):=by
 unfold Uj at h
 refine co 34 Tryz.func140 λ C hC=>?_
 obtain⟨y1,h2,y3,h4,h⟩:=Bb h
 refine wn [0,1,4,5,30] 28 [] [pr q93 h2,pn q93 h2,⟨.when [((y1.State != 1),true)] (.row (x0.Au.Ac.map q93) (((Int.toNat x1):Nat):Int) (q93 y1)),λ hg=>Jo h2⟩,pv Agl (λ hg=>Afu x0 x1 _ (Bf h4 hg))] [] 5 n5_ [4,5,30] hC [] ?_
 rcases cB h with⟨h5,h⟩ | ⟨h5,h⟩
 ·replace h:=sI h
  subst h
  exact wr [0,1,4,5,30] 24 [true] [] [] 5 n5_ hC [pq h5]
 ·obtain⟨y6,h7,h⟩:=Az h
  replace h:=sI h
  subst h
  exact wr [0,1,4,5,30] 27 [false] [pu q93 h2 h7] [] 5 n5_ hC [pq h5]
theorem A3o:EN 140:=en Tryz.func140
def On:List Nat:=[0,1,2,3,4,5,7,12,20]
theorem A1z (x0:Ay) (x1:Aj) (r:Bool×Ay) (h:Ua x0 x1=some r):CO 157 [.d (.o 0 0),.agg (d70 x1)] (.box 214 (zb x0.Ak [.os 1,.os 2,.os 3,.os 4,.os 5])::zp x0.Au [v6_ x0.acts]) (.d (Bo r.1)) (.box 214 (zb r.2.Ak [.os 1,.os 2,.os 3,.os 4,.os 5])::zp r.2.Au [v6_ r.2.acts]):=by
 unfold Ua at h
 refine co 45 Tryz.func157 λ C hC=>?_
 obtain⟨y1,h2,h⟩:=Az h
 refine wn On 29 [] [pc jB (Z2 3 x1.A x0 _ h2) [6,0,1,2,3,4,5]] [] 6 n8_ [2,3,4,5,7] hC [] ?_
 rcases cB h with⟨h3,h⟩ | ⟨h3,h⟩
 ·replace h:=sI h
  subst h
  exact wr On 24 [true] [] [] 6 n6_ hC [pq h3]
 ·rcases cB h with⟨h4,h⟩ | ⟨h4,h⟩
  ·obtain⟨y5,h6,h⟩:=Az h
   replace h:=sI h
   subst h
   exact wr On 27 [false,true] [pc jB (Z2 3 x1.B y1.2 _ h6) [6,0,1,2,3,4,5]] [] 6 n6_ hC [pq h3,pq h4]
  ·rcases cB h with⟨h7,h⟩ | ⟨h7,h⟩
   ·obtain⟨y8,h9,y10,h11,h⟩:=Bb h
    replace h:=sI h
    subst h
    exact wr On 30 [false,false,true] [pc jB (Z2 1 x1.B y1.2 _ h9) [6,0,1,2,3,4,5],pR q93 h11,pN q93 h11] [] 6 n6_ hC [pq h3,pq h4,pq h7]
   ·obtain⟨y12,h13,h⟩:=Az h
    replace h:=sI h
    subst h
    exact wr On 32 [false,false,false] [pc jB (Z2 4 x1.B y1.2 _ h13) [6,0,1,2,3,4,5]] [] 6 n6_ hC [pq h3,pq h4,pq h7]
theorem A3e:EN 157:=en Tryz.func157
def Lj:List Nat:=[0,1,2,6,7,8,9,13,30,35,54]
def Rs (x1:Int) (z0:X3):St:=[(0,dS 0),(1,dI x1),(2,.d (.fn (.func 191) [] [.o 1 0])),(6,dI 20),(7,dI z0.1),(8,dI z0.2.1)]
def X9  (z0:X3):List Res:=[v0_ z0.2.2.1,.box 30 [I (g3_ z0),DS q70 (g4_ z0),DS q72 (g5_ z0),DS q81 (g6_ z0),I (g7_ z0),I (vW z0)]]
def Aah (x1:Int) (z0:X3):St:=[(0,dS 0),(1,dI x1),(2,.d (.fn (.func 191) [] [.o 1 0])),(6,dI 20),(7,dI z0.1),(8,dI z0.2.1)]
def Abn  (z0:X3):List Res:=[v0_ z0.2.2.1,.box 30 [I (g3_ z0),DS q70 (g4_ z0),DS q72 (g5_ z0),DS q81 (g6_ z0),I (g7_ z0),I (vW z0)]]
def zX (x1:Int) (z0:X3) (z1:Unit):St:=[(0,dS 0),(1,dI x1),(2,.d (.fn (.func 191) [] [.o 1 0])),(6,dI 20),(7,dI z0.1),(8,dI z0.2.1)]
def Aht (y4:(List Int)×Aa) (z1:Unit):List Res:=[v0_ y4.1,.box 30 (d30 y4.2)]
def Aag  (z1:Unit):St:=[]
def Abm (y4:(List Int)×Aa) (z1:Unit):List Res:=[v0_ y4.1,.box 30 (d30 y4.2)]
def A55 (x1:Int) (z2:Unit):St:=[(0,dS 0),(1,dI x1),(2,.d (.fn (.func 191) [] [.o 1 0])),(6,dI 20),(7,dI 0),(8,dI 40)]
def A8i (y4:(List Int)×Aa) (z2:Unit):List Res:=[v0_ y4.1,.box 30 (d30 y4.2)]
def A56 (x1:Int) (z2:Unit):St:=[(0,dS 0),(1,dI x1),(2,.d (.fn (.func 191) [] [.o 1 0])),(6,dI 20),(7,dI 0),(8,dI 40)]
def A57 (y4:(List Int)×Aa) (z2:Unit):List Res:=[v0_ y4.1,.box 30 (d30 y4.2)]
theorem A1i (x0:List Int) (x1:Int) (x2c0:Aa) (r:(List Int)×Aa) (h:qQ x0 x1 x2c0=some r):CO 207 [.d (.os 0),.d (I x1),.d (.fn (.func 191) [] [.o 1 0])] [v0_ x0,.box 30 (d30 x2c0)] (.tup []) [v0_ r.1,.box 30 (d30 r.2)]:=by
 unfold qQ at h
 refine co 63 Tryz.func207 λ C hC=>?_
 refine ws Lj 26 [] [] [] 2 [0,1] (Rs x1 (0,20,x0,x2c0.An,x2c0.Ad,x2c0.Ac,x2c0.Ae,x2c0.Phase,x2c0.Ap)) (X9 (0,20,x0,x2c0.An,x2c0.Ad,x2c0.Ac,x2c0.Ae,x2c0.Phase,x2c0.Ap)) hC [] ?_
 obtain⟨w0,hm0,hret0,hnext0⟩:=Ar h
 clear h
 refine wc w0 (Aah x1) (Abn) ?_ λ z0 hs0=>?_
 ·refine wb ?_
  refine ww (Rs x1) (X9) hm0 λ z0 w0b h hb0 hr0=>?_
  unfold Tw at h
  rcases cB h with⟨h1,h⟩ | ⟨h1,h⟩
  ·obtain⟨y2,h3,h⟩:=Az h
   exact wx w0b (Rs x1) (X9) Lj 33 [true] [pc Asu (Ar1 z0.2.2.1 z0.1 z0.2.1 (⟨(g3_ z0),(g4_ z0),(g5_ z0),(g6_ z0),(g7_ z0),(vW z0)⟩:Aa) _ h3) [0,1]] [] 2 [0,1] _ hC [pq h1] (sI h).symm
  ·exact wx w0 (Aah x1) (Abn) Lj 26 [false] [] [] 2 [0,1] (z0.1,z0.2.1,z0.2.2.1,(g3_ z0),(g4_ z0),(g5_ z0),(g6_ z0),(g7_ z0),(vW z0)) hC [pq h1] (hb0 _ (sI h).symm)
 ·have h:=hnext0 _ hs0
  obtain⟨y4,h5,h⟩:=Az h
  refine ws Lj 23 [] [pc Asu (Ar1 z0.2.2.1 z0.1 x1 (⟨(g3_ z0),(g4_ z0),(g5_ z0),(g6_ z0),(g7_ z0),(vW z0)⟩:Aa) _ h5) [0,1]] [] 2 [0,1] (zX x1 z0 ()) (Aht y4 ()) hC [] ?_
  obtain⟨w1,hm1,hret1,hnext1⟩:=Ar h
  clear h
  refine wc w1 (Aag) (Abm y4) ?_ λ z1 hs1=>?_
  ·refine wb ?_
   refine ww (zX x1 z0) (Aht y4) hm1 λ z1 w1b h hb1 hr1=>?_
   unfold Tv at h
   rcases cB h with⟨h6,h⟩ | ⟨h6,h⟩
   ·cases h
   ·exact wx w1 (Aag) (Abm y4) Lj 26 [false] [] [] 2 [0,1] () hC [pq h6] (hb1 _ (sI h).symm)
  ·have h:=hnext1 _ hs1
   replace h:=sI h
   subst h
   exact wf Lj 20 [] [] [] 2 [0,1] hC []
theorem A2x:EN 207:=en Tryz.func207
def Ir:List Nat:=[0,1,4,5,6,7,12,19,29]
def M3  (z0:Int×Int×(List Int)):St:=[(0,dS 0),(1,.d (.fn (.func 161) [] [.o 1 0])),(4,.d (DS pI [])),(5,dI z0.1),(6,dI z0.2.1)]
def Qm (y1:Int×Ai) (z0:Int×Int×(List Int)):List Res:=[v0_ z0.2.2,.box 137 (H4 y1.2)]
def Aap  (z0:Int×Int×(List Int)):St:=[(0,dS 0),(4,.d (DS pI [])),(5,dI z0.1)]
def Abv (y1:Int×Ai) (z0:Int×Int×(List Int)):List Res:=[v0_ z0.2.2,.box 137 (H4 y1.2)]
theorem A1x (x0:List Int) (x1c0:Ai) (r:(List Int)×Ai) (h:T9 x0 x1c0=some r):CO 160 [.d (.os 0),.d (.fn (.func 161) [] [.o 1 0])] [.sl 3 1 (x0.map pI),.box 137 (H4 x1c0)] (.d (.os 2)) [.non,.box 137 (H4 r.2),.sl 3 1 (r.1.map pI)]:=by
 unfold T9 at h
 refine co 42 Tryz.func160 λ C hC=>?_
 obtain⟨y1,h2,h⟩:=Az h
 refine wn Ir 28 [] [pc A2z (A1k x0 x1c0 _ h2) [0,1]] [] 2 [0,1] [0,1,4,5,12] hC [] ?_
 rcases cB h with⟨h3,h⟩ | ⟨h3,h⟩
 ·replace h:=sI h
  subst h
  exact wr Ir 24 [true] [] [.mv 0] 2 n3_ hC [pq h3]
 ·refine ws Ir 26 [false] [] [] 2 [0,1] (M3 (y1.1,w64 (y1.1+1),x0)) (Qm y1 (y1.1,w64 (y1.1+1),x0)) hC [pq h3] ?_
  obtain⟨w0,hm0,hret0,hnext0⟩:=Ar h
  clear h
  refine wc w0 (Aap) (Abv y1) ?_ λ z0 hs0=>?_
  ·refine wb ?_
   refine ww (M3) (Qm y1) hm0 λ z0 w0b h hb0 hr0=>?_
   unfold T8 at h
   rcases cB h with⟨h4,h⟩ | ⟨h4,h⟩
   ·obtain⟨y5,h6,y7,h8,h⟩:=Bb h
    refine wn Ir 32 [true] [pl pI z0.2.2,pr pI h6,pn pI h6,pb Asx (Ar4 y5 y1.2 _ h8)] [] 2 [0,1] [0,1,4,5,6,7,29] hC [pq h4] ?_
    rcases cB h with⟨h9,h⟩ | ⟨h9,h⟩
    ·obtain⟨y10,h11,y12,h13,h⟩:=Bb h
     exact wx w0b (M3) (Qm y1) Ir 27 [true] [pr pI h11,pu pI h11 h13] [] 2 [0,1] _ hC [pq h9] (sI h).symm
    ·exact wx w0b (M3) (Qm y1) Ir 25 [false] [] [] 2 [0,1] _ hC [pq h9] (sI h).symm
   ·exact wx w0 (Aap) (Abv y1) Ir 26 [false] [pl pI z0.2.2] [] 2 [0,1] (z0.1,z0.2.1,z0.2.2) hC [pq h4] (hb0 _ (sI h).symm)
  ·have h:=hnext0 _ hs0
   obtain⟨u15,h14,u17,h16,h⟩:=Bb h
   replace h:=sI h
   subst h
   (rw [List.map_take];exact jT (bs:=[]) mixed Ir 25 [] [.bnd (z0.2.2.map pI).length z0.1 (((z0.2.2.map pI).length:Nat):Int) (ln z0.2.2),.eqr ((z0.2.2.map pI).take (Int.toNat z0.1)++(List.replicate ((Int.toNat (ln z0.2.2))-(Int.toNat z0.1)) (pI 0)++(z0.2.2.map pI).drop ((Int.toNat z0.1)+((Int.toNat (ln z0.2.2))-(Int.toNat z0.1))))) ((F7 z0.2.2 (Int.toNat z0.1) ((Int.toNat (ln z0.2.2))-(Int.toNat z0.1)) 0).map pI),.bnd ((F7 z0.2.2 (Int.toNat z0.1) ((Int.toNat (ln z0.2.2))-(Int.toNat z0.1)) 0).map pI).length 0 z0.1 z0.1] [.trunc 4] [.tmp 4] 2 n3_ rfl hC ⟨E9 (by simp) (by simp) h14,yF pI rfl,E9 (by simp) rfl h16,trivial⟩ trivial (by kernel_rfl))
theorem A3c:EN 160:=en Tryz.func160
def Zu:List Nat:=[0,1,2,3,4,6,7,8,32,43]
theorem A6y (x0:Aa) (x1:Ab) (x2:Int) (r:Int×Bool) (h:Ai9 x0 x1 x2=some r):CO 149 [.agg (d30 x0),.agg (d39 x1),.d (I x2)] [] (.tup [.d (I r.1),.d (Bo r.2)]) []:=by
 unfold Ai9 at h
 refine co 50 Tryz.func149 λ C hC=>?_
 obtain⟨y1,h2,y3,h4,h⟩:=Bb h
 refine wn Zu 26 [] [pc e62 (k62 x0 x1 _ h2) [],pL_ [(((y1 != 0) || (decide (x2<0))),false)] q72 x0.Ac,pR q93 h4] [] 0 [0,1] [2,3,4,6,7,32] hC [] ?_
 rcases cB h with⟨h5,h⟩ | ⟨h5,h⟩
 ·replace h:=sI h
  subst h
  exact wr Zu 24 [true] [] [] 0 [] hC [pq h5]
 ·obtain⟨y6,h7,y8,h9,y10,h11,h⟩:=B0 h
  refine wn Zu 28 [false] [pc e83 (k83 x0 2 x2 _ h7) [],pr pI h9,pn pI h9,pr pB h11] [] 0 [0] [3,6,7,8,43] hC [pq h5] ?_
  rcases cB h with⟨h12,h⟩ | ⟨h12,h⟩
  ·replace h:=sI h
   subst h
   exact wr Zu 24 [true] [] [] 0 [] hC [pq h12]
  ·obtain⟨y13,h14,h⟩:=Az h
   replace h:=sI h
   subst h
   exact wr Zu 25 [false] [pr q70 h14] [] 0 [] hC [pq h12]
theorem A7z:EN 149:=en Tryz.func149
def Sj:List Nat:=[0,1,2,3,4,5,6,7,8,12,38,50,51,52,53,77]
def Adt (x1:Ab) (n0:Nat) (z0:Bool):St:=[(2,dO 0 0),(3,dO 1 0),(4,dI 0),(6,dB z0),(50,.d (DS pI x1.Aq)),(51,dI (ln x1.Aq)),(52,dI (cnt 0 n0))]
def Ao0 (x0:Aa) (x1:Ab) (n0:Nat) (z0:Bool):List Res:=[.box 30 (d30 x0),.box 39 (d39 x1)]
def Aqu  (z0:Bool):St:=[(4,dI 0),(6,dB z0)]
def Aud  (z0:Bool):List Res:=[]
theorem k65 (x0:Aa) (x1:Ab) (r:Int) (h:F65 x0 x1=some r):CO 65 [.agg (d30 x0),.agg (d39 x1)] [] (.d (I r)) []:=by
 unfold F65 at h
 refine co 78 Tryz.func65 λ C hC=>?_
 obtain⟨y1,h2,h⟩:=Az h
 rcases cB h with⟨h3,h⟩ | ⟨h3,h⟩
 ·replace h:=sI h
  subst h
  exact wr Sj 31 [true] [pc e86 (k86 x0 _ h2) []] [] 0 [] hC [pq h3]
 ·refine wn Sj 33 [false] [pc e86 (k86 x0 _ h2) [],pl pB x1.Ag,pl q70 x0.Ad,pL_ [(((ln x1.Ag) != (ln x0.Ad)),false)] q93 x1.Ac,pL_ [(((ln x1.Ag) != (ln x0.Ad)),false)] q72 x0.Ac,pL_ [((((ln x1.Ag) != (ln x0.Ad)) || ((ln x1.Ac) != (ln x0.Ac))),false)] pI x1.Aq,pL_ [((((ln x1.Ag) != (ln x0.Ad)) || ((ln x1.Ac) != (ln x0.Ac))),false)] q81 x0.Ae] [] 0 [0,1] [2,3,4,38] hC [pq h3] ?_
  rcases cB h with⟨h4,h⟩ | ⟨h4,h⟩
  ·replace h:=sI h
   subst h
   exact wr Sj 24 [true] [] [] 0 [] hC [pq h4]
  ·obtain⟨y5,h6,y7,h8,h⟩:=Bb h
   refine ws Sj 28 [false] [pc e87 (k87 x0 x1.Ao _ h6) [],pw A5l (λ hg=>A40 x1.Ac _ (Bf h8 hg)) [],pl pI x1.Aq] [] 0 [0,1] (Adt x1 0 (y5&&(!y7))) (Ao0 x0 x1 0 (y5&&(!y7))) hC [pq h4] ?_
   obtain⟨w0,hm0,hret0,hnext0⟩:=Ar h
   clear h
   refine wc w0 (Aqu) (Aud) ?_ λ z0 hs0=>?_
   ·refine wb ?_
    refine Bv 50 rfl λ hl0=>?_
    refine wl (Adt x1) (Ao0 x0 x1) hm0 (λ z0 hn0=>?_) λ n0 a0 z0 w0b hi0 hx0 h hb0 hr0=>?_
    ·clear hm0
     exact wx w0 (Aqu) (Aud) Sj 26 [false] [] [] 0 [] _ hC [pq (Be hl0)] hn0
    ·unfold Ail at h
     obtain⟨y9,h10,y11,h12,h⟩:=Bb h
     exact wx w0b (Adt x1 (n0+1)) (Ao0 x0 x1 (n0+1)) Sj 33 [true] [pt hx0 hl0,pR q81 h10,⟨.when [(z0,true)] (.call 91 [dI a0,dI 0,dI y9.Load] [] (dB (F91 a0 0 y9.Load)) [] []),λ hg=>⟨e91,(k91 a0 0 y9.Load _ rfl)⟩⟩,pw e92 (λ hg=>k92 x0 x1 (cnt 0 n0) _ (Bf h12 hg)) []] [] 0 [0,1] _ hC [pq (A_ hi0 hl0)] (sI h).symm
   ·have h:=hnext0 _ hs0
    rcases cB h with⟨h13,h⟩ | ⟨h13,h⟩
    ·replace h:=sI h
     subst h
     exact wr Sj 27 [true] [] [] 0 [] hC [pq h13]
    ·replace h:=sI h
     subst h
     exact wr Sj 28 [false] [] [] 0 [] hC [pq h13]
theorem e65:EN 65:=en Tryz.func65
def Pz:List Nat:=[0,1,2,3,4,6,7,9,24,27,28,29,30,37]
def uN (y4:(List Int)) (n0:Nat) (z0:Unit):St:=[(3,dO 0 0),(4,dO 1 0),(6,dI 0),(7,dB false),(27,dS 2),(28,dI (ln y4)),(29,dI (cnt 0 n0))]
def Ahx (x0:Aa) (x1:Ab) (y4:(List Int)) (n0:Nat) (z0:Unit):List Res:=[.box 30 (d30 x0),.box 39 (d39 x1),v0_ y4]
def Akp  (z0:Unit):St:=[(6,dI 0),(7,dB false)]
def Al6  (z0:Unit):List Res:=[]
theorem A6x (x0:Aa) (x1:Ab) (x2:Int) (r:Int×Bool) (h:Ai8 x0 x1 x2=some r):CO 151 [.agg (d30 x0),.agg (d39 x1),.d (I x2)] [] (.tup [.d (I r.1),.d (Bo r.2)]) []:=by
 unfold Ai8 at h
 refine co 45 Tryz.func151 λ C hC=>?_
 obtain⟨y1,h2,h⟩:=Az h
 refine wn Pz 26 [] [pc e62 (k62 x0 x1 _ h2) [],pL_ [(((y1 != 0) || (decide (x2<0))),false)] q81 x0.Ae] [] 0 [0,1] [2,3,4,6,7,24] hC [] ?_
 rcases cB h with⟨h3,h⟩ | ⟨h3,h⟩
 ·replace h:=sI h
  subst h
  exact wr Pz 24 [true] [] [] 0 [] hC [pq h3]
 ·obtain⟨y4,h5,h⟩:=Az h
  refine ws Pz 26 [false] [pc e83 (k83 x0 3 x2 _ h5) [],pl pI y4] [] 0 n3_ (uN y4 0 ()) (Ahx x0 x1 y4 0 ()) hC [pq h3] ?_
  obtain⟨w0,hm0,hret0,hnext0⟩:=Ar h
  clear h
  refine wc w0 (Akp) (Al6) ?_ λ z0 hs0=>?_
  ·refine wb ?_
   refine Cj 27 2 rfl rfl λ hl0=>?_
   refine wl (uN y4) (Ahx x0 x1 y4) hm0 (λ z0 hn0=>?_) λ n0 a0 z0 w0b hi0 hx0 h hb0 hr0=>?_
   ·clear hm0
    exact wx w0 (Akp) (Al6) Pz 26 [false] [] [] 0 [] _ hC [pq (Be hl0)] hn0
   ·unfold V4 at h
    obtain⟨y6,h7,h⟩:=Az h
    rcases cB h with⟨h8,h⟩ | ⟨h8,h⟩
    ·obtain⟨y9,h10,h⟩:=Az h
     have hq:=hret0 _ (hr0 _ (sI h).symm)
     replace hq:=sI hq
     subst hq
     exact wr Pz 35 [true,true] [pr pI (Bn hx0 hl0),pn pI (Bn hx0 hl0),pr pB h7,pr q70 h10] [] 0 [] hC [pq (A_ hi0 hl0),pq h8]
    ·exact wx w0b (uN y4 (n0+1)) (Ahx x0 x1 y4 (n0+1)) Pz 36 [true,false] [pr pI (Bn hx0 hl0),pn pI (Bn hx0 hl0),pr pB h7] [] 0 n3_ _ hC [pq (A_ hi0 hl0),pq h8] (sI h).symm
  ·have h:=hnext0 _ hs0
   replace h:=sI h
   subst h
   exact wr Pz 23 [] [] [] 0 [] hC []
theorem A7y:EN 151:=en Tryz.func151
def Zm:List Nat:=[0,1,2,4,6,7,8,14]
def Wz  (z0:Int×(List Int)×Int×(List Am)):St:=[(0,dO 0 0),(4,dO 4 0),(6,.d (DS q63 [])),(7,dS 5),(8,dI z0.1)]
def yU (x1:Aa) (z0:Int×(List Int)×Int×(List Am)):List Res:=(.box 77 [DS pI z0.2.1,I z0.2.2.1]::zs x1 [.box 30 [I x1.An,.os 1,.os 2,.os 3,I x1.Phase,I x1.Ap],v6_ (Ef z0)])
def Aex  (z0:Int×(List Int)×Int×(List Am)):St:=[(6,.d (DS q63 [])),(7,dS 4)]
def Ahn (x1:Aa) (z0:Int×(List Int)×Int×(List Am)):List Res:=(.box 77 [DS pI z0.2.1,I z0.2.2.1]::zs x1 [v6_ (Ef z0)])
theorem A5a (x0:Ah) (x1:Aa) (x2:Int) (r:(List Am)×Ah) (h:qP x0 x1 x2=some r):CO 20 [.d (.o 0 0),.agg [I x1.An,.os 1,.os 2,.os 3,I x1.Phase,I x1.Ap],.d (I x2)] (.box 77 (d77 x0)::zs x1 []) (.d (.os 4)) (.box 77 (d77 r.2)::zs x1 [v6_ r.1]):=by
 unfold qP at h
 refine co 24 Tryz.func20 λ C hC=>?_
 obtain⟨y1,h2,h⟩:=Az h
 refine ws Zm 28 [] [pc e19 (k19 x0 (w64 (x2+1)) _ h2) [0]] [.own 7 63 3] 4 n6_ (Wz (y1.1,y1.2.L,y1.2.At,([]:List Am))) (yU x1 (y1.1,y1.2.L,y1.2.At,([]:List Am))) hC [] ?_
 obtain⟨w0,hm0,hret0,hnext0⟩:=Ar h
 clear h
 refine wc w0 (Aex) (Ahn x1) ?_ λ z0 hs0=>?_
 ·refine wb ?_
  refine ww (Wz) (yU x1) hm0 λ z0 w0b h hb0 hr0=>?_
  unfold Yp at h
  rcases cB h with⟨h3,h⟩ | ⟨h3,h⟩
  ·obtain⟨y4,h5,y6,h7,h⟩:=Bb h
   exact wx w0b (Wz) (yU x1) Zm 31 [true] [pc A5t (A48 (⟨z0.2.1,z0.2.2.1⟩:Ah) x1 _ h5) n4_,pa q63 3 h7] [] 4 [0,1,2,3,4,6] _ hC [pq h3] (sI h).symm
  ·exact wx w0 (Aex) (Ahn x1) Zm 26 [false] [] [] 4 [0,1,2,3,5] (z0.1,z0.2.1,z0.2.2.1,(Ef z0)) hC [pq h3] (hb0 _ (sI h).symm)
 ·have h:=hnext0 _ hs0
  replace h:=sI h
  subst h
  exact wr Zm 23 [] [] [] 4 n5_ hC []
theorem A5v:EN 20:=en Tryz.func20
def Hg:List Nat:=[0,1,4,5,6,8,13,14,15,16,32,38,39,40,41]
def M6 (x0:Ay) (n0:Nat) (z0:Sg9):St:=[(0,dO 0 0),(1,.d (.fn (.func 157) [.o 0 0] [])),(4,dS 6),(13,.d (DS q70 x0.Ak.Ad)),(14,dI (ln x0.Ak.Ad)),(15,dI (cnt 0 n0))]
def Qp  (n0:Nat) (z0:Sg9):List Res:=[.box 214 [I z0.1,DS q70 z0.2.1,DS q72 z0.2.2.1,DS q81 (g3_ z0),I (g4_ z0),I (g5_ z0),.os 7,.os 8,.os 9,.os 10,.os 11],.non,.non,.non,.non,.non,v0_ (g6_ z0),v2_ (g7_ z0),v4_ (g8_ z0),v0_ (g9_ z0),v3_ (Dk z0),v6_ (H9 z0)]
def Aav  (z0:Sg9):St:=[(0,dO 0 0),(4,dS 6)]
def Ab1  (z0:Sg9):List Res:=[.box 214 [I z0.1,DS q70 z0.2.1,DS q72 z0.2.2.1,DS q81 (g3_ z0),I (g4_ z0),I (g5_ z0),.os 7,.os 8,.os 9,.os 10,.os 11],.non,.non,.non,.non,.non,v0_ (g6_ z0),v2_ (g7_ z0),v4_ (g8_ z0),v0_ (g9_ z0),v3_ (Dk z0),v6_ (H9 z0)]
def Rz (z0:Sg9) (n1:Nat) (z1:Sg8):St:=[(0,dO 0 0),(38,dS 6),(39,dI (ln (g6_ z0))),(40,dI (cnt 0 n1))]
def Yf (z0:Sg9) (n1:Nat) (z1:Sg8):List Res:=[.box 214 [I z1.1,DS q70 z1.2.1,DS q72 z1.2.2.1,DS q81 (g3_ z1),I (g4_ z1),I (g5_ z1),.os 7,.os 8,.os 9,.os 10,.os 11],.non,.non,.non,.non,.non,v0_ (g6_ z0),v2_ (g6_ z1),v4_ (g7_ z1),v0_ (g8_ z1),v3_ (g9_ z1),v6_ (Fm z1)]
def Aau  (z1:Sg8):St:=[]
def Ab0  (z1:Sg8):List Res:=[.box 214 [I z1.1,DS q70 z1.2.1,DS q72 z1.2.2.1,DS q81 (g3_ z1),I (g4_ z1),I (g5_ z1),.os 6,.os 7,.os 8,.os 9,.os 10],.non,.non,.non,.non,.non,v2_ (g6_ z1),v4_ (g7_ z1),v0_ (g8_ z1),v3_ (g9_ z1),v6_ (Fm z1)]
theorem A12 (x0:Ay) (r:Ay) (h:Ug x0=some r):CO 156 [.d (.o 0 0),.d (.fn (.func 157) [.o 0 0] [])] (.box 214 (zb x0.Ak [.os 1,.os 2,.os 3,.os 4,.os 5])::zp x0.Au [v6_ x0.acts]) (.tup []) (.box 214 (zb r.Ak [.os 6,.os 7,.os 8,.os 9,.os 10]) :: .non :: .non :: .non :: .non :: .non::zp r.Au [v6_ r.acts]):=by
 unfold Ug at h
 refine co 48 Tryz.func156 λ C hC=>?_
 refine ws Hg 26 [] [pl q70 x0.Ak.Ad] [.own 4 3 1,.mv 1,.mv 2,.mv 3,.mv 4,.mv 5] 6 Fi (M6 x0 0 (zt x0.Ak (([]:List Int),zu x0.Au x0.acts))) (Qp 0 (zt x0.Ak (([]:List Int),zu x0.Au x0.acts))) hC [] ?_
 obtain⟨w0,hm0,hret0,hnext0⟩:=Ar h
 clear h
 refine wc w0 (Aav) (Ab1) ?_ λ z0 hs0=>?_
 ·refine wb ?_
  refine Bv 13 rfl λ hl0=>?_
  refine wl (M6 x0) (Qp) hm0 (λ z0 hn0=>?_) λ n0 a0 z0 w0b hi0 hx0 h hb0 hr0=>?_
  ·clear hm0
   exact wx w0 (Aav) (Ab1) Hg 26 [false] [] [] 6 Fi _ hC [pq (Be hl0)] hn0
  ·unfold Uf at h
   obtain⟨y1,h2,y3,h4,h⟩:=Bb h
   refine wn Hg 32 [true] [pt hx0 hl0,pr pB h2,pn pB h2,⟨.whenR [(y1,true)] (.call 157 [dO 0 0,.agg (d70 a0)] [.box 214 [I z0.1,DS q70 z0.2.1,DS q72 z0.2.2.1,DS q81 (g3_ z0),I (g4_ z0),I (g5_ z0),.os 1,.os 2,.os 3,.os 4,.os 5],v2_ (g7_ z0),v4_ (g8_ z0),v0_ (g9_ z0),v3_ (Dk z0),v6_ (H9 z0)] (dB y3.1) (.box 214 (zb y3.2.Ak [.os 1,.os 2,.os 3,.os 4,.os 5])::zp y3.2.Au [v6_ y3.2.acts]) [0,7,8,9,10,11]),⟨λ hg=>⟨A3e,(A1z (⟨(⟨z0.1,z0.2.1,z0.2.2.1,(g3_ z0),(g4_ z0),(g5_ z0)⟩:Aa),(⟨(g7_ z0),(g8_ z0),(g9_ z0),(Dk z0)⟩:Ab),(H9 z0)⟩:Ay) a0 _ (Bf h4 hg))⟩,λ hg=>by have e:=Hq h4 hg;subst e;rfl⟩⟩] [] 6 Fi [0,1,4,5,13,14,15,32] hC [pq (A_ hi0 hl0)] ?_
   rcases cB h with⟨h5,h⟩ | ⟨h5,h⟩
   ·obtain⟨y6,h7,h⟩:=Az h
    exact wx w0b (M6 x0 (n0+1)) (Qp (n0+1)) Hg 25 [true] [pa pI 1 h7] [] 6 [0,1,2,3,4,5,12,7,8,9,10,11] _ hC [pq h5] (sI h).symm
   ·exact wx w0b (M6 x0 (n0+1)) (Qp (n0+1)) Hg 25 [false] [] [] 6 Fi _ hC [pq h5] (sI h).symm
 ·have h:=hnext0 _ hs0
  refine ws Hg 23 [] [pl pI (g6_ z0)] [] 6 Fi (Rz z0 0 (z0.1,z0.2.1,z0.2.2.1,(g3_ z0),(g4_ z0),(g5_ z0),(g7_ z0),(g8_ z0),(g9_ z0),(Dk z0),(H9 z0))) (Yf z0 0 (z0.1,z0.2.1,z0.2.2.1,(g3_ z0),(g4_ z0),(g5_ z0),(g7_ z0),(g8_ z0),(g9_ z0),(Dk z0),(H9 z0))) hC [] ?_
  obtain⟨w1,hm1,hret1,hnext1⟩:=Ar h
  clear h
  refine wc w1 (Aau) (Ab0) ?_ λ z1 hs1=>?_
  ·refine wb ?_
   refine Cj 38 6 rfl rfl λ hl1=>?_
   refine wl (Rz z0) (Yf z0) hm1 (λ z1 hn1=>?_) λ n1 a1 z1 w1b hi1 hx1 h hb1 hr1=>?_
   ·clear hm1
    exact wx w1 (Aau) (Ab0) Hg 26 [false] [] [] 6 [0,1,2,3,4,5,7,8,9,10,11] _ hC [pq (Be hl1)] hn1
   ·unfold Nv at h
    obtain⟨y8,h9,h⟩:=Az h
    exact wx w1b (Rz z0 (n1+1)) (Yf z0 (n1+1)) Hg 33 [true] [pr pI (Bn hx1 hl1),pn pI (Bn hx1 hl1),pc Agk (Aft (⟨(⟨z1.1,z1.2.1,z1.2.2.1,(g3_ z1),(g4_ z1),(g5_ z1)⟩:Aa),(⟨(g6_ z1),(g7_ z1),(g8_ z1),(g9_ z1)⟩:Ab),(Fm z1)⟩:Ay) a1 _ h9) [0,7,8,9,10,11]] [] 6 [0,1,2,3,4,5,6,7,8,9,10,12] _ hC [pq (A_ hi1 hl1)] (sI h).symm
  ·have h:=hnext1 _ hs1
   replace h:=sI h
   subst h
   exact wf Hg 20 [] [] [] 6 Anc hC []
theorem A3h:EN 156:=en Tryz.func156
theorem A1m (x0:List Int) (x1c0:Aa) (r:(List Int)×Aa) (h:Ty x0 x1c0=some r):CO 190 [.d (.os 0),.d (.fn (.func 191) [] [.o 1 0])] [v0_ x0,.box 30 (d30 x1c0)] (.tup []) [v0_ r.1,.box 30 (d30 r.2)]:=by
 unfold Ty at h
 refine co 9 Tryz.func190 λ C hC=>?_
 obtain⟨y1,h2,h⟩:=Az h
 replace h:=sI h
 subst h
 exact wf [0,1] 21 [] [pl pI x0,pc A2x (A1i x0 (ln x0) x1c0 _ h2) [0,1]] [] 2 [0,1] hC []
theorem A21:EN 190:=en Tryz.func190
def Hj:List Nat:=[0,1,2,3,4,6,7,8,9,10,11,12,13,14,28,37,38,39,54,64,65,66,81]
def U0 (x0:Aa) (z0:Int×(List Int)):St:=[(3,dO 0 0),(4,dO 1 0),(6,dO 2 0),(7,dB false),(8,dO 7 0),(37,dI (ln x0.Ac)),(38,dI z0.1)]
def qA (x0:Aa) (x1:Ab) (y4:(List Int)) (z0:Int×(List Int)):List Res:=[.box 30 (d30 x0),.box 39 (d39 x1),.box 137 [.os 3,.os 4,.os 5],v0_ ([]:List Int),v0_ ([]:List Int),v0_ ([]:List Int),v0_ y4,.box 137 [.os 6,.os 8,.os 9],v0_ z0.2,v0_ ([]:List Int)]
def Ak5  (z0:Int×(List Int)):St:=[(3,dO 0 0),(4,dO 1 0),(6,dO 2 0),(7,dB false),(8,dO 7 0)]
def Amm (x0:Aa) (x1:Ab) (y4:(List Int)) (z0:Int×(List Int)):List Res:=[.box 30 (d30 x0),.box 39 (d39 x1),.box 137 [.os 3,.os 4,.os 5],v0_ ([]:List Int),v0_ ([]:List Int),v0_ ([]:List Int),v0_ y4,.box 137 [.os 6,.os 8,.os 9],v0_ z0.2,v0_ ([]:List Int)]
def Uz (x0:Aa) (z1:Int×(List Int)):St:=[(3,dO 0 0),(4,dO 1 0),(6,dO 2 0),(7,dB false),(8,dO 7 0),(64,dI (ln x0.Ae)),(65,dI z1.1)]
def jZ (x0:Aa) (x1:Ab) (y4:(List Int)) (z0:Int×(List Int)) (z1:Int×(List Int)):List Res:=[.box 30 (d30 x0),.box 39 (d39 x1),.box 137 [.os 3,.os 4,.os 5],v0_ ([]:List Int),v0_ ([]:List Int),v0_ ([]:List Int),v0_ y4,.box 137 [.os 6,.os 8,.os 9],v0_ z0.2,v0_ z1.2]
def Ak4  (z1:Int×(List Int)):St:=[(6,dO 0 0),(7,dB false),(8,dO 5 0)]
def Aml (y4:(List Int)) (z0:Int×(List Int)) (z1:Int×(List Int)):List Res:=[.box 137 [.os 1,.os 2,.os 3],v0_ ([]:List Int),v0_ ([]:List Int),v0_ ([]:List Int),v0_ y4,.box 137 [.os 4,.os 6,.os 7],v0_ z0.2,v0_ z1.2]
theorem A7c (x0:Aa) (x1:Ab) (x2:Int) (r:Ai×Bool) (h:Aji x0 x1 x2=some r):CO 112 [.agg (d30 x0),.agg (d39 x1),.d (I x2)] [] (.tup [.agg [.os 0,.os 1,.os 2],.d (Bo r.2)]) [v0_ r.1.An,v0_ r.1.Ac,v0_ r.1.Ae]:=by
 unfold Aji at h
 refine co 90 Tryz.func112 λ C hC=>?_
 obtain⟨y1,h2,h⟩:=Az h
 refine wn Hj 26 [] [pc e62 (k62 x0 x1 _ h2) []] [.ownb 2 0 3 1,.ownb 2 1 3 1,.ownb 2 2 3 1] 0 n6_ [2,3,4,6,7,28] hC [] ?_
 rcases cB h with⟨h3,h⟩ | ⟨h3,h⟩
 ·replace h:=sI h
  subst h
  exact wr Hj 24 [true] [] [.ownb 2 0 3 1,.ownb 2 1 3 1,.ownb 2 2 3 1] 0 [6,7,8] hC [pq h3]
 ·obtain⟨y4,h5,h⟩:=Az h
  refine ws Hj 28 [false] [pc A70 (A6z x0 x1 x2 _ h5) [],pl q72 x0.Ac] [.ownb 7 1 3 1,.ownb 7 2 3 1] 0 Gs (U0 x0 (0,([]:List Int))) (qA x0 x1 y4 (0,([]:List Int))) hC [pq h3] ?_
  obtain⟨w0,hm0,hret0,hnext0⟩:=Ar h
  clear h
  refine wc w0 (Ak5) (Amm x0 x1 y4) ?_ λ z0 hs0=>?_
  ·refine wb ?_
   refine ww (U0 x0) (qA x0 x1 y4) hm0 λ z0 w0b h hb0 hr0=>?_
   unfold zN at h
   rcases cB h with⟨h6,h⟩ | ⟨h6,h⟩
   ·obtain⟨y7,h8,y9,h10,h⟩:=Bb h
    refine wn Hj 34 [true] [pc A7z (A6y x0 x1 z0.1 _ h8) [],pv A3k (λ hg=>A15 y4 y7.1 _ (Bf h10 hg))] [] 0 Gs [3,4,6,7,8,9,37,38,54] hC [pq h6] ?_
    rcases cB h with⟨h11,h⟩ | ⟨h11,h⟩
    ·obtain⟨y12,h13,h⟩:=Az h
     exact wx w0b (U0 x0) (qA x0 x1 y4) Hj 25 [true] [pa pI 1 h13] [] 0 [0,1,2,3,4,5,6,7,10,9] _ hC [pq h11] (sI h).symm
    ·exact wx w0b (U0 x0) (qA x0 x1 y4) Hj 25 [false] [] [] 0 Gs _ hC [pq h11] (sI h).symm
   ·exact wx w0 (Ak5) (Amm x0 x1 y4) Hj 26 [false] [] [] 0 Gs (z0.1,z0.2) hC [pq h6] (hb0 _ (sI h).symm)
  ·have h:=hnext0 _ hs0
   refine ws Hj 24 [] [pl q81 x0.Ae] [] 0 Gs (Uz x0 (0,([]:List Int))) (jZ x0 x1 y4 z0 (0,([]:List Int))) hC [] ?_
   obtain⟨w1,hm1,hret1,hnext1⟩:=Ar h
   clear h
   refine wc w1 (Ak4) (Aml y4 z0) ?_ λ z1 hs1=>?_
   ·refine wb ?_
    refine ww (Uz x0) (jZ x0 x1 y4 z0) hm1 λ z1 w1b h hb1 hr1=>?_
    unfold zM at h
    rcases cB h with⟨h14,h⟩ | ⟨h14,h⟩
    ·obtain⟨y15,h16,y17,h18,h⟩:=Bb h
     refine wn Hj 34 [true] [pc A7y (A6x x0 x1 z1.1 _ h16) [],pv A3k (λ hg=>A15 y4 y15.1 _ (Bf h18 hg))] [] 0 Gs [3,4,6,7,8,12,64,65,81] hC [pq h14] ?_
     rcases cB h with⟨h19,h⟩ | ⟨h19,h⟩
     ·obtain⟨y20,h21,h⟩:=Az h
      exact wx w1b (Uz x0) (jZ x0 x1 y4 z0) Hj 25 [true] [pa pI 1 h21] [] 0 [0,1,2,3,4,5,6,7,8,10] _ hC [pq h19] (sI h).symm
     ·exact wx w1b (Uz x0) (jZ x0 x1 y4 z0) Hj 25 [false] [] [] 0 Gs _ hC [pq h19] (sI h).symm
    ·exact wx w1 (Ak4) (Aml y4 z0) Hj 26 [false] [] [] 0 [2,3,4,5,6,7,8,9] (z1.1,z1.2) hC [pq h14] (hb1 _ (sI h).symm)
   ·have h:=hnext1 _ hs1
    replace h:=sI h
    subst h
    exact wr Hj 23 [] [] [] 0 [4,6,7] hC []
theorem A8d:EN 112:=en Tryz.func112
def Zv:List Nat:=[0,1,2,4,6,7,8,14]
def W0  (z0:Sg2):St:=[(0,dO 0 0),(4,dO 4 0),(6,.d (DS (pL q63) [])),(7,dS 5),(8,dI z0.1)]
def yV (x1:Aa) (z0:Sg2):List Res:=(.box 77 [DS pI z0.2.1,I z0.2.2.1]::zs x1 [.box 30 [I x1.An,.os 1,.os 2,.os 3,I x1.Phase,I x1.Ap],.sl 58 1 (z0.2.2.2.map (pL q63))])
def Aey  (z0:Sg2):St:=[(6,.d (DS (pL q63) [])),(7,dS 4)]
def Aho (x1:Aa) (z0:Sg2):List Res:=(.box 77 [DS pI z0.2.1,I z0.2.2.1]::zs x1 [.sl 58 1 (z0.2.2.2.map (pL q63))])
theorem A5b (x0:Ah) (x1:Aa) (x2:Int) (r:(List (List Am))×Ah) (h:qW x0 x1 x2=some r):CO 13 [.d (.o 0 0),.agg [I x1.An,.os 1,.os 2,.os 3,I x1.Phase,I x1.Ap],.d (I x2)] (.box 77 (d77 x0)::zs x1 []) (.d (.os 4)) (.box 77 (d77 r.2)::zs x1 [.sl 58 1 (r.1.map (pL q63))]):=by
 unfold qW at h
 refine co 24 Tryz.func13 λ C hC=>?_
 obtain⟨y1,h2,h⟩:=Az h
 refine ws Zv 28 [] [pc e19 (k19 x0 (w64 (x2+1)) _ h2) [0]] [.own 7 58 1] 4 n6_ (W0 (y1.1,y1.2.L,y1.2.At,([]:List (List Am)))) (yV x1 (y1.1,y1.2.L,y1.2.At,([]:List (List Am)))) hC [] ?_
 obtain⟨w0,hm0,hret0,hnext0⟩:=Ar h
 clear h
 refine wc w0 (Aey) (Aho x1) ?_ λ z0 hs0=>?_
 ·refine wb ?_
  refine ww (W0) (yV x1) hm0 λ z0 w0b h hb0 hr0=>?_
  unfold Yt at h
  rcases cB h with⟨h3,h⟩ | ⟨h3,h⟩
  ·obtain⟨y6,h7,y8,h9,h⟩:=Bb h
   exact wx w0b (W0) (yV x1) Zv 31 [true] [⟨.call 20 [dO 0 0,.agg [I x1.An,.os 1,.os 2,.os 3,I x1.Phase,I x1.Ap],dI 2] (.box 77 [DS pI z0.2.1,I z0.2.2.1]::zs x1 []) (.d (DS q63 y6.1)) (.box 77 (d77 y6.2)::zs x1 [.non]) n4_,⟨A5v,(CallOk.frzAll [4] (show CO 20 [dO 0 0,.agg [I x1.An,.os 1,.os 2,.os 3,I x1.Phase,I x1.Ap],dI 2] (.box 77 [DS pI z0.2.1,I z0.2.2.1]::zs x1 []) (dS 4) (.box 77 (d77 y6.2)::zs x1 [v6_ y6.1]) from (A5a (⟨z0.2.1,z0.2.2.1⟩:Ah) x1 2 _ h7)) (by kernel_rfl))⟩⟩,pa (pL q63) 1 h9] [] 4 [0,1,2,3,4,7] _ hC [pq h3] (sI h).symm
  ·exact wx w0 (Aey) (Aho x1) Zv 26 [false] [] [] 4 [0,1,2,3,5] (z0.1,z0.2.1,z0.2.2.1,(Ef z0)) hC [pq h3] (hb0 _ (sI h).symm)
 ·have h:=hnext0 _ hs0
  replace h:=sI h
  subst h
  exact wr Zv 23 [] [] [] 4 n5_ hC []
theorem A5w:EN 13:=en Tryz.func13
def G5:List Nat:=[0,1,2,3,4,5,6,7,8,9,10,11,12,13,14,18,25,26,27,28,47,48,49,58,80,81,82,91]
def Ads (y4:(List Int)) (n0:Nat) (z0:(List Ai)):St:=[(2,dO 0 0),(3,dO 1 0),(4,.d (DS Bd [])),(5,dS 2),(6,dS 3),(25,dS 2),(26,dI (ln y4)),(27,dI (cnt 0 n0))]
def Aoz (x0:Aa) (x1:Ab) (y4:(List Int)) (n0:Nat) (z0:(List Ai)):List Res:=[.box 30 (d30 x0),.box 39 (d39 x1),v0_ y4,.dsl 137 3 4,.gh 3 [(3,1),(3,1),(3,1)] (z0.map Bd) none]
def Aqt  (z0:(List Ai)):St:=[(2,dO 0 0),(3,dO 1 0),(4,.d (DS Bd [])),(5,dS 2),(6,dS 3)]
def Auc (x0:Aa) (x1:Ab) (y4:(List Int)) (z0:(List Ai)):List Res:=[.box 30 (d30 x0),.box 39 (d39 x1),v0_ y4,.dsl 137 3 4,.gh 3 [(3,1),(3,1),(3,1)] (z0.map Bd) none]
def Y7 (x0:Aa) (z1:Int×(List Ai)):St:=[(2,dO 0 0),(3,dO 1 0),(4,.d (DS Bd [])),(5,dS 2),(6,dS 3),(47,dI (ln x0.Ac)),(48,dI z1.1)]
def Ac2 (x0:Aa) (x1:Ab) (y4:(List Int)) (z1:Int×(List Ai)):List Res:=[.box 30 (d30 x0),.box 39 (d39 x1),v0_ y4,.dsl 137 3 4,.gh 3 [(3,1),(3,1),(3,1)] (z1.2.map Bd) none]
def Aqs  (z1:Int×(List Ai)):St:=[(2,dO 0 0),(3,dO 1 0),(4,.d (DS Bd [])),(5,dS 2),(6,dS 3)]
def Aub (x0:Aa) (x1:Ab) (y4:(List Int)) (z1:Int×(List Ai)):List Res:=[.box 30 (d30 x0),.box 39 (d39 x1),v0_ y4,.dsl 137 3 4,.gh 3 [(3,1),(3,1),(3,1)] (z1.2.map Bd) none]
def Y6 (x0:Aa) (z2:Int×(List Ai)):St:=[(2,dO 0 0),(3,dO 1 0),(4,.d (DS Bd [])),(5,dS 2),(6,dS 3),(80,dI (ln x0.Ae)),(81,dI z2.1)]
def Ac1 (x0:Aa) (x1:Ab) (y4:(List Int)) (z2:Int×(List Ai)):List Res:=[.box 30 (d30 x0),.box 39 (d39 x1),v0_ y4,.dsl 137 3 4,.gh 3 [(3,1),(3,1),(3,1)] (z2.2.map Bd) none]
def Aqr  (z2:Int×(List Ai)):St:=[(4,.d (DS Bd [])),(6,dS 0)]
def Aua  (z2:Int×(List Ai)):List Res:=[.dsl 137 3 1,.gh 3 [(3,1),(3,1),(3,1)] (z2.2.map Bd) none]
theorem k67 (x0:Aa) (x1:Ab) (r:(List Ai)) (h:F67 x0 x1=some r):CO 67 [.agg (d30 x0),.agg (d39 x1)] [] (.d (.os 0)) [v8_ r]:=by
 unfold F67 at h
 refine co 113 Tryz.func67 λ C hC=>?_
 obtain⟨y1,h2,h⟩:=Az h
 refine wn G5 26 [] [pc e65 (k65 x0 x1 _ h2) []] [] 0 [0,1] [2,3,4,18] hC [] ?_
 rcases cB h with⟨h3,h⟩ | ⟨h3,h⟩
 ·replace h:=sI h
  subst h
  exact wr G5 24 [true] [] [.own 4 137 3] 0 [2] hC [pq h3]
 ·obtain⟨y4,h5,y6,h7,h⟩:=Bb h
  refine ws G5 30 [false] [pc e97 (k97 x0 x1 _ h5) [],⟨.roomZ (x0.An*(72+1)) (List.replicate (Int.toNat x0.An) (Bd (⟨([]:List Int),([]:List Int),([]:List Int)⟩:Ai))) (y6.map Bd),Si h7⟩,pl pI y4] [.deep 3 [(3,1),(3,1),(3,1)]] 0 n5_ (Ads y4 0 y6) (Aoz x0 x1 y4 0 y6) hC [pq h3] ?_
  obtain⟨w0,hm0,hret0,hnext0⟩:=Ar h
  clear h
  refine wc w0 (Aqt) (Auc x0 x1 y4) ?_ λ z0 hs0=>?_
  ·refine wb ?_
   refine Cj 25 2 rfl rfl λ hl0=>?_
   refine wl (Ads y4) (Aoz x0 x1 y4) hm0 (λ z0 hn0=>?_) λ n0 a0 z0 w0b hi0 hx0 h hb0 hr0=>?_
   ·clear hm0
    exact wx w0 (Aqt) (Auc x0 x1 y4) G5 26 [false] [] [] 0 n5_ _ hC [pq (Be hl0)] hn0
   ·unfold Aik at h
    obtain⟨y8,h9,y10,h11,y12,h13,h⟩:=B0 h
    exact wx w0b (Ads y4 (n0+1)) (Aoz x0 x1 y4 (n0+1)) G5 33 [true] [pr pI (Bn hx0 hl0),pn pI (Bn hx0 hl0),pr Bd h9,pn Bd h9,⟨.appD (z0.map Bd) (Int.toNat a0) (Bd y8) 0 (y8.An.map pI) ([cnt 0 n0].map pI) 1 (((y8.An.map pI).length+([cnt 0 n0].map pI).length)*(8+1)) (y10.map pI),Il 1 (λ _=>rfl) h9 rfl h11⟩,pr Bd h9,⟨.updD (z0.map Bd) (Int.toNat a0) (Int.toNat a0) (Bd y8) (Bd (⟨y10,y8.Ac,y8.Ae⟩:Ai)) (y12.map Bd),Ic h9 h13⟩] [] 0 [0,1,2,3,8] _ hC [pq (A_ hi0 hl0)] (sI h).symm
  ·have h:=hnext0 _ hs0
   refine ws G5 24 [] [pl q72 x0.Ac] [] 0 n5_ (Y7 x0 (0,z0)) (Ac2 x0 x1 y4 (0,z0)) hC [] ?_
   obtain⟨w1,hm1,hret1,hnext1⟩:=Ar h
   clear h
   refine wc w1 (Aqs) (Aub x0 x1 y4) ?_ λ z1 hs1=>?_
   ·refine wb ?_
    refine ww (Y7 x0) (Ac2 x0 x1 y4) hm1 λ z1 w1b h hb1 hr1=>?_
    unfold Aij at h
    rcases cB h with⟨h14,h⟩ | ⟨h14,h⟩
    ·obtain⟨y15,h16,h⟩:=Az h
     refine wn G5 34 [true] [pc e98 (k98 x0 x1 z1.1 _ h16) []] [] 0 n5_ [2,3,4,5,6,9,10,47,48,58] hC [pq h14] ?_
     rcases cB h with⟨h17,h⟩ | ⟨h17,h⟩
     ·obtain⟨y18,h19,y20,h21,y22,h23,y24,h25,h⟩:=Cr h
      exact wx w1b (Y7 x0) (Ac2 x0 x1 y4) G5 25 [true] [pr pI h19,pn pI h19,pr pI h19,pn pI h19,pr Bd h21,pn Bd h21,⟨.appD (z1.2.map Bd) (Int.toNat y18) (Bd y20) 1 (y20.Ac.map pI) ([z1.1].map pI) 1 (((y20.Ac.map pI).length+([z1.1].map pI).length)*(8+1)) (y22.map pI),Il 1 (λ _=>rfl) h21 rfl h23⟩,pr Bd h21,⟨.updD (z1.2.map Bd) (Int.toNat y18) (Int.toNat y18) (Bd y20) (Bd (⟨y20.An,y22,y20.Ae⟩:Ai)) (y24.map Bd),Ic h21 h25⟩] [] 0 [0,1,2,3,8] _ hC [pq h17] (sI h).symm
     ·exact wx w1b (Y7 x0) (Ac2 x0 x1 y4) G5 25 [false] [] [] 0 n5_ _ hC [pq h17] (sI h).symm
    ·exact wx w1 (Aqs) (Aub x0 x1 y4) G5 26 [false] [] [] 0 n5_ (z1.1,z1.2) hC [pq h14] (hb1 _ (sI h).symm)
   ·have h:=hnext1 _ hs1
    refine ws G5 24 [] [pl q81 x0.Ae] [] 0 n5_ (Y6 x0 (0,z1.2)) (Ac1 x0 x1 y4 (0,z1.2)) hC [] ?_
    obtain⟨w2,hm2,hret2,hnext2⟩:=Ar h
    clear h
    refine wc w2 (Aqr) (Aua) ?_ λ z2 hs2=>?_
    ·refine wb ?_
     refine ww (Y6 x0) (Ac1 x0 x1 y4) hm2 λ z2 w2b h hb2 hr2=>?_
     unfold Aii at h
     rcases cB h with⟨h26,h⟩ | ⟨h26,h⟩
     ·obtain⟨y27,h28,h⟩:=Az h
      refine wn G5 34 [true] [pc e99 (k99 x0 x1 z2.1 _ h28) []] [] 0 n5_ [2,3,4,5,6,12,13,80,81,91] hC [pq h26] ?_
      rcases cB h with⟨h29,h⟩ | ⟨h29,h⟩
      ·obtain⟨y30,h31,y32,h33,y34,h35,y36,h37,h⟩:=Cr h
       exact wx w2b (Y6 x0) (Ac1 x0 x1 y4) G5 25 [true] [pr pI h31,pn pI h31,pr pI h31,pn pI h31,pr Bd h33,pn Bd h33,⟨.appD (z2.2.map Bd) (Int.toNat y30) (Bd y32) 2 (y32.Ae.map pI) ([z2.1].map pI) 1 (((y32.Ae.map pI).length+([z2.1].map pI).length)*(8+1)) (y34.map pI),Il 1 (λ _=>rfl) h33 rfl h35⟩,pr Bd h33,⟨.updD (z2.2.map Bd) (Int.toNat y30) (Int.toNat y30) (Bd y32) (Bd (⟨y32.An,y32.Ac,y34⟩:Ai)) (y36.map Bd),Ic h33 h37⟩] [] 0 [0,1,2,3,8] _ hC [pq h29] (sI h).symm
      ·exact wx w2b (Y6 x0) (Ac1 x0 x1 y4) G5 25 [false] [] [] 0 n5_ _ hC [pq h29] (sI h).symm
     ·exact wx w2 (Aqr) (Aua) G5 26 [false] [] [] 0 [3,4] (z2.1,z2.2) hC [pq h26] (hb2 _ (sI h).symm)
    ·have h:=hnext2 _ hs2
     refine wn G5 1 [] [] [.flat 0] 0 [0] [4,6] hC [] ?_
     obtain⟨y38,h39,h⟩:=Az h
     replace h:=sI h
     subst h
     exact wr G5 22 [] [pc As1 (Ar8 z2.2 _ h39) [0]] [] 0 [1] hC []
theorem e67:EN 67:=en Tryz.func67
def Ane:List Nat:=[0,1,2,3,4,6,7,11]
theorem A6j (x0:Aa) (x1:Ab) (x2:Int) (r:Int×Bool) (h:Apn x0 x1 x2=some r):CO 209 [.agg (d30 x0),.agg (d39 x1),.d (I x2)] [] (.tup [.d (I r.1),.d (Bo r.2)]) []:=by
 unfold Apn at h
 refine co 18 Tryz.func209 λ C hC=>?_
 obtain⟨y1,h2,h⟩:=Az h
 refine wn Ane 26 [] [pc e65 (k65 x0 x1 _ h2) []] [] 0 [0,1] [2,3,4,6,7,11] hC [] ?_
 rcases cB h with⟨h3,h⟩ | ⟨h3,h⟩
 ·replace h:=sI h
  subst h
  exact wr Ane 24 [true] [] [] 0 [] hC [pq h3]
 ·obtain⟨y4,h5,h⟩:=Az h
  replace h:=sI h
  subst h
  exact wr Ane 25 [false] [pc e99 (k99 x0 x1 x2 _ h5) []] [] 0 [] hC [pq h3]
theorem A7k:EN 209:=en Tryz.func209
def U9:List Nat:=[0,1,2,3,4,6,7,8,9,13,18,29]
theorem A61 (x0:Aa) (x1:Ab) (x2:Int) (r:Ab×Int) (h:Ajc x0 x1 x2=some r):CO 137 [.agg (d30 x0),.agg (d39 x1),.d (I x2)] [] (.tup [.agg [.os 0,.os 1,.os 2,.os 3],.d (I r.2)]) (zp r.1 []):=by
 unfold Ajc at h
 refine co 49 Tryz.func137 λ C hC=>?_
 obtain⟨y1,h2,h⟩:=Az h
 refine wn U9 29 [] [pc e65 (k65 x0 x1 _ h2) []] [.ownb 2 0 4 1,.ownb 2 1 93 4,.ownb 2 2 3 1,.ownb 2 3 96 2] 0 n7_ [2,3,4,6,7,8,13] hC [] ?_
 rcases cB h with⟨h3,h⟩ | ⟨h3,h⟩
 ·replace h:=sI h
  subst h
  exact wr U9 24 [true] [] [.ownb 2 0 4 1,.ownb 2 1 93 4,.ownb 2 2 3 1,.ownb 2 3 96 2] 0 [7,8,9,10] hC [pq h3]
 ·rcases cB h with⟨h4,h⟩ | ⟨h4,h⟩
  ·replace h:=sI h
   subst h
   exact wr U9 27 [false,true] [pL_ [(decide (x2<0),false)] q70 x0.Ad] [.ownb 2 0 4 1,.ownb 2 1 93 4,.ownb 2 2 3 1,.ownb 2 3 96 2] 0 [7,8,9,10] hC [pq h3,pq h4]
  ·obtain⟨y5,h6,y7,h8,h⟩:=Bb h
   refine wn U9 27 [false,false] [pL_ [(decide (x2<0),false)] q70 x0.Ad,pr pB h6,pw Kx (λ hg=>Ku x1 2 x2 _ (Bf h8 hg)) []] [] 0 [1,2,3,4,5,6] [2,4,6,7,29] hC [pq h3,pq h4] ?_
   rcases cB h with⟨h9,h⟩ | ⟨h9,h⟩
   ·replace h:=sI h
    subst h
    exact wr U9 24 [true] [] [.ownb 1 0 4 1,.ownb 1 1 93 4,.ownb 1 2 3 1,.ownb 1 3 96 2] 0 [6,7,8,9] hC [pq h9]
   ·obtain⟨y10,h11,y12,h13,y14,h15,h⟩:=B0 h
    replace h:=sI h
    subst h
    exact wr U9 30 [false] [pc e66 (k66 x1 _ h11) [],pr pB h13,pu pB h13 h15] [] 0 [6,7,8,9] hC [pq h9]
theorem A72:EN 137:=en Tryz.func137
def Anf:List Nat:=[0,1,2,3,4,6,7,11]
theorem A1u (x0:Aa) (x1:Ab) (x2:Int) (r:Int×Bool) (h:yX x0 x1 x2=some r):CO 171 [.agg (d30 x0),.agg (d39 x1),.d (I x2)] [] (.tup [.d (I r.1),.d (Bo r.2)]) []:=by
 unfold yX at h
 refine co 18 Tryz.func171 λ C hC=>?_
 obtain⟨y1,h2,h⟩:=Az h
 refine wn Anf 26 [] [pc e65 (k65 x0 x1 _ h2) []] [] 0 [0,1] [2,3,4,6,7,11] hC [] ?_
 rcases cB h with⟨h3,h⟩ | ⟨h3,h⟩
 ·replace h:=sI h
  subst h
  exact wr Anf 24 [true] [] [] 0 [] hC [pq h3]
 ·obtain⟨y4,h5,h⟩:=Az h
  replace h:=sI h
  subst h
  exact wr Anf 25 [false] [pc e98 (k98 x0 x1 x2 _ h5) []] [] 0 [] hC [pq h3]
theorem A29:EN 171:=en Tryz.func171
def Py:List Nat:=[0,1,2,3,4,5,6,7,8,9,14,20,21,22,23,29]
def Uv (x1:Ab) (n0:Nat) (z0:(List Af)):St:=[(4,dO 0 0),(5,dI 0),(7,dO 9 0),(20,.d (DS q93 x1.Ac)),(21,dI (ln x1.Ac)),(22,dI (cnt 0 n0))]
def jV (y4:Ab) (n0:Nat) (z0:(List Af)):List Res:=(.box 39 [.os 1,.os 2,.os 3,.os 4]::ze [v2_ y4.Ag,v4_ z0,v0_ y4.Aq,v3_ y4.Ao,.box 39 [.os 5,.os 6,.os 7,.os 8]])
def Akl  (z0:(List Af)):St:=[(4,dO 0 0),(5,dI 0),(7,dO 9 0)]
def Al2 (y4:Ab) (z0:(List Af)):List Res:=(.box 39 [.os 1,.os 2,.os 3,.os 4]::ze [v2_ y4.Ag,v4_ z0,v0_ y4.Aq,v3_ y4.Ao,.box 39 [.os 5,.os 6,.os 7,.os 8]])
theorem A6r (x0:Aa) (x1:Ab) (r:Ab×Int) (h:Yq x0 x1=some r):CO 176 [.agg (d30 x0),.agg (d39 x1)] [] (.tup [.agg [.os 0,.os 1,.os 2,.os 3],.d (I r.2)]) (zp r.1 []):=by
 unfold Yq at h
 refine co 45 Tryz.func176 λ C hC=>?_
 obtain⟨y1,h2,h⟩:=Az h
 refine wn Py 28 [] [pc e65 (k65 x0 x1 _ h2) []] [.ownb 2 0 4 1,.ownb 2 1 93 4,.ownb 2 2 3 1,.ownb 2 3 96 2] 0 [1,2,3,4,5,6] [3,4,5,6,14] hC [] ?_
 rcases cB h with⟨h3,h⟩ | ⟨h3,h⟩
 ·replace h:=sI h
  subst h
  exact wr Py 24 [true] [] [.ownb 1 0 4 1,.ownb 1 1 93 4,.ownb 1 2 3 1,.ownb 1 3 96 2] 0 [6,7,8,9] hC [pq h3]
 ·obtain⟨y4,h5,h⟩:=Az h
  refine ws Py 28 [false] [pc e66 (k66 x1 _ h5) [],pl q93 x1.Ac] [] 0 [1,2,3,4,5,6,7,8,9,10] (Uv x1 0 y4.Ac) (jV y4 0 y4.Ac) hC [pq h3] ?_
  obtain⟨w0,hm0,hret0,hnext0⟩:=Ar h
  clear h
  refine wc w0 (Akl) (Al2 y4) ?_ λ z0 hs0=>?_
  ·refine wb ?_
   refine Bv 20 rfl λ hl0=>?_
   refine wl (Uv x1) (jV y4) hm0 (λ z0 hn0=>?_) λ n0 a0 z0 w0b hi0 hx0 h hb0 hr0=>?_
   ·clear hm0
    exact wx w0 (Akl) (Al2 y4) Py 26 [false] [] [] 0 Gs _ hC [pq (Be hl0)] hn0
   ·unfold V2 at h
    rcases cB h with⟨h6,h⟩ | ⟨h6,h⟩
    ·obtain⟨y7,h8,y9,h10,h⟩:=Bb h
     exact wx w0b (Uv x1 (n0+1)) (jV y4 (n0+1)) Py 36 [true,true] [pt hx0 hl0,pc An2 (Anl (w64 (a0.Phase+(w64 (36*(w64 (a0.Ap-5000)))))) _ rfl) [],pr q93 h8,pu q93 h8 h10] [] 0 Gs _ hC [pq (A_ hi0 hl0),pq h6] (sI h).symm
    ·exact wx w0b (Uv x1 (n0+1)) (jV y4 (n0+1)) Py 36 [true,false] [pt hx0 hl0] [] 0 Gs _ hC [pq (A_ hi0 hl0),pq h6] (sI h).symm
  ·have h:=hnext0 _ hs0
   replace h:=sI h
   subst h
   exact wr Py 23 [] [] [] 0 [5,6,7,8] hC []
theorem A7s:EN 176:=en Tryz.func176
def Zs:List Nat:=[0,1,2,3,4,7,10,11,12]
def uM (x0:Aa) (z0:Int×(List Int)):St:=[(1,dO 0 0),(2,.d (DS pI [])),(3,dS 1),(10,dI (ln x0.Ae)),(11,dI z0.1)]
def Ahw (x0:Aa) (z0:Int×(List Int)):List Res:=[.box 30 (d30 x0),v0_ z0.2]
def Ako  (z0:Int×(List Int)):St:=[(1,dO 0 0),(2,.d (DS pI [])),(3,dS 1)]
def Al5 (x0:Aa) (z0:Int×(List Int)):List Res:=[.box 30 (d30 x0),v0_ z0.2]
theorem A6w (x0:Aa) (r:(List Int)) (h:Yr x0=some r):CO 159 [.agg (d30 x0)] [] (.d (.os 0)) [v0_ r]:=by
 unfold Yr at h
 refine co 23 Tryz.func159 λ C hC=>?_
 obtain⟨y1,h2,h⟩:=Az h
 rcases cB h with⟨h3,h⟩ | ⟨h3,h⟩
 ·replace h:=sI h
  subst h
  exact wr Zs 29 [true] [pc e86 (k86 x0 _ h2) []] [.own 2 3 1] 0 [1] hC [pq h3]
 ·refine ws Zs 33 [false] [pc e86 (k86 x0 _ h2) [],pl q81 x0.Ae] [.own 3 3 1] 0 [0,1] (uM x0 (0,([]:List Int))) (Ahw x0 (0,([]:List Int))) hC [pq h3] ?_
  obtain⟨w0,hm0,hret0,hnext0⟩:=Ar h
  clear h
  refine wc w0 (Ako) (Al5 x0) ?_ λ z0 hs0=>?_
  ·refine wb ?_
   refine ww (uM x0) (Ahw x0) hm0 λ z0 w0b h hb0 hr0=>?_
   unfold yZ at h
   rcases cB h with⟨h4,h⟩ | ⟨h4,h⟩
   ·obtain⟨y5,h6,h⟩:=Az h
    exact wx w0b (uM x0) (Ahw x0) Zs 33 [true] [pa pI 1 h6] [] 0 [0,2] _ hC [pq h4] (sI h).symm
   ·exact wx w0 (Ako) (Al5 x0) Zs 26 [false] [] [] 0 [0,1] (z0.1,z0.2) hC [pq h4] (hb0 _ (sI h).symm)
  ·have h:=hnext0 _ hs0
   obtain⟨y7,h8,h⟩:=Az h
   replace h:=sI h
   subst h
   exact wr Zs 25 [] [pc A21 (A1m z0.2 x0 _ h8) [1,0]] [] 0 [1] hC []
theorem A7x:EN 159:=en Tryz.func159
def D3:List Nat:=[0,1,2,3,4,5,6,7,8,9,10,11,12,13,14,18,25,26,27,28,47,48,49,58,80,81,82,91]
def Wu (y4:(List Int)) (n0:Nat) (z0:(List Ai)):St:=[(2,dO 4 0),(3,dO 5 0),(4,.d (DS Bd [])),(5,dS 6),(6,dS 7),(25,dS 6),(26,dI (ln y4)),(27,dI (cnt 0 n0))]
def yP (x0:Aa) (x1:Ab) (y4:(List Int)) (n0:Nat) (z0:(List Ai)):List Res:=(zp x1 [.box 30 (d30 x0),.box 39 [.os 0,.os 1,.os 2,.os 3],v0_ y4,.dsl 137 3 8,.gh 3 [(3,1),(3,1),(3,1)] (z0.map Bd) none])
def Aeq  (z0:(List Ai)):St:=[(2,dO 4 0),(3,dO 5 0),(4,.d (DS Bd [])),(5,dS 6),(6,dS 7)]
def Ahg (x0:Aa) (x1:Ab) (y4:(List Int)) (z0:(List Ai)):List Res:=(zp x1 [.box 30 (d30 x0),.box 39 [.os 0,.os 1,.os 2,.os 3],v0_ y4,.dsl 137 3 8,.gh 3 [(3,1),(3,1),(3,1)] (z0.map Bd) none])
def Pl (x0:Aa) (z1:Int×(List Ai)):St:=[(2,dO 4 0),(3,dO 5 0),(4,.d (DS Bd [])),(5,dS 6),(6,dS 7),(47,dI (ln x0.Ac)),(48,dI z1.1)]
def Vw (x0:Aa) (x1:Ab) (y4:(List Int)) (z1:Int×(List Ai)):List Res:=(zp x1 [.box 30 (d30 x0),.box 39 [.os 0,.os 1,.os 2,.os 3],v0_ y4,.dsl 137 3 8,.gh 3 [(3,1),(3,1),(3,1)] (z1.2.map Bd) none])
def Aep  (z1:Int×(List Ai)):St:=[(2,dO 4 0),(3,dO 5 0),(4,.d (DS Bd [])),(5,dS 6),(6,dS 7)]
def Ahf (x0:Aa) (x1:Ab) (y4:(List Int)) (z1:Int×(List Ai)):List Res:=(zp x1 [.box 30 (d30 x0),.box 39 [.os 0,.os 1,.os 2,.os 3],v0_ y4,.dsl 137 3 8,.gh 3 [(3,1),(3,1),(3,1)] (z1.2.map Bd) none])
def Pk (x0:Aa) (z2:Int×(List Ai)):St:=[(2,dO 4 0),(3,dO 5 0),(4,.d (DS Bd [])),(5,dS 6),(6,dS 7),(80,dI (ln x0.Ae)),(81,dI z2.1)]
def Vv (x0:Aa) (x1:Ab) (y4:(List Int)) (z2:Int×(List Ai)):List Res:=(zp x1 [.box 30 (d30 x0),.box 39 [.os 0,.os 1,.os 2,.os 3],v0_ y4,.dsl 137 3 8,.gh 3 [(3,1),(3,1),(3,1)] (z2.2.map Bd) none])
def Aeo  (z2:Int×(List Ai)):St:=[(4,.d (DS Bd [])),(6,dS 4)]
def Ahe (x1:Ab) (z2:Int×(List Ai)):List Res:=(zp x1 [.dsl 137 3 5,.gh 3 [(3,1),(3,1),(3,1)] (z2.2.map Bd) none])
theorem Ax9 (x0:Aa) (x1:Ab) (r:(List Ai)) (h:Ac9 x0 x1=some r):CO 67 [.agg (d30 x0),.agg [.os 0,.os 1,.os 2,.os 3]] (zp x1 []) (.d (.os 4)) (zp x1 [v8_ r]):=by
 unfold Ac9 at h
 refine co 113 Tryz.func67 λ C hC=>?_
 obtain⟨y1,h2,h⟩:=Az h
 refine wn D3 26 [] [pb e65 (k65 x0 x1 _ h2)] [] 4 n6_ [2,3,4,18] hC [] ?_
 rcases cB h with⟨h3,h⟩ | ⟨h3,h⟩
 ·replace h:=sI h
  subst h
  exact wr D3 24 [true] [] [.own 4 137 3] 4 [0,1,2,3,6] hC [pq h3]
 ·obtain⟨y4,h5,y6,h7,h⟩:=Bb h
  refine ws D3 30 [false] [⟨.call 97 [.agg (d30 x0),.agg [.os 0,.os 1,.os 2,.os 3]] (zp x1 []) (dS 4) (zp x1 [v0_ y4]) n4_,⟨e97,((k97 x0 x1 _ h5).lend (by kernel_rfl) (by kernel_rfl) (by kernel_rfl) ⟨Bh (λ _=>rfl),trivial⟩ (by kernel_rfl) (by kernel_rfl))⟩⟩,⟨.roomZ (x0.An*(72+1)) (List.replicate (Int.toNat x0.An) (Bd (⟨([]:List Int),([]:List Int),([]:List Int)⟩:Ai))) (y6.map Bd),Si h7⟩,pl pI y4] [.deep 7 [(3,1),(3,1),(3,1)]] 4 n9_ (Wu y4 0 y6) (yP x0 x1 y4 0 y6) hC [pq h3] ?_
  obtain⟨w0,hm0,hret0,hnext0⟩:=Ar h
  clear h
  refine wc w0 (Aeq) (Ahg x0 x1 y4) ?_ λ z0 hs0=>?_
  ·refine wb ?_
   refine Cj 25 6 rfl rfl λ hl0=>?_
   refine wl (Wu y4) (yP x0 x1 y4) hm0 (λ z0 hn0=>?_) λ n0 a0 z0 w0b hi0 hx0 h hb0 hr0=>?_
   ·clear hm0
    exact wx w0 (Aeq) (Ahg x0 x1 y4) D3 26 [false] [] [] 4 n9_ _ hC [pq (Be hl0)] hn0
   ·unfold Aih at h
    obtain⟨y8,h9,y10,h11,y12,h13,h⟩:=B0 h
    exact wx w0b (Wu y4 (n0+1)) (yP x0 x1 y4 (n0+1)) D3 33 [true] [pr pI (Bn hx0 hl0),pn pI (Bn hx0 hl0),pr Bd h9,pn Bd h9,⟨.appD (z0.map Bd) (Int.toNat a0) (Bd y8) 0 (y8.An.map pI) ([cnt 0 n0].map pI) 1 (((y8.An.map pI).length+([cnt 0 n0].map pI).length)*(8+1)) (y10.map pI),Il 1 (λ _=>rfl) h9 rfl h11⟩,pr Bd h9,⟨.updD (z0.map Bd) (Int.toNat a0) (Int.toNat a0) (Bd y8) (Bd (⟨y10,y8.Ac,y8.Ae⟩:Ai)) (y12.map Bd),Ic h9 h13⟩] [] 4 [0,1,2,3,4,5,6,7,12] _ hC [pq (A_ hi0 hl0)] (sI h).symm
  ·have h:=hnext0 _ hs0
   refine ws D3 24 [] [pl q72 x0.Ac] [] 4 n9_ (Pl x0 (0,z0)) (Vw x0 x1 y4 (0,z0)) hC [] ?_
   obtain⟨w1,hm1,hret1,hnext1⟩:=Ar h
   clear h
   refine wc w1 (Aep) (Ahf x0 x1 y4) ?_ λ z1 hs1=>?_
   ·refine wb ?_
    refine ww (Pl x0) (Vw x0 x1 y4) hm1 λ z1 w1b h hb1 hr1=>?_
    unfold Aig at h
    rcases cB h with⟨h14,h⟩ | ⟨h14,h⟩
    ·obtain⟨y15,h16,h⟩:=Az h
     refine wn D3 34 [true] [pb e98 (k98 x0 x1 z1.1 _ h16)] [] 4 n9_ [2,3,4,5,6,9,10,47,48,58] hC [pq h14] ?_
     rcases cB h with⟨h17,h⟩ | ⟨h17,h⟩
     ·obtain⟨y18,h19,y20,h21,y22,h23,y24,h25,h⟩:=Cr h
      exact wx w1b (Pl x0) (Vw x0 x1 y4) D3 25 [true] [pr pI h19,pn pI h19,pr pI h19,pn pI h19,pr Bd h21,pn Bd h21,⟨.appD (z1.2.map Bd) (Int.toNat y18) (Bd y20) 1 (y20.Ac.map pI) ([z1.1].map pI) 1 (((y20.Ac.map pI).length+([z1.1].map pI).length)*(8+1)) (y22.map pI),Il 1 (λ _=>rfl) h21 rfl h23⟩,pr Bd h21,⟨.updD (z1.2.map Bd) (Int.toNat y18) (Int.toNat y18) (Bd y20) (Bd (⟨y20.An,y22,y20.Ae⟩:Ai)) (y24.map Bd),Ic h21 h25⟩] [] 4 [0,1,2,3,4,5,6,7,12] _ hC [pq h17] (sI h).symm
     ·exact wx w1b (Pl x0) (Vw x0 x1 y4) D3 25 [false] [] [] 4 n9_ _ hC [pq h17] (sI h).symm
    ·exact wx w1 (Aep) (Ahf x0 x1 y4) D3 26 [false] [] [] 4 n9_ (z1.1,z1.2) hC [pq h14] (hb1 _ (sI h).symm)
   ·have h:=hnext1 _ hs1
    refine ws D3 24 [] [pl q81 x0.Ae] [] 4 n9_ (Pk x0 (0,z1.2)) (Vv x0 x1 y4 (0,z1.2)) hC [] ?_
    obtain⟨w2,hm2,hret2,hnext2⟩:=Ar h
    clear h
    refine wc w2 (Aeo) (Ahe x1) ?_ λ z2 hs2=>?_
    ·refine wb ?_
     refine ww (Pk x0) (Vv x0 x1 y4) hm2 λ z2 w2b h hb2 hr2=>?_
     unfold Aif at h
     rcases cB h with⟨h26,h⟩ | ⟨h26,h⟩
     ·obtain⟨y27,h28,h⟩:=Az h
      refine wn D3 34 [true] [pb e99 (k99 x0 x1 z2.1 _ h28)] [] 4 n9_ [2,3,4,5,6,12,13,80,81,91] hC [pq h26] ?_
      rcases cB h with⟨h29,h⟩ | ⟨h29,h⟩
      ·obtain⟨y30,h31,y32,h33,y34,h35,y36,h37,h⟩:=Cr h
       exact wx w2b (Pk x0) (Vv x0 x1 y4) D3 25 [true] [pr pI h31,pn pI h31,pr pI h31,pn pI h31,pr Bd h33,pn Bd h33,⟨.appD (z2.2.map Bd) (Int.toNat y30) (Bd y32) 2 (y32.Ae.map pI) ([z2.1].map pI) 1 (((y32.Ae.map pI).length+([z2.1].map pI).length)*(8+1)) (y34.map pI),Il 1 (λ _=>rfl) h33 rfl h35⟩,pr Bd h33,⟨.updD (z2.2.map Bd) (Int.toNat y30) (Int.toNat y30) (Bd y32) (Bd (⟨y32.An,y32.Ac,y34⟩:Ai)) (y36.map Bd),Ic h33 h37⟩] [] 4 [0,1,2,3,4,5,6,7,12] _ hC [pq h29] (sI h).symm
      ·exact wx w2b (Pk x0) (Vv x0 x1 y4) D3 25 [false] [] [] 4 n9_ _ hC [pq h29] (sI h).symm
     ·exact wx w2 (Aeo) (Ahe x1) D3 26 [false] [] [] 4 [0,1,2,3,7,8] (z2.1,z2.2) hC [pq h26] (hb2 _ (sI h).symm)
    ·have h:=hnext2 _ hs2
     refine wn D3 1 [] [] [.flat 4] 4 n5_ [4,6] hC [] ?_
     obtain⟨y38,h39,h⟩:=Az h
     replace h:=sI h
     subst h
     exact wr D3 22 [] [pc As1 (Ar8 z2.2 _ h39) [4]] [] 4 [0,1,2,3,5] hC []
theorem Aye:EN 67:=en Tryz.func67
def Mf:List Nat:=[0,1,2,3,4,5,6,7,12,16,31]
def Y4  (z0:Int×(List Ai)):St:=[(2,dO 0 0),(3,dO 1 0),(4,.d (DS Bd [])),(5,dS 2),(6,dI z0.1)]
def Acz (x0:Aa) (x1:Ab) (z0:Int×(List Ai)):List Res:=[.box 30 (d30 x0),.box 39 (d39 x1),v8_ z0.2]
def Aql  (z0:Int×(List Ai)):St:=[(4,.d (DS Bd [])),(5,dS 0)]
def At4  (z0:Int×(List Ai)):List Res:=[v8_ z0.2]
theorem k85 (x0:Aa) (x1:Ab) (r:(List Ai)) (h:F85 x0 x1=some r):CO 85 [.agg (d30 x0),.agg (d39 x1)] [] (.d (.os 0)) [v8_ r]:=by
 unfold F85 at h
 refine co 37 Tryz.func85 λ C hC=>?_
 obtain⟨y1,h2,h⟩:=Az h
 refine wn Mf 26 [] [pc e62 (k62 x0 x1 _ h2) []] [] 0 [0,1] [2,3,4,12] hC [] ?_
 rcases cB h with⟨h3,h⟩ | ⟨h3,h⟩
 ·replace h:=sI h
  subst h
  exact wr Mf 24 [true] [] [.own 4 137 3] 0 [2] hC [pq h3]
 ·refine ws Mf 28 [false] [] [.own 5 137 3] 0 n3_ (Y4 (0,([]:List Ai))) (Acz x0 x1 (0,([]:List Ai))) hC [pq h3] ?_
  obtain⟨w0,hm0,hret0,hnext0⟩:=Ar h
  clear h
  refine wc w0 (Aql) (At4) ?_ λ z0 hs0=>?_
  ·refine wb ?_
   refine ww (Y4) (Acz x0 x1) hm0 λ z0 w0b h hb0 hr0=>?_
   unfold Aid at h
   rcases cB h with⟨h4,h⟩ | ⟨h4,h⟩
   ·obtain⟨y5,h6,y7,h8,h⟩:=Bb h
    refine wn Mf 32 [true] [pc A8d (A7c x0 x1 z0.1 _ h6) [],pr pI h8,pn pI h8] [] 0 n7_ [2,3,4,5,6,7,31] hC [pq h4] ?_
    rcases cB h with⟨h9,h⟩ | ⟨h9,h⟩
    ·refine wn Mf 1 [true] [] [.frz 3] 0 [0,1,2,4,5,6] [2,3,4,5,6,7] hC [pq h9] ?_
     refine wn Mf 0 [] [] [.frz 3] 0 [0,1,2,4,5] [2,3,4,5,6,7] hC [] ?_
     refine wn Mf 0 [] [] [.frz 3] 0 [0,1,2,4] [2,3,4,5,6,7] hC [] ?_
     obtain⟨y10,h11,h⟩:=Az h
     exact wx w0b (Y4) (Acz x0 x1) Mf 24 [] [pa Bd 3 h11] [] 0 [0,1,4] _ hC [] (sI h).symm
    ·exact wx w0b (Y4) (Acz x0 x1) Mf 25 [false] [] [] 0 n3_ _ hC [pq h9] (sI h).symm
   ·exact wx w0 (Aql) (At4) Mf 26 [false] [] [] 0 [2] (z0.1,z0.2) hC [pq h4] (hb0 _ (sI h).symm)
  ·have h:=hnext0 _ hs0
   replace h:=sI h
   subst h
   exact wr Mf 23 [] [] [] 0 [0] hC []
theorem e85:EN 85:=en Tryz.func85
def Sk:List Nat:=[0,1,2,3,4,5,6,7,9,14,21,22,23,24,30]
def Y9 (y6:(List Ai)) (n0:Nat) (z0:(List Af)):St:=[(3,dO 0 0),(4,dO 1 0),(5,dI 0),(7,dO 10 0),(21,dS 11),(22,dI (ln y6)),(23,dI (cnt 0 n0))]
def Ac4 (x1:Ab) (y4:Ab) (y6:(List Ai)) (n0:Nat) (z0:(List Af)):List Res:=(.box 39 (d39 x1) :: .box 39 [.os 2,.os 3,.os 4,.os 5]::ze [v2_ y4.Ag,v4_ z0,v0_ y4.Aq,v3_ y4.Ao,.box 39 [.os 6,.os 7,.os 8,.os 9],v8_ y6])
def Ara  (z0:(List Af)):St:=[(4,dO 0 0),(5,dI 0),(7,dO 9 0)]
def Aut (y4:Ab) (z0:(List Af)):List Res:=(.box 39 [.os 1,.os 2,.os 3,.os 4]::ze [v2_ y4.Ag,v4_ z0,v0_ y4.Aq,v3_ y4.Ao,.box 39 [.os 5,.os 6,.os 7,.os 8]])
theorem k47 (x0:Aa) (x1:Ab) (r:Ab×Int) (h:F47 x0 x1=some r):CO 47 [.agg (d30 x0),.agg (d39 x1)] [] (.tup [.agg [.os 0,.os 1,.os 2,.os 3],.d (I r.2)]) (zp r.1 []):=by
 unfold F47 at h
 refine co 45 Tryz.func47 λ C hC=>?_
 obtain⟨y1,h2,h⟩:=Az h
 refine wn Sk 28 [] [pc e65 (k65 x0 x1 _ h2) []] [.ownb 2 0 4 1,.ownb 2 1 93 4,.ownb 2 2 3 1,.ownb 2 3 96 2] 0 n7_ [2,3,4,5,6,14] hC [] ?_
 rcases cB h with⟨h3,h⟩ | ⟨h3,h⟩
 ·replace h:=sI h
  subst h
  exact wr Sk 24 [true] [] [.ownb 2 0 4 1,.ownb 2 1 93 4,.ownb 2 2 3 1,.ownb 2 3 96 2] 0 [7,8,9,10] hC [pq h3]
 ·obtain⟨y4,h5,y6,h7,h⟩:=Bb h
  refine ws Sk 28 [false] [pc e66 (k66 x1 _ h5) [],pc e67 (k67 x0 x1 _ h7) [],pl Bd y6] [] 0 [1,2,3,4,5,6,7,8,9,10,11,12] (Y9 y6 0 y4.Ac) (Ac4 x1 y4 y6 0 y4.Ac) hC [pq h3] ?_
  obtain⟨w0,hm0,hret0,hnext0⟩:=Ar h
  clear h
  refine wc w0 (Ara) (Aut y4) ?_ λ z0 hs0=>?_
  ·refine wb ?_
   refine Cj 21 11 rfl rfl λ hl0=>?_
   refine wl (Y9 y6) (Ac4 x1 y4 y6) hm0 (λ z0 hn0=>?_) λ n0 a0 z0 w0b hi0 hx0 h hb0 hr0=>?_
   ·clear hm0
    exact wx w0 (Ara) (Aut y4) Sk 26 [false] [] [] 0 [1,2,3,4,5,6,7,8,9,10] _ hC [pq (Be hl0)] hn0
   ·unfold Aiz at h
    refine wn Sk 32 [true] [pr Bd (Bn hx0 hl0),pn Bd (Bn hx0 hl0),pl pI a0.Ac] [] 0 H2 [3,4,5,7,9,21,22,23,30] hC [pq (A_ hi0 hl0)] ?_
    rcases cB h with⟨h8,h⟩ | ⟨h8,h⟩
    ·obtain⟨y9,h10,y11,h12,y13,h14,h⟩:=B0 h
     exact wx w0b (Y9 y6 (n0+1)) (Ac4 x1 y4 y6 (n0+1)) Sk 25 [true] [pr pI h10,pr q93 h12,pc An1 (Ank (⟨y4.Ag,z0,y4.Aq,y4.Ao⟩:Ab) a0.Ac y11 _ h14) [6,7,8,9]] [] 0 Fi _ hC [pq h8] (sI h).symm
    ·exact wx w0b (Y9 y6 (n0+1)) (Ac4 x1 y4 y6 (n0+1)) Sk 25 [false] [] [] 0 Fi _ hC [pq h8] (sI h).symm
  ·have h:=hnext0 _ hs0
   replace h:=sI h
   subst h
   exact wr Sk 23 [] [] [] 0 [5,6,7,8] hC []
theorem e47:EN 47:=en Tryz.func47
def Zp:List Nat:=[0,1,2,3,4,6,7,9,30,32,33,40]
theorem A6n (x0:Aa) (x1:Ab) (x2:Int) (r:Bool) (h:Ai4 x0 x1 x2=some r):CO 199 [.agg (d30 x0),.agg (d39 x1),.d (I x2)] [] (.d (Bo r)) []:=by
 unfold Ai4 at h
 refine co 74 Tryz.func199 λ C hC=>?_
 obtain⟨y1,h2,y3,h4,y5,h6,y7,h8,h⟩:=Cr h
 refine wn Zp 28 [] [pr q70 h2,pr pB h4,pw Kx (λ hg=>Ku x1 2 x2 _ (Bf h6 hg)) [],pw Kx (λ hg=>Ku x1 3 y1.A _ (Bf h8 hg)) []] [] 0 n3_ [3,4,6,7,30] hC [] ?_
 rcases cB h with⟨h9,h⟩ | ⟨h9,h⟩
 ·replace h:=sI h
  subst h
  exact wr Zp 24 [true] [] [] 0 [] hC [pq h9]
 ·rcases cB h with⟨h10,h⟩ | ⟨h10,h⟩
  ·obtain⟨y11,h12,h⟩:=Az h
   replace h:=sI h
   subst h
   exact wr Zp 32 [false,true] [pc Kx (Ku x1 3 y1.B _ h12) []] [] 0 [] hC [pq h9,pq h10]
  ·rcases cB h with⟨h13,h⟩ | ⟨h13,h⟩
   ·obtain⟨y14,h15,y16,h17,h⟩:=Bb h
    replace h:=sI h
    subst h
    exact wr Zp 35 [false,false,true] [pc Kx (Ku x1 1 y1.B _ h15) [],pR q93 h17] [] 0 [] hC [pq h9,pq h10,pq h13]
   ·obtain⟨y18,h19,y20,h21,h⟩:=Bb h
    replace h:=sI h
    subst h
    exact wr Zp 39 [false,false,false] [pc A7k (A6j x0 x1 y1.B _ h19) [],pc Kx (Ku x1 4 y1.B _ h21) []] [] 0 [] hC [pq h9,pq h10,pq h13]
theorem A7o:EN 199:=en Tryz.func199
def U_:List Nat:=[0,1,2,3,4,6,7,9,12,13,14,15,21]
def uS (x2:Int) (y1:(List Ai)) (n0:Nat) (z0:Unit):St:=[(2,dI x2),(6,dO 0 0),(7,dB false),(12,dS 1),(13,dI (ln y1)),(14,dI (cnt 0 n0))]
def Ah3 (y1:(List Ai)) (n0:Nat) (z0:Unit):List Res:=[.box 137 [.os 2,.os 3,.os 4],v8_ y1,v0_ ([]:List Int),v0_ ([]:List Int),v0_ ([]:List Int)]
def Akw  (z0:Unit):St:=[(6,dO 0 0),(7,dB false)]
def Amd  (z0:Unit):List Res:=[.box 137 [.os 1,.os 2,.os 3],v0_ ([]:List Int),v0_ ([]:List Int),v0_ ([]:List Int)]
theorem Sm (x0:Aa) (x1:Ab) (x2:Int) (r:Ai×Bool) (h:Gb x0 x1 x2=some r):CO 127 [.agg (d30 x0),.agg (d39 x1),.d (I x2)] [] (.tup [.agg (H4 r.1),.d (Bo r.2)]) []:=by
 unfold Gb at h
 refine co 25 Tryz.func127 λ C hC=>?_
 obtain⟨y1,h2,h⟩:=Az h
 refine ws U_ 26 [] [pc e67 (k67 x0 x1 _ h2) [],pl Bd y1] [.ownb 2 0 3 1,.ownb 2 1 3 1,.ownb 2 2 3 1] 0 [2,3,4,5,6] (uS x2 y1 0 ()) (Ah3 y1 0 ()) hC [] ?_
 obtain⟨w0,hm0,hret0,hnext0⟩:=Ar h
 clear h
 refine wc w0 (Akw) (Amd) ?_ λ z0 hs0=>?_
 ·refine wb ?_
  refine Cj 12 1 rfl rfl λ hl0=>?_
  refine wl (uS x2 y1) (Ah3 y1) hm0 (λ z0 hn0=>?_) λ n0 a0 z0 w0b hi0 hx0 h hb0 hr0=>?_
  ·clear hm0
   exact wx w0 (Akw) (Amd) U_ 26 [false] [] [] 0 [0,2,3,4] _ hC [pq (Be hl0)] hn0
  ·unfold Lw at h
   obtain⟨y3,h4,h⟩:=Az h
   refine wn U_ 32 [true] [pr Bd (Bn hx0 hl0),pn Bd (Bn hx0 hl0),pc Xs (Xm a0.An x2 _ h4) []] [] 0 n6_ [2,6,7,9,12,13,14,21] hC [pq (A_ hi0 hl0)] ?_
   rcases cB h with⟨h5,h⟩ | ⟨h5,h⟩
   ·have hq:=hret0 _ (hr0 _ (sI h).symm)
    replace hq:=sI hq
    subst hq
    exact wr U_ 24 [true] [] [] 0 [] hC [pq h5]
   ·exact wx w0b (uS x2 y1 (n0+1)) (Ah3 y1 (n0+1)) U_ 25 [false] [] [] 0 n5_ _ hC [pq h5] (sI h).symm
 ·have h:=hnext0 _ hs0
  replace h:=sI h
  subst h
  exact wr U_ 23 [] [] [.ownb 0 0 3 1,.frz 4,.ownb 0 1 3 1,.frz 5,.ownb 0 2 3 1,.frz 6] 0 [] hC []
theorem S_:EN 127:=en Tryz.func127
def Lq:List Nat:=[0,2,3,24,25,26,66]
def M7 (y1:Ab×Int) (z0:Int×(List Af)):St:=[(0,dO 0 0),(24,dI (ln y1.1.Ac)),(25,dI z0.1)]
def Qq (x0:A1) (y1:Ab×Int) (z0:Int×(List Af)):List Res:=(.box 175 (zb x0.Ak [.os 5,.os 6,.os 7,.os 8,I x0.time])::zp x0.Au [v2_ y1.1.Ag,v4_ z0.2,v0_ y1.1.Aq,v3_ y1.1.Ao])
def Aaw  (z0:Int×(List Af)):St:=[]
def Ab2 (x0:A1) (y1:Ab×Int) (z0:Int×(List Af)):List Res:=(.box 175 (zb x0.Ak [.os 5,.os 6,.os 7,.os 8,I x0.time])::zp x0.Au [v2_ y1.1.Ag,v4_ z0.2,v0_ y1.1.Aq,v3_ y1.1.Ao])
theorem A17 (x0:A1) (r:A1) (h:Kq x0=some r):CO 142 [.d (.o 0 0)] (.box 175 (zb x0.Ak [.os 1,.os 2,.os 3,.os 4,I x0.time])::zp x0.Au []) (.tup []) (.box 175 (zb r.Ak [.os 5,.os 6,.os 7,.os 8,I r.time]) :: .non :: .non :: .non :: .non::zp r.Au []):=by
 unfold Kq at h
 refine co 71 Tryz.func142 λ C hC=>?_
 obtain⟨y1,h2,h⟩:=Az h
 refine ws Lq 25 [] [⟨.call 176 [.agg (d30 x0.Ak),.agg [.os 0,.os 1,.os 2,.os 3]] (zp x0.Au []) (.tup [.agg [.os 4,.os 5,.os 6,.os 7],dI y1.2]) (zp x0.Au (zp y1.1 [])) [1,2,3,4],⟨A7s,((A6r x0.Ak x0.Au _ h2).lend (by kernel_rfl) (by kernel_rfl) (by kernel_rfl) ⟨Bh (λ _=>rfl),Bh (λ _=>rfl),Bh (λ _=>rfl),Bh (λ _=>rfl),trivial⟩ (by kernel_rfl) (by kernel_rfl))⟩⟩,pl q93 y1.1.Ac] [] 5 n9_ (M7 y1 (0,y1.1.Ac)) (Qq x0 y1 (0,y1.1.Ac)) hC [] ?_
 obtain⟨w0,hm0,hret0,hnext0⟩:=Ar h
 clear h
 refine wc w0 (Aaw) (Ab2 x0 y1) ?_ λ z0 hs0=>?_
 ·refine wb ?_
  refine ww (M7 y1) (Qq x0 y1) hm0 λ z0 w0b h hb0 hr0=>?_
  unfold Nx at h
  rcases cB h with⟨h3,h⟩ | ⟨h3,h⟩
  ·obtain⟨y4,h5,y6,h7,y8,h9,h⟩:=B0 h
   refine wn Lq 34 [true] [pr q93 h5,pn q93 h5,pv Agl (λ hg=>Afu (⟨x0.Ak,(⟨y1.1.Ag,z0.2,y1.1.Aq,y1.1.Ao⟩:Ab),x0.time⟩:A1) z0.1 _ (Bf h7 hg)),⟨.when [(((y4.State==1)&&y6),true)] (.row (z0.2.map q93) (((Int.toNat z0.1):Nat):Int) (q93 y4)),λ hg=>Jo h5⟩,pR q72 h9] [] 5 n9_ [0,3,24,25,66] hC [pq h3] ?_
   rcases cB h with⟨h10,h⟩ | ⟨h10,h⟩
   ·obtain⟨y11,h12,h⟩:=Az h
    exact wx w0b (M7 y1) (Qq x0 y1) Lq 25 [true] [pu q93 h5 h12] [] 5 n9_ _ hC [pq h10] (sI h).symm
   ·exact wx w0b (M7 y1) (Qq x0 y1) Lq 25 [false] [] [] 5 n9_ _ hC [pq h10] (sI h).symm
  ·exact wx w0 (Aaw) (Ab2 x0 y1) Lq 26 [false] [] [] 5 n9_ (z0.1,z0.2) hC [pq h3] (hb0 _ (sI h).symm)
 ·have h:=hnext0 _ hs0
  replace h:=sI h
  subst h
  exact wf Lq 20 [] [] [.frz 1,.frz 2,.frz 3,.frz 4] 5 n9_ hC []
theorem A3m:EN 142:=en Tryz.func142
def Xi:List Nat:=[0,1,2,3,4,5,7,9,14,15,16,17,21,22,23,24]
def Adv (y3:(List Ai)) (n0:Nat) (z0:(List Af)):St:=[(3,dO 0 0),(4,dO 1 0),(5,dO 6 0),(14,dS 7),(15,dI (ln y3)),(16,dI (cnt 0 n0))]
def Ao2 (x1:Ab) (y1:Ab) (y3:(List Ai)) (n0:Nat) (z0:(List Af)):List Res:=(.box 39 (d39 x1) :: .box 39 [.os 8,.os 9,.os 10,.os 11]::v2_ y1.Ag::v4_ z0::v0_ y1.Aq::v3_ y1.Ao :: .box 39 [.os 2,.os 3,.os 4,.os 5]::v8_ y3::ze [])
def Aqw  (z0:(List Af)):St:=[(4,dO 0 0),(5,dO 5 0)]
def Auf (y1:Ab) (z0:(List Af)):List Res:=(.box 39 [.os 6,.os 7,.os 8,.os 9]::v2_ y1.Ag::v4_ z0::v0_ y1.Aq::v3_ y1.Ao :: .box 39 [.os 1,.os 2,.os 3,.os 4]::ze [])
def Adu (y3:(List Ai)) (n0:Nat) (a0:Ai) (n1:Nat) (z1:(List Af)):St:=[(3,dO 0 0),(4,dO 1 0),(5,dO 6 0),(7,dO 12 0),(14,dS 7),(15,dI (ln y3)),(16,dI (cnt 0 n0)),(21,.d (DS pI a0.Ac)),(22,dI (ln a0.Ac)),(23,dI (cnt 0 n1))]
def Ao1 (x1:Ab) (y1:Ab) (y3:(List Ai)) (a0:Ai) (n1:Nat) (z1:(List Af)):List Res:=(.box 39 (d39 x1) :: .box 39 [.os 8,.os 9,.os 10,.os 11]::v2_ y1.Ag::v4_ z1::v0_ y1.Aq::v3_ y1.Ao :: .box 39 [.os 2,.os 3,.os 4,.os 5]::v8_ y3::ze [.box 137 (H4 a0)])
def Aqv (y3:(List Ai)) (n0:Nat) (z1:(List Af)):St:=[(3,dO 0 0),(4,dO 1 0),(5,dO 6 0),(14,dS 7),(15,dI (ln y3)),(16,dI (cnt 0 n0))]
def Aue (x1:Ab) (y1:Ab) (y3:(List Ai)) (z1:(List Af)):List Res:=(.box 39 (d39 x1) :: .box 39 [.os 8,.os 9,.os 10,.os 11]::v2_ y1.Ag::v4_ z1::v0_ y1.Aq::v3_ y1.Ao :: .box 39 [.os 2,.os 3,.os 4,.os 5]::v8_ y3::ze [])
theorem k63 (x0:Aa) (x1:Ab) (r:Ab) (h:F63 x0 x1=some r):CO 63 [.agg (d30 x0),.agg (d39 x1)] [] (.agg [.os 0,.os 1,.os 2,.os 3]) (zp r []):=by
 unfold F63 at h
 refine co 58 Tryz.func63 λ C hC=>?_
 obtain⟨y1,h2,y3,h4,h⟩:=Bb h
 refine ws Xi 28 [] [pc e37 (k37 x1 _ h2) [],pc e85 (k85 x0 x1 _ h4) [],pl Bd y3] [.ownb 2 0 4 1,.ownb 2 1 93 4,.ownb 2 2 3 1,.ownb 2 3 96 2] 0 [1,2,3,4,5,6,7,8,9,10,11,12] (Adv y3 0 y1.Ac) (Ao2 x1 y1 y3 0 y1.Ac) hC [] ?_
 obtain⟨w0,hm0,hret0,hnext0⟩:=Ar h
 clear h
 refine wc w0 (Aqw) (Auf y1) ?_ λ z0 hs0=>?_
 ·refine wb ?_
  refine Cj 14 7 rfl rfl λ hl0=>?_
  refine wl (Adv y3) (Ao2 x1 y1 y3) hm0 (λ z0 hn0=>?_) λ n0 a0 z0 w0b hi0 hx0 h hb0 hr0=>?_
  ·clear hm0
   exact wx w0 (Aqw) (Auf y1) Xi 26 [false] [] [] 0 [1,2,3,4,5,6,8,9,10,11] _ hC [pq (Be hl0)] hn0
  ·unfold Ain at h
   refine ws Xi 32 [true] [pr Bd (Bn hx0 hl0),pn Bd (Bn hx0 hl0),pl pI a0.Ac] [] 0 H2 (Adu y3 n0 a0 0 z0) (Ao1 x1 y1 y3 a0 0 z0) hC [pq (A_ hi0 hl0)] ?_
   obtain⟨w1,hm1,hret1,hnext1⟩:=Ar h
   clear h
   refine wc w1 (Aqv y3 n0) (Aue x1 y1 y3) ?_ λ z1 hs1=>?_
   ·refine wb ?_
    refine Bv 21 rfl λ hl1=>?_
    refine wl (Adu y3 n0 a0) (Ao1 x1 y1 y3 a0) hm1 (λ z1 hn1=>?_) λ n1 a1 z1 w1b hi1 hx1 h hb1 hr1=>?_
    ·clear hm1
     exact wx w1 (Aqv y3 n0) (Aue x1 y1 y3) Xi 26 [false] [] [] 0 Fi _ hC [pq (Be hl1)] hn1
    ·unfold Aim at h
     obtain⟨y5,h6,y7,h8,y9,h10,y11,h12,h⟩:=Cr h
     obtain⟨y13,h14,y15,h16,y17,h18,y19,h20,h⟩:=Cr h
     exact wx w1b (Adu y3 n0 a0 (n1+1)) (Ao1 x1 y1 y3 a0 (n1+1)) Xi 33 [true] [pt hx1 hl1,pr pI h6,pr q93 h8,pr pI h10,pr q93 h12,pr q93 h14,pu q93 h14 h16,pr q93 h18,pu q93 h18 h20] [] 0 H2 _ hC [pq (A_ hi1 hl1)] (sI h).symm
   ·have h:=hnext1 _ hs1
    exact wx w0b (Adv y3 (n0+1)) (Ao2 x1 y1 y3 (n0+1)) Xi 23 [] [] [] 0 Fi _ hC [] (sI h).symm
 ·have h:=hnext0 _ hs0
  replace h:=sI h
  subst h
  exact wr Xi 23 [] [] [] 0 [1,2,3,4] hC []
theorem e63:EN 63:=en Tryz.func63
end Go.Proofs.YtpdbkiafikdgpaaGreatDoor
