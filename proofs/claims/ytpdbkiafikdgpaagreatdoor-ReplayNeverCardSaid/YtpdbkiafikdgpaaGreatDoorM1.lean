import Derived.Test.YtpdbkiafikdgpaaGreatDoorM0
set_option linter.unusedVariables false
set_option maxHeartbeats 4000000
namespace Go.Proofs.YtpdbkiafikdgpaaGreatDoor
open Go.SL
def Mq:List Nat:=[0,1,2,3,4,5,6,7,9,10,14,19,29,30,31,42,43,44,45,61]
def Aer (x0:Aa) (z0:Int×(List Af)):St:=[(2,dO 0 0),(4,dO 1 0),(5,dI 0),(7,dO 9 0),(29,dI (ln x0.Ac)),(30,dI z0.1)]
def Aqe (x0:Aa) (y5:List Bool) (z0:Int×(List Af)):List Res:=(.box 30 (d30 x0) :: .box 43 [I 0,.os 2,.os 3,.os 4,.os 5,.os 6,.os 7]::ze [v5_ ([]:List Av),v1_ ([]:List A6),v2_ y5,.box 43 [I 0,.os 8,.os 10,.os 11,.os 12,.os 13,.os 14],v4_ z0.2,v0_ ([]:List Int),v3_ ([]:List Ak),v5_ ([]:List Av),v1_ ([]:List A6)])
def Asm  (z0:Int×(List Af)):St:=[(2,dO 0 0),(4,dO 1 0),(5,dI 0),(7,dO 9 0)]
def Awc (x0:Aa) (y5:List Bool) (z0:Int×(List Af)):List Res:=(.box 30 (d30 x0) :: .box 43 [I 0,.os 2,.os 3,.os 4,.os 5,.os 6,.os 7]::ze [v5_ ([]:List Av),v1_ ([]:List A6),v2_ y5,.box 43 [I 0,.os 8,.os 10,.os 11,.os 12,.os 13,.os 14],v4_ z0.2,v0_ ([]:List Int),v3_ ([]:List Ak),v5_ ([]:List Av),v1_ ([]:List A6)])
def Aeq (x0:Aa) (n1:Nat) (z1:(List Int)):St:=[(2,dO 0 0),(4,dO 1 0),(5,dI 0),(7,dO 9 0),(42,.d (DS q81 x0.Ae)),(43,dI (ln x0.Ae)),(44,dI (cnt 0 n1))]
def Aqd (x0:Aa) (y5:List Bool) (z0:Int×(List Af)) (n1:Nat) (z1:(List Int)):List Res:=(.box 30 (d30 x0) :: .box 43 [I 0,.os 2,.os 3,.os 4,.os 5,.os 6,.os 7]::ze [v5_ ([]:List Av),v1_ ([]:List A6),v2_ y5,.box 43 [I 0,.os 8,.os 10,.os 11,.os 12,.os 13,.os 14],v4_ z0.2,v0_ z1,v3_ ([]:List Ak),v5_ ([]:List Av),v1_ ([]:List A6)])
def Asl  (z1:(List Int)):St:=[(2,dO 0 0),(4,dO 1 0),(5,dI 0),(7,dO 9 0)]
def Awb (x0:Aa) (y5:List Bool) (z0:Int×(List Af)) (z1:(List Int)):List Res:=(.box 30 (d30 x0) :: .box 43 [I 0,.os 2,.os 3,.os 4,.os 5,.os 6,.os 7]::ze [v5_ ([]:List Av),v1_ ([]:List A6),v2_ y5,.box 43 [I 0,.os 8,.os 10,.os 11,.os 12,.os 13,.os 14],v4_ z0.2,v0_ z1,v3_ ([]:List Ak),v5_ ([]:List Av),v1_ ([]:List A6)])
def Aep  (z2:Int×(List Av)):St:=[(2,dO 0 0),(4,dO 1 0),(5,dI 0),(7,dO 9 0),(10,dI z2.1)]
def Aqc (x0:Aa) (y5:List Bool) (z0:Int×(List Af)) (z1:(List Int)) (z2:Int×(List Av)):List Res:=(.box 30 (d30 x0) :: .box 43 [I 0,.os 2,.os 3,.os 4,.os 5,.os 6,.os 7]::ze [v5_ ([]:List Av),v1_ ([]:List A6),v2_ y5,.box 43 [I 0,.os 8,.os 10,.os 11,.os 12,.os 13,.os 14],v4_ z0.2,v0_ z1,v3_ ([]:List Ak),v5_ z2.2,v1_ ([]:List A6)])
def Asj  (z2:Int×(List Av)):St:=[(4,dO 0 0),(5,dI 0),(7,dO 8 0)]
def Awa (y5:List Bool) (z0:Int×(List Af)) (z1:(List Int)) (z2:Int×(List Av)):List Res:=(.box 43 [I 0,.os 1,.os 2,.os 3,.os 4,.os 5,.os 6]::ze [v5_ ([]:List Av),v1_ ([]:List A6),v2_ y5,.box 43 [I 0,.os 7,.os 9,.os 10,.os 11,.os 12,.os 13],v4_ z0.2,v0_ z1,v3_ ([]:List Ak),v5_ z2.2,v1_ ([]:List A6)])
theorem k24 (x0:Aa) (x1:A5) (r:Ar×Int) (h:F24 x0 x1=some r):CO 24 [.agg (d30 x0),.agg (d33 x1)] [] (.tup [.agg [I r.1.Time,.os 0,.os 1,.os 2,.os 3,.os 4,.os 5],.d (I r.2)]) (zp r.1.Power [v5_ r.1.A2,v1_ r.1.A8]):=by
 unfold F24 at h
 refine co 71 Tryz.func24 λ C hC=>?_
 obtain⟨y1,h2,h⟩:=Az h
 rcases cB h with⟨h3,h⟩ | ⟨h3,h⟩
 ·cases h
 ·refine wn Mq 33 [false] [pc e43 (k43 x0 _ h2) [],pc e44 (k44 x1 _ rfl) []] [.ownb 2 1 4 1,.ownb 2 2 93 4,.ownb 2 3 3 1,.ownb 2 4 96 2,.ownb 2 5 84 2,.ownb 2 6 65 5] 0 [0,2,3,4,5,6,7,8] [2,4,5,19] hC [pq h3] ?_
  rcases cB h with⟨h4,h⟩ | ⟨h4,h⟩
  ·cases h
  ·obtain⟨y5,h6,h⟩:=Az h
   refine ws Mq 28 [false] [pl q70 x0.Ad,⟨.room ((ln x0.Ad)*(1+1)) (List.replicate (Int.toNat (ln x0.Ad)) (pB false)) (y5.map pB),Jz h6⟩,pl q72 x0.Ac] [.ownb 9 2 93 4,.ownb 9 3 3 1,.ownb 9 4 96 2,.ownb 9 5 84 2,.ownb 9 6 65 5] 0 Eh (Aer x0 (0,([]:List Af))) (Aqe x0 y5 (0,([]:List Af))) hC [pq h4] ?_
   obtain⟨w0,hm0,hret0,hnext0⟩:=As h
   clear h
   refine wc w0 (Asm) (Awc x0 y5) ?_ λ z0 hs0=>?_
   ·refine wb ?_
    refine ww (Aer x0) (Aqe x0 y5) hm0 λ z0 w0b h hb0 hr0=>?_
    unfold Awr at h
    rcases cB h with⟨h7,h⟩ | ⟨h7,h⟩
    ·obtain⟨y8,h9,h⟩:=Az h
     exact wx w0b (Aer x0) (Aqe x0 y5) Mq 31 [true] [pa q93 4 h9] [] 0 [0,1,2,3,4,5,6,7,8,9,15,11,12,13,14] _ hC [pq h7] (sI h).symm
    ·exact wx w0 (Asm) (Awc x0 y5) Mq 26 [false] [] [] 0 Eh (z0.1,z0.2) hC [pq h7] (hb0 _ (sI h).symm)
   ·have h:=hnext0 _ hs0
    refine ws Mq 24 [] [pl q81 x0.Ae] [] 0 Eh (Aeq x0 0 ([]:List Int)) (Aqd x0 y5 z0 0 ([]:List Int)) hC [] ?_
    obtain⟨w1,hm1,hret1,hnext1⟩:=As h
    clear h
    refine wc w1 (Asl) (Awb x0 y5 z0) ?_ λ z1 hs1=>?_
    ·refine wb ?_
     refine Bt 42 rfl λ hl1=>?_
     refine wl (Aeq x0) (Aqd x0 y5 z0) hm1 (λ z1 hn1=>?_) λ n1 a1 z1 w1b hi1 hx1 h hb1 hr1=>?_
     ·clear hm1
      exact wx w1 (Asl) (Awb x0 y5 z0) Mq 26 [false] [] [] 0 Eh _ hC [pq (Bf hl1)] hn1
     ·unfold Awq at h
      obtain⟨y10,h11,h⟩:=Az h
      exact wx w1b (Aeq x0 (n1+1)) (Aqd x0 y5 z0 (n1+1)) Mq 33 [true] [pt hx1 hl1,pa pI 1 h11] [] 0 [0,1,2,3,4,5,6,7,8,9,10,16,12,13,14] _ hC [pq (A9 hi1 hl1)] (sI h).symm
    ·have h:=hnext1 _ hs1
     refine ws Mq 24 [] [] [] 0 Eh (Aep (0,([]:List Av))) (Aqc x0 y5 z0 z1 (0,([]:List Av))) hC [] ?_
     obtain⟨w2,hm2,hret2,hnext2⟩:=As h
     clear h
     refine wc w2 (Asj) (Awa y5 z0 z1) ?_ λ z2 hs2=>?_
     ·refine wb ?_
      refine ww (Aep) (Aqc x0 y5 z0 z1) hm2 λ z2 w2b h hb2 hr2=>?_
      unfold Awp at h
      rcases cB h with⟨h12,h⟩ | ⟨h12,h⟩
      ·obtain⟨y13,h14,h⟩:=Az h
       exact wx w2b (Aep) (Aqc x0 y5 z0 z1) Mq 31 [true] [pa q84 2 h14] [] 0 [0,1,2,3,4,5,6,7,8,9,10,11,12,15,14] _ hC [pq h12] (sI h).symm
      ·exact wx w2 (Asj) (Awa y5 z0 z1) Mq 26 [false] [] [] 0 [1,2,3,4,5,6,7,8,9,10,11,12,13,14] (z2.1,z2.2) hC [pq h12] (hb2 _ (sI h).symm)
     ·have h:=hnext2 _ hs2
      replace h:=sI h
      subst h
      exact wr Mq 23 [] [] [] 0 [7,9,10,11,12,13] hC []
theorem e24:EN 24:=en Tryz.func24
def Ho:List Nat:=[0,1,2,3,4,6,16,17,18,19,28,29,44,71]
def Oo (x0:Aa) (n0:Nat) (z0:(List Int)×(List (List Int))):St:=[(1,dO 0 0),(2,dB false),(3,dS 1),(4,dS 2),(16,.d (DS q70 x0.Ad)),(17,dI (ln x0.Ad)),(18,dI (cnt 0 n0))]
def T8 (x0:Aa) (n0:Nat) (z0:(List Int)×(List (List Int))):List Res:=[.box 30 (d30 x0),v0_ z0.1,.dsl 22 1 3,.gh 1 [(3,1)] (z0.2.map (pL pI)) none]
def Alr  (z0:(List Int)×(List (List Int))):St:=[(2,dB false),(3,dS 0),(4,dS 1)]
def Am8  (z0:(List Int)×(List (List Int))):List Res:=[v0_ z0.1,.dsl 22 1 2,.gh 1 [(3,1)] (z0.2.map (pL pI)) none]
theorem A8v (x0:Aa) (r:Bool) (h:Aj4 x0=some r):CO 113 [.agg (d30 x0)] [] (.d (Bo r)) []:=by
 unfold Aj4 at h
 refine co 116 Tryz.func113 λ C hC=>?_
 obtain⟨y1,h2,y3,h4,h⟩:=Bc h
 refine ws Ho 28 [] [⟨.flts [v0_ y1,.zsl 22 1 (y3.map (pL pI))],trivial⟩,pl q72 x0.Ac,⟨.fltm 1 (.room ((ln x0.Ac)*(8+1)) (List.replicate (Int.toNat (ln x0.Ac)) (pI 0)) (y1.map pI)) (v0_ y1) (v0_ y1),⟨Jz h2,rfl⟩⟩,pl q81 x0.Ae,⟨.fltm 2 (.roomZ ((ln x0.Ae)*(24+1)) (List.replicate (Int.toNat (ln x0.Ae)) ((pL pI) ([]:List Int))) (y3.map (pL pI))) (.zsl 22 1 (y3.map (pL pI))) (.zsl 22 1 (y3.map (pL pI))),⟨Kn h4,rfl⟩⟩,pl q70 x0.Ad] [.deep 2 [(3,1)]] 0 n4_ (Oo x0 0 (y1,y3)) (T8 x0 0 (y1,y3)) hC [] ?_
 obtain⟨w0,hm0,hret0,hnext0⟩:=As h
 clear h
 refine wc w0 (Alr) (Am8) ?_ λ z0 hs0=>?_
 ·refine wb ?_
  refine Bt 16 rfl λ hl0=>?_
  refine wl (Oo x0) (T8 x0) hm0 (λ z0 hn0=>?_) λ n0 a0 z0 w0b hi0 hx0 h hb0 hr0=>?_
  ·clear hm0
   exact wx w0 (Alr) (Am8) Ho 26 [false] [] [] 0 [1,2,3] _ hC [pq (Bf hl0)] hn0
  ·unfold zT at h
   refine wn Ho 33 [true] [pt hx0 hl0,pc e91 (k91 a0.A 0 (w64 (x0.An-1)) _ rfl) []] [] 0 n5_ [1,2,3,4,6,16,17,18,28] hC [pq (A9 hi0 hl0)] ?_
   rcases cB h with⟨h5,h⟩ | ⟨h5,h⟩
   ·have hq:=hret0 _ (hr0 _ (sI h).symm)
    replace hq:=sI hq
    subst hq
    exact wr Ho 24 [true] [] [] 0 [] hC [pq h5]
   ·refine wn Ho 26 [false] [⟨.when [((a0.Kind==1),true)] (.call 91 [dI a0.B,dI (w64 (a0.A+1)),dI (w64 (x0.An-1))] [] (dB (F91 a0.B (w64 (a0.A+1)) (w64 (x0.An-1)))) [] []),λ hg=>⟨e91,(k91 a0.B (w64 (a0.A+1)) (w64 (x0.An-1)) _ rfl)⟩⟩] [] 0 n5_ [1,2,3,4,6,16,17,18,29] hC [pq h5] ?_
    rcases cB h with⟨h6,h⟩ | ⟨h6,h⟩
    ·exact wx w0b (Oo x0 (n0+1)) (T8 x0 (n0+1)) Ho 26 [true] [] [] 0 n4_ _ hC [pq h6] (sI h).symm
    ·obtain⟨y7,h8,h⟩:=Az h
     refine wn Ho 24 [false] [pL_ [((a0.Kind==2),true)] pI z0.1,⟨.when [((a0.Kind==2),true)] (.call 91 [dI a0.B,dI 0,dI (w64 ((ln z0.1)-1))] [] (.d (Bo (F91 a0.B 0 (w64 ((ln z0.1)-1))))) [] []),λ hg=>⟨e91,(k91 a0.B 0 (w64 ((ln z0.1)-1)) _ rfl)⟩⟩,pR pI h8,pN pI h8] [] 0 n5_ [1,2,3,4,6,16,17,18,44] hC [pq h6] ?_
     rcases cB h with⟨h9,h⟩ | ⟨h9,h⟩
     ·obtain⟨y10,h11,y12,h13,h⟩:=Bc h
      exact wx w0b (Oo x0 (n0+1)) (T8 x0 (n0+1)) Ho 26 [true] [pr pI h11,pn pI h11,pr pI h11,pu pI h11 h13] [] 0 n4_ _ hC [pq h9] (sI h).symm
     ·obtain⟨y14,h15,y16,h17,h⟩:=Bc h
      refine wn Ho 24 [false] [pL_ [((a0.Kind==3),true)] (pL pI) z0.2,⟨.when [((a0.Kind==3),true)] (.call 91 [dI a0.B,dI 0,dI (w64 ((ln z0.2)-1))] [] (.d (Bo (F91 a0.B 0 (w64 ((ln z0.2)-1))))) [] []),λ hg=>⟨e91,(k91 a0.B 0 (w64 ((ln z0.2)-1)) _ rfl)⟩⟩,pR (pL pI) h15,pN (pL pI) h15,⟨.when [(((a0.Kind==3)&&(F91 a0.B 0 (w64 ((ln z0.2)-1)))),true)] (.callB 152 [.d (DS pI y14),dI a0.A] (dB y16) (z0.2.map (pL pI)) (Int.toNat a0.B) ((pL pI) y14)),λ hg=>Axs ⟨X7,(X1 y14 a0.A _ (Ba h17 hg))⟩ (Ba h15 hg)⟩] [] 0 n5_ [1,2,3,4,6,16,17,18,71] hC [pq h9] ?_
      rcases cB h with⟨h18,h⟩ | ⟨h18,h⟩
      ·obtain⟨y19,h20,y21,h22,y23,h24,h⟩:=B3 h
       exact wx w0b (Oo x0 (n0+1)) (T8 x0 (n0+1)) Ho 26 [true] [pr (pL pI) h20,pn (pL pI) h20,⟨.appD (z0.2.map (pL pI)) (Int.toNat a0.B) ((pL pI) y19) 0 (y19.map pI) ([a0.A].map pI) 1 (((y19.map pI).length+([a0.A].map pI).length)*(8+1)) (y21.map pI),Iq 1 (λ _=>rfl) h20 rfl h22⟩,pr (pL pI) h20,⟨.updD (z0.2.map (pL pI)) (Int.toNat a0.B) (Int.toNat a0.B) ((pL pI) y19) ((pL pI) y21) (y23.map (pL pI)),Ij h20 h24⟩] [] 0 [0,1,2,8] _ hC [pq h18] (sI h).symm
      ·have hq:=hret0 _ (hr0 _ (sI h).symm)
       replace hq:=sI hq
       subst hq
       exact wr Ho 24 [false] [] [] 0 [] hC [pq h18]
 ·have h:=hnext0 _ hs0
  refine wn Ho 1 [] [] [.flat 1] 0 [0,1] [2,3,4] hC [] ?_
  obtain⟨y27,h28,y29,h30,h⟩:=Bc h
  replace h:=sI h
  subst h
  exact wr Ho 22 [] [pb X7 (X1 z0.1 0 _ h28),pv A49 (λ hg=>A3u z0.2 _ (Ba h30 hg))] [] 0 [] hC []
theorem A9w:EN 113:=en Tryz.func113
def L3:List Nat:=[0,1,4,5,7,8,9,16]
def Sj (x0:List Af) (n0:Nat) (z0:Unit):St:=[(0,.d (DS q93 x0)),(1,.d (.fn (.func 89) [] [])),(4,dI 0),(7,dI (ln x0)),(8,dI (cnt 0 n0))]
def Yt  (n0:Nat) (z0:Unit):List Res:=[]
def Aa8  (z0:Unit):St:=[(4,dI 0)]
def Acd  (z0:Unit):List Res:=[]
theorem A38 (x0:List Af) (r:Int) (h:uD x0=some r):CO 119 [.d (DS q93 x0),.d (.fn (.func 89) [] [])] [] (.d (I r)) []:=by
 unfold uD at h
 refine co 19 Tryz.func119 λ C hC=>?_
 refine ws L3 26 [] [pl q93 x0] [] 0 [] (Sj x0 0 ()) (Yt 0 ()) hC [] ?_
 obtain⟨w0,hm0,hret0,hnext0⟩:=As h
 clear h
 refine wc w0 (Aa8) (Acd) ?_ λ z0 hs0=>?_
 ·refine wb ?_
  refine Bt 0 rfl λ hl0=>?_
  refine wl (Sj x0) (Yt) hm0 (λ z0 hn0=>?_) λ n0 a0 z0 w0b hi0 hx0 h hb0 hr0=>?_
  ·clear hm0
   exact wx w0 (Aa8) (Acd) L3 26 [false] [] [] 0 [] _ hC [pq (Bf hl0)] hn0
  ·unfold Acj at h
   refine wn L3 32 [true] [pt hx0 hl0,pc e89 (k89 a0 _ rfl) []] [] 0 [] [0,1,4,5,7,8,16] hC [pq (A9 hi0 hl0)] ?_
   rcases cB h with⟨h1,h⟩ | ⟨h1,h⟩
   ·have hq:=hret0 _ (hr0 _ (sI h).symm)
    replace hq:=sI hq
    subst hq
    exact wr L3 24 [true] [] [] 0 [] hC [pq h1]
   ·exact wx w0b (Sj x0 (n0+1)) (Yt (n0+1)) L3 25 [false] [] [] 0 [] _ hC [pq h1] (sI h).symm
 ·have h:=hnext0 _ hs0
  replace h:=sI h
  subst h
  exact wr L3 23 [] [] [] 0 [] hC []
theorem A5n:EN 119:=en Tryz.func119
theorem A6v (x0:List Av) (x1c0c0:Ar) (r:Bool×Ar) (h:qR x0 x1c0c0=some r):CO 51 [.d (DS q84 x0),.d (.fn (.func 52) [] [.o 0 0])] [.box 111 [.fn (.func 48) [] [.o 1 0]],.box 43 (d43 x1c0c0)] (.d (Bo r.1)) [.box 111 [.fn (.func 48) [] [.o 1 0]],.box 43 (d43 r.2)]:=by
 unfold qR at h
 refine co 9 Tryz.func51 λ C hC=>?_
 obtain⟨y1,h2,h⟩:=Az h
 replace h:=sI h
 subst h
 exact wr [0,1,4] 25 [] [pc A7b (A6t x0 x1c0c0 _ h2) [0,1]] [] 2 [0,1] hC []
theorem A7d:EN 51:=en Tryz.func51
theorem Af9 (x0:A1) (x1:Int) (r:Bool) (h:Jm x0 x1=some r):CO 175 [.d (.ip [.v (.int .i64 x0.Al.An),.s (x0.Al.Ad.map q70),.s (x0.Al.Ac.map q72),.s (x0.Al.Ae.map q81),.v (.int .i64 x0.Al.Phase),.v (.int .i64 x0.Al.Aq),.s (x0.Au.Ag.map pB),.s (x0.Au.Ac.map q93),.s (x0.Au.Ap.map pI),.s (x0.Au.Am.map q96),.v (.int .i64 x0.time)]),.d (I x1)] [] (.d (Bo r)) []:=by
 unfold Jm at h
 refine co 19 Tryz.func175 λ C hC=>?_
 obtain⟨y1,h2,y3,h4,h⟩:=Bc h
 replace h:=sI h
 subst h
 exact wr [0,1,4] 25 [] [pc A86 (A75 x0.Al x1 _ h2) [],pr pB h4] [] 0 [] hC []
theorem Ag2:EN 175:=en Tryz.func175
theorem Z8 (x0:Int) (x1:Int) (x2:Ay) (r:Bool×Ay) (h:Kv x0 x1 x2=some r):CO 189 [.d (I x0),.d (I x1),.d (.o 0 0)] (.box 190 [.o 1 0] :: .box 214 (zb x2.Al [.os 2,.os 3,.os 4,.os 5,.os 6])::zp x2.Au [v6_ x2.acts]) (.d (Bo r.1)) (.box 190 [.o 1 0] :: .box 214 (zb r.2.Al [.os 2,.os 3,.os 4,.os 5,.os 6])::zp r.2.Au [v6_ r.2.acts]):=by
 unfold Kv at h
 refine co 13 Tryz.func189 λ C hC=>?_
 obtain⟨y1,h2,h⟩:=Az h
 replace h:=sI h
 subst h
 exact wr [0,1,2,5] 25 [] [pb K4 (K2 x2.Au x0 x1 _ h2)] [] 7 n7_ hC []
theorem jH:EN 189:=en Tryz.func189
def Iv:List Nat:=[0,1,2,3,8,9,14,34]
def R9 (x1:Int) (x2:Int) (z0:Int×(List Int)):St:=[(0,dS 0),(1,dI x1),(2,dI x2),(3,.d (.fn (.func 191) [] [.o 1 0])),(8,dI z0.1)]
def Yj (x3c0:Aa) (z0:Int×(List Int)):List Res:=[v0_ z0.2,.box 30 (d30 x3c0)]
def Aao  (z0:Int×(List Int)):St:=[]
def Abt (x3c0:Aa) (z0:Int×(List Int)):List Res:=[v0_ z0.2,.box 30 (d30 x3c0)]
def R8 (x1:Int) (x2:Int) (z0:Int×(List Int)) (z1:Int×(List Int)):St:=[(0,dS 0),(1,dI x1),(2,dI x2),(3,.d (.fn (.func 191) [] [.o 1 0])),(8,dI z0.1),(9,dI z1.1)]
def Yi (x3c0:Aa) (z1:Int×(List Int)):List Res:=[v0_ z1.2,.box 30 (d30 x3c0)]
def Aan (x1:Int) (x2:Int) (z0:Int×(List Int)) (z1:Int×(List Int)):St:=[(0,dS 0),(1,dI x1),(2,dI x2),(3,.d (.fn (.func 191) [] [.o 1 0])),(8,dI z0.1)]
def Abs (x3c0:Aa) (z1:Int×(List Int)):List Res:=[v0_ z1.2,.box 30 (d30 x3c0)]
theorem As7 (x0:List Int) (x1:Int) (x2:Int) (x3c0:Aa) (r:(List Int)×Aa) (h:T_ x0 x1 x2 x3c0=some r):CO 213 [.d (.os 0),.d (I x1),.d (I x2),.d (.fn (.func 191) [] [.o 1 0])] [v0_ x0,.box 30 (d30 x3c0)] (.tup []) [v0_ r.1,.box 30 (d30 r.2)]:=by
 unfold T_ at h
 refine co 53 Tryz.func213 λ C hC=>?_
 refine ws Iv 23 [] [] [] 2 [0,1] (R9 x1 x2 (w64 (x1+1),x0)) (Yj x3c0 (w64 (x1+1),x0)) hC [] ?_
 obtain⟨w0,hm0,hret0,hnext0⟩:=As h
 clear h
 refine wc w0 (Aao) (Abt x3c0) ?_ λ z0 hs0=>?_
 ·refine wb ?_
  refine ww (R9 x1 x2) (Yj x3c0) hm0 λ z0 w0b h hb0 hr0=>?_
  unfold T9 at h
  rcases cB h with⟨h1,h⟩ | ⟨h1,h⟩
  ·refine ws Iv 30 [true] [] [] 2 [0,1] (R8 x1 x2 z0 (z0.1,z0.2)) (Yi x3c0 (z0.1,z0.2)) hC [pq h1] ?_
   obtain⟨w1,hm1,hret1,hnext1⟩:=As h
   clear h
   refine wc w1 (Aan x1 x2 z0) (Abs x3c0) ?_ λ z1 hs1=>?_
   ·refine wb ?_
    refine ww (R8 x1 x2 z0) (Yi x3c0) hm1 λ z1 w1b h hb1 hr1=>?_
    unfold N3 at h
    obtain⟨y8,h9,y10,h11,y12,h13,h⟩:=B3 h
    refine wn Iv 24 [] [pR pI h9,pN pI h9,pR pI h11,pN pI h11,pv A4q (λ hg=>A3b y8 y10 x3c0 _ (Ba h13 hg))] [] 2 [0,1] [0,1,2,3,8,9,34] hC [] ?_
    rcases cB h with⟨h14,h⟩ | ⟨h14,h⟩
    ·obtain⟨y15,h16,y17,h18,y19,h20,h⟩:=B3 h
     obtain⟨y21,h22,y23,h24,h⟩:=Bc h
     exact wx w1b (R8 x1 x2 z0) (Yi x3c0) Iv 28 [true] [pr pI h16,pn pI h16,pr pI h18,pn pI h18,pr pI h18,pu pI h18 h20,pr pI h22,pu pI h22 h24] [] 2 [0,1] _ hC [pq h14] (sI h).symm
    ·exact wx w1 (Aan x1 x2 z0) (Abs x3c0) Iv 23 [false] [] [] 2 [0,1] (z1.1,z1.2) hC [pq h14] (hb1 _ (sI h).symm)
   ·have h:=hnext1 _ hs1
    exact wx w0b (R9 x1 x2) (Yj x3c0) Iv 23 [] [] [] 2 [0,1] _ hC [] (sI h).symm
  ·exact wx w0 (Aao) (Abt x3c0) Iv 26 [false] [] [] 2 [0,1] (z0.1,z0.2) hC [pq h1] (hb0 _ (sI h).symm)
 ·have h:=hnext0 _ hs0
  replace h:=sI h
  subst h
  exact wf Iv 20 [] [] [] 2 [0,1] hC []
theorem At1:EN 213:=en Tryz.func213
def Lr:List Nat:=[0,1,4,5,7,8,9,16]
def Sa (x0:List Int) (n0:Nat) (z0:Unit):St:=[(0,dS 0),(1,.d (.fn (.func 161) [] [.o 1 0])),(4,dI 0),(7,dI (ln x0)),(8,dI (cnt 0 n0))]
def Yl (x0:List Int) (x1c0:Ah) (n0:Nat) (z0:Unit):List Res:=[v0_ x0,.box 137 (H9 x1c0)]
def Aar  (z0:Unit):St:=[(4,dI 0)]
def Abw (x0:List Int) (x1c0:Ah) (z0:Unit):List Res:=[v0_ x0,.box 137 (H9 x1c0)]
theorem A3a (x0:List Int) (x1c0:Ah) (r:Int×Ah) (h:qV x0 x1c0=some r):CO 192 [.d (.os 0),.d (.fn (.func 161) [] [.o 1 0])] [v0_ x0,.box 137 (H9 x1c0)] (.d (I r.1)) [v0_ x0,.box 137 (H9 r.2)]:=by
 unfold qV at h
 refine co 19 Tryz.func192 λ C hC=>?_
 refine ws Lr 26 [] [pl pI x0] [] 2 [0,1] (Sa x0 0 ()) (Yl x0 x1c0 0 ()) hC [] ?_
 obtain⟨w0,hm0,hret0,hnext0⟩:=As h
 clear h
 refine wc w0 (Aar) (Abw x0 x1c0) ?_ λ z0 hs0=>?_
 ·refine wb ?_
  refine Cm 0 0 rfl rfl λ hl0=>?_
  refine wl (Sa x0) (Yl x0 x1c0) hm0 (λ z0 hn0=>?_) λ n0 a0 z0 w0b hi0 hx0 h hb0 hr0=>?_
  ·clear hm0
   exact wx w0 (Aar) (Abw x0 x1c0) Lr 26 [false] [] [] 2 [0,1] _ hC [pq (Bf hl0)] hn0
  ·unfold N4 at h
   obtain⟨y1,h2,h⟩:=Az h
   refine wn Lr 32 [true] [pr pI (Bp hx0 hl0),pn pI (Bp hx0 hl0),pb At4 (Ata a0 x1c0 _ h2)] [] 2 [0,1] [0,1,4,5,7,8,16] hC [pq (A9 hi0 hl0)] ?_
   rcases cB h with⟨h3,h⟩ | ⟨h3,h⟩
   ·have hq:=hret0 _ (hr0 _ (sI h).symm)
    replace hq:=sI hq
    subst hq
    exact wr Lr 24 [true] [] [] 2 [0,1] hC [pq h3]
   ·exact wx w0b (Sa x0 (n0+1)) (Yl x0 x1c0 (n0+1)) Lr 25 [false] [] [] 2 [0,1] _ hC [pq h3] (sI h).symm
 ·have h:=hnext0 _ hs0
  replace h:=sI h
  subst h
  exact wr Lr 23 [] [] [] 2 [0,1] hC []
theorem A4p:EN 192:=en Tryz.func192
theorem A8x (x0:Int) (r:(List Av)) (h:On x0=some r):CO 105 [.d (I x0)] [] (.d (.os 0)) [v5_ r]:=by
 unfold On at h
 refine co 7 Tryz.func105 λ C hC=>?_
 obtain⟨y1,h2,h⟩:=Az h
 replace h:=sI h
 subst h
 exact wr [0,2] 25 [] [pc A9r (A8q [(⟨(-1),(-1)⟩:Av)] x0 _ h2) []] [] 0 [0] hC []
theorem A9y:EN 105:=en Tryz.func105
theorem A8d (x0:Aa) (x1:Ab) (x2:Ah) (x3:Int) (r:Bool) (h:Ajt x0 x1 x2 x3=some r):CO 169 [.agg (d30 x0),.agg (d39 x1),.agg (H9 x2),.d (I x3)] [] (.d (Bo r)) []:=by
 unfold Ajt at h
 refine co 58 Tryz.func169 λ C hC=>?_
 obtain⟨y1,h2,y3,h4,y5,h6,y7,h8,h⟩:=Cv h
 obtain⟨y9,h10,y11,h12,y13,h14,y15,h16,h⟩:=Cv h
 replace h:=sI h
 subst h
 exact wr [0,1,2,3,4,5,6,8,9,10,11] 31 [] [pc Aou (Aoe x0 x3 _ h2) [],pr q70 h4,pc K4 (K2 x1 1 x3 _ h6) [],pw K4 (λ hg=>K2 x1 2 y1 _ (Ba h8 hg)) [],pw K4 (λ hg=>K2 x1 3 y3.A _ (Ba h10 hg)) [],pw X7 (λ hg=>X1 x2.An y3.A _ (Ba h12 hg)) [],pw X7 (λ hg=>X1 x2.Ac x3 _ (Ba h14 hg)) [],pR q93 h16] [] 0 [] hC []
theorem A9e:EN 169:=en Tryz.func169
def Fz:List Nat:=[0,2,3,4,5,6,7,8,9,10,11,24,29,47,60,96,121,155]
def Zi  (z0:Sg2):St:=[(0,dO 0 0),(2,dO 1 0),(3,dO 2 0),(4,dI z0.1)]
def Adf (y1:Int×Aj) (y3:Int×Aj) (y5:Int×Aj) (z0:Sg2):List Res:=[.box 77 [DS pI z0.2.1,I z0.2.2.1],.box 30 [I 0,.os 3,.os 4,.os 5,I 0,I 0],.box 30 [I y1.1,.os 6,.os 7,.os 8,I y3.1,I y5.1],v9_ ([]:List Ai),H4 ([]:List Bh),H3 ([]:List A7),v9_ (Fp z0),H4 ([]:List Bh),H3 ([]:List A7)]
def Asr  (z0:Sg2):St:=[(0,dO 0 0),(2,dO 1 0),(3,dO 2 0)]
def Awh (y1:Int×Aj) (y3:Int×Aj) (y5:Int×Aj) (z0:Sg2):List Res:=[.box 77 [DS pI z0.2.1,I z0.2.2.1],.box 30 [I 0,.os 3,.os 4,.os 5,I 0,I 0],.box 30 [I y1.1,.os 6,.os 7,.os 8,I y3.1,I y5.1],v9_ ([]:List Ai),H4 ([]:List Bh),H3 ([]:List A7),v9_ (Fp z0),H4 ([]:List Bh),H3 ([]:List A7)]
def Afg  (z1:(List Ai)):St:=[(0,dO 0 0),(2,dO 1 0),(3,dO 2 0)]
def Ah8 (y1:Int×Aj) (y3:Int×Aj) (y5:Int×Aj) (y15:Int×Aj) (z1:(List Ai)):List Res:=[.box 77 (d77 y15.2),.box 30 [I 0,.os 3,.os 4,.os 5,I 0,I 0],.box 30 [I y1.1,.os 6,.os 7,.os 8,I y3.1,I y5.1],v9_ ([]:List Ai),H4 ([]:List Bh),H3 ([]:List A7),v9_ z1,H4 ([]:List Bh),H3 ([]:List A7)]
def Aeu  (z2:Sg4):St:=[(0,dO 0 0),(2,dO 1 0),(3,dO 2 0),(5,dI z2.1)]
def Aqh (y1:Int×Aj) (y3:Int×Aj) (y5:Int×Aj) (z2:Sg4):List Res:=[.box 77 [DS pI z2.2.1,I z2.2.2.1],.box 30 [I 0,.os 3,.os 4,.os 5,I 0,I 0],.box 30 [I y1.1,.os 6,.os 7,.os 8,I y3.1,I y5.1],v9_ ([]:List Ai),H4 ([]:List Bh),H3 ([]:List A7),v9_ (g3_ z2),H4 (Il z2),H3 ([]:List A7)]
def Asq  (z2:Sg4):St:=[(0,dO 0 0),(2,dO 1 0),(3,dO 2 0)]
def Awg (y1:Int×Aj) (y3:Int×Aj) (y5:Int×Aj) (z2:Sg4):List Res:=[.box 77 [DS pI z2.2.1,I z2.2.2.1],.box 30 [I 0,.os 3,.os 4,.os 5,I 0,I 0],.box 30 [I y1.1,.os 6,.os 7,.os 8,I y3.1,I y5.1],v9_ ([]:List Ai),H4 ([]:List Bh),H3 ([]:List A7),v9_ (g3_ z2),H4 (Il z2),H3 ([]:List A7)]
def Zh  (z3:Sg3):St:=[(0,dO 0 0),(2,dO 1 0),(3,dO 2 0),(7,dI z3.1)]
def Ade (y1:Int×Aj) (y3:Int×Aj) (y5:Int×Aj) (z2:Sg4) (z3:Sg3):List Res:=[.box 77 [DS pI z3.2.1,I z3.2.2.1],.box 30 [I 0,.os 3,.os 4,.os 5,I 0,I 0],.box 30 [I y1.1,.os 6,.os 7,.os 8,I y3.1,I y5.1],v9_ ([]:List Ai),H4 ([]:List Bh),H3 ([]:List A7),v9_ (g3_ z3),H4 (Il z2),H3 (Il z3)]
def Asp  (z3:Sg3):St:=[(2,dO 1 0),(3,dO 2 0)]
def Awf (y1:Int×Aj) (y3:Int×Aj) (y5:Int×Aj) (z2:Sg4) (z3:Sg3):List Res:=[.box 77 [DS pI z3.2.1,I z3.2.2.1],.box 30 [I 0,.os 3,.os 4,.os 5,I 0,I 0],.box 30 [I y1.1,.os 6,.os 7,.os 8,I y3.1,I y5.1],v9_ ([]:List Ai),H4 ([]:List Bh),H3 ([]:List A7),v9_ (g3_ z3),H4 (Il z2),H3 (Il z3)]
def Aff (z3:Sg3) (z4:(List Ai)):St:=[(0,dO 0 0),(2,dO 1 0),(3,dO 2 0),(7,dI z3.1),(8,dI (ln (Il z3)))]
def Ah7 (y1:Int×Aj) (y3:Int×Aj) (y5:Int×Aj) (z2:Sg4) (z3:Sg3) (y42:Int×Aj) (z4:(List Ai)):List Res:=[.box 77 (d77 y42.2),.box 30 [I 0,.os 3,.os 4,.os 5,I 0,I 0],.box 30 [I y1.1,.os 8,.os 6,.os 7,I y3.1,I y5.1],v9_ ([]:List Ai),H4 ([]:List Bh),H3 ([]:List A7),H4 (Il z2),H3 (Il z3),v9_ z4]
set_option maxHeartbeats 4000000 in
theorem k10 (x0 : Aj) (r : Aa × Aj) (h : F10 x0 = some r) : CO 10 [.d (.o 0 0)] [.box 77 (d77 x0)] (.agg [I r.1.An, .os 1, .os 2, .os 3, I r.1.Phase, I r.1.Aq]) (.box 77 (d77 r.2) :: zs r.1 []) := by
 unfold F10 at h
 refine co 168 Tryz.func10 λ C hC=>?_
 obtain⟨y1,h2,y3,h4,y5,h6,h⟩:=B3 h
 refine ws Fz 28 [] [pc e26 (k26 x0 1 4 _ h2) [0],pc e27 (k27 y1.2 [0,50,200,1800] _ h4) [0],pc e27 (k27 y3.2 [0,10,50] _ h6) [0]] [.ownb 1 1 70 3,.ownb 1 2 72 3,.ownb 1 3 81 5,.ownb 2 1 70 3,.ownb 2 2 72 3,.ownb 2 3 81 5] 1 n9_ (Zi (1,y5.2.L,y5.2.At,([]:List Ai))) (Adf y1 y3 y5 (1,y5.2.L,y5.2.At,([]:List Ai))) hC [] ?_
 obtain⟨w0,hm0,hret0,hnext0⟩:=As h
 clear h
 refine wc w0 (Asr) (Awh y1 y3 y5) ?_ λ z0 hs0=>?_
 ·refine wb ?_
  refine ww (Zi) (Adf y1 y3 y5) hm0 λ z0 w0b h hb0 hr0=>?_
  unfold uG at h
  rcases cB h with⟨h7,h⟩ | ⟨h7,h⟩
  ·obtain⟨y8,h9,h⟩:=Az h
   rcases cB h with⟨h10,h⟩ | ⟨h10,h⟩
   ·obtain⟨y11,h12,y13,h14,h⟩:=Bc h
    exact wx w0b (Zi) (Adf y1 y3 y5) Fz 34 [true,true] [pc e19 (k19 (⟨z0.2.1,z0.2.2.1⟩:Aj) 6 _ h9) [0],pc e19 (k19 y8.2 z0.1 _ h12) [0],pa q70 3 h14] [] 1 [0,1,2,3,4,5,9,7,8] _ hC [pq h7,pq h10] (sI h).symm
   ·exact wx w0b (Zi) (Adf y1 y3 y5) Fz 34 [true,false] [pc e19 (k19 (⟨z0.2.1,z0.2.2.1⟩:Aj) 6 _ h9) [0]] [] 1 n9_ _ hC [pq h7,pq h10] (sI h).symm
  ·exact wx w0 (Asr) (Awh y1 y3 y5) Fz 26 [false] [] [] 1 n9_ (z0.1,z0.2.1,z0.2.2.1,(Fp z0)) hC [pq h7] (hb0 _ (sI h).symm)
 ·have h := hnext0 _ hs0
  obtain⟨y15,h16,h⟩:=Az h
  refine wn Fz 24 [] [⟨.whenR [(decide (y1.1>2),true)] (.call 19 [dO 0 0,dI 2] [.box 77 [DS pI z0.2.1,I z0.2.2.1]] (dI y15.1) [.box 77 (d77 y15.2)] [0]),⟨λ hg=>⟨e19,(k19 (⟨z0.2.1,z0.2.2.1⟩:Aj) 2 _ (Ba h16 hg))⟩,λ hg=>by have e:=Hu h16 hg;subst e;rfl⟩⟩] [] 1 n9_ [0,2,3,47] hC [] ?_
  obtain⟨w1,h,hret1,hnext1⟩:=As h
  refine wc w1 (Afg) (Ah8 y1 y3 y5 y15) ?_ λ z1 hs1=>?_
  ·unfold Aj7 at h
   rcases cB h with⟨h17,h⟩ | ⟨h17,h⟩
   ·obtain⟨y18,h19,h⟩:=Az h
    exact wx w1 (Afg) (Ah8 y1 y3 y5 y15) Fz 23 [true] [pa q70 3 h19] [] 1 [0,1,2,3,4,5,9,7,8] _ hC [pq h17] (sI h).symm
   ·exact wx w1 (Afg) (Ah8 y1 y3 y5 y15) Fz 23 [false] [] [] 1 n9_ _ hC [pq h17] (sI h).symm
  ·clear h;have h:=hnext1 _ hs1
   obtain⟨y20,h21,h⟩:=Az h
   refine ws Fz 24 [] [pc e19 (k19 y15.2 5 _ h21) [0]] [] 1 n9_ (Aeu (y20.1,y20.2.L,y20.2.At,z1,([]:List Bh))) (Aqh y1 y3 y5 (y20.1,y20.2.L,y20.2.At,z1,([]:List Bh))) hC [] ?_
   obtain⟨w2,hm2,hret2,hnext2⟩:=As h
   clear h
   refine wc w2 (Asq) (Awg y1 y3 y5) ?_ λ z2 hs2=>?_
   ·refine wb ?_
    refine ww (Aeu) (Aqh y1 y3 y5) hm2 λ z2 w2b h hb2 hr2=>?_
    unfold uF at h
    rcases cB h with⟨h22,h⟩ | ⟨h22,h⟩
    ·obtain⟨y23,h24,y25,h26,y27,h28,y29,h30,h⟩:=Cv h
     obtain⟨y31,h32,y33,h34,h⟩:=Bc h
     exact wx w2b (Aeu) (Aqh y1 y3 y5) Fz 35 [true] [pc e19 (k19 (⟨z2.2.1,z2.2.2.1⟩:Aj) y1.1 _ h24) [0],pl q72 (Il z2),pa q70 3 h26,pc e27 (k27 y23.2 [10,50,100] _ h28) [0],pc e27 (k27 y27.2 [0,5,y27.1] _ h30) [0],pc e27 (k27 y29.2 [0,1,3] _ h32) [0],pa q72 3 h34] [] 1 [0,1,2,3,4,5,9,10,8] _ hC [pq h22] (sI h).symm
    ·exact wx w2 (Asq) (Awg y1 y3 y5) Fz 26 [false] [] [] 1 n9_ (z2.1,z2.2.1,z2.2.2.1,(g3_ z2),(Il z2)) hC [pq h22] (hb2 _ (sI h).symm)
   ·have h:=hnext2 _ hs2
    obtain⟨y35,h36,h⟩:=Az h
    refine ws Fz 24 [] [pc e19 (k19 (⟨z2.2.1,z2.2.2.1⟩:Aj) 6 _ h36) [0]] [] 1 n9_ (Zh (y35.1,y35.2.L,y35.2.At,(g3_ z2),([]:List A7))) (Ade y1 y3 y5 z2 (y35.1,y35.2.L,y35.2.At,(g3_ z2),([]:List A7))) hC [] ?_
    obtain⟨w3,hm3,hret3,hnext3⟩:=As h
    clear h
    refine wc w3 (Asp) (Awf y1 y3 y5 z2) ?_ λ z3 hs3=>?_
    ·refine wb ?_
     refine ww (Zh) (Ade y1 y3 y5 z2) hm3 λ z3 w3b h hb3 hr3=>?_
     unfold uE at h
     rcases cB h with⟨h37,h⟩ | ⟨h37,h⟩
     ·obtain⟨y38,h39,y40,h41,y42,h43,h⟩:=B3 h
      refine wn Fz 37 [true] [pl q81 (Il z3),pc e19 (k19 (⟨z3.2.1,z3.2.2.1⟩:Aj) y1.1 _ h39) [0],pa q70 3 h41,⟨.whenR [(decide (y1.1>1),true)] (.call 19 [dO 0 0,dI 4] [.box 77 (d77 y38.2)] (dI y42.1) [.box 77 (d77 y42.2)] [0]),⟨λ hg=>⟨e19,(k19 y38.2 4 _ (Ba h43 hg))⟩,λ hg=>by have e:=Hu h43 hg;subst e;rfl⟩⟩] [] 1 [0,1,2,3,4,5,7,8,9] [0,2,3,7,8,9,121] hC [pq h37] ?_
      obtain⟨w4,h,hret4,hnext4⟩:=As h
      refine wc w4 (Aff z3) (Ah7 y1 y3 y5 z2 z3 y42) ?_ λ z4 hs4=>?_
      ·unfold Aj6 at h
       rcases cB h with⟨h44,h⟩ | ⟨h44,h⟩
       ·obtain⟨u46,h45,y47,h48,h⟩:=Bc h
        exact wx w4 (Aff z3) (Ah7 y1 y3 y5 z2 z3 y42) Fz 23 [true] [⟨.nz y1.1,Afv h45⟩,pa q70 3 h48] [] 1 [0,1,2,3,4,5,6,7,9] _ hC [pq h44] (sI h).symm
       ·exact wx w4 (Aff z3) (Ah7 y1 y3 y5 z2 z3 y42) Fz 23 [false] [] [] 1 n9_ _ hC [pq h44] (sI h).symm
      ·clear h;have h:=hnext4 _ hs4
       obtain⟨y49,h50,y51,h52,y53,h54,h⟩:=B3 h
       obtain⟨y55,h56,y57,h58,h⟩:=Bc h
       refine wn Fz 28 [] [pc e27 (k27 y42.2 [0,5,20,40] _ h50) [0],⟨.nz 2,Zr rfl⟩,pc e27 (k27 y49.2 [0,w64 (Int.tdiv y49.1 2),y49.1] _ h52) [0],pc e19 (k19 y51.2 3 _ h54) [0],pc e26 (k26 y53.2 (-1) 2 _ h56) [0],⟨.whenR [(decide ((ln (Il z3))>0),true)] (.call 19 [dO 0 0,dI 4] [.box 77 (d77 y55.2)] (dI y57.1) [.box 77 (d77 y57.2)] [0]),⟨λ hg=>⟨e19,(k19 y55.2 4 _ (Ba h58 hg))⟩,λ hg=>by have e:=Hu h58 hg;subst e;rfl⟩⟩] [.ownb 9 4 3 1] 1 An3 [0,2,3,7,8,11,155] hC [] ?_
       rcases cB h with⟨h59,h⟩ | ⟨h59,h⟩
       ·obtain⟨y60,h61,y62,h63,h⟩:=Bc h
        exact wx w3b (Zh) (Ade y1 y3 y5 z2) Fz 26 [true] [pc e19 (k19 y57.2 (ln (Il z3)) _ h61) [0],pa q81 5 h63] [] 1 [0,1,2,3,4,5,8,6,11] _ hC [pq h59] (sI h).symm
       ·refine wn Fz 2 [false] [] [.frz 10] 1 Gx [0,2,3,7,11] hC [pq h59] ?_
        obtain⟨y64,h65,h⟩:=Az h
        exact wx w3b (Zh) (Ade y1 y3 y5 z2) Fz 24 [] [pa q81 5 h65] [] 1 [0,1,2,3,4,5,8,6,10] _ hC [] (sI h).symm
     ·exact wx w3 (Asp) (Awf y1 y3 y5 z2) Fz 26 [false] [] [] 1 n9_ (z3.1,z3.2.1,z3.2.2.1,(g3_ z3),(Il z3)) hC [pq h37] (hb3 _ (sI h).symm)
    ·have h:=hnext3 _ hs3
     replace h:=sI h
     subst h
     exact wr Fz 23 [] [] [] 1 [0,6,7,8] hC []
theorem e10:EN 10:=en Tryz.func10
theorem k11 (x0:Aj) (r:A5×Aj) (h:F11 x0=some r):CO 11 [.d (.o 0 0)] [.box 77 (d77 x0)] (.agg (d33 r.1)) [.box 77 (d77 r.2)]:=by
 unfold F11 at h
 refine co 13 Tryz.func11 λ C hC=>?_
 obtain⟨y1,h2,y3,h4,y5,h6,h⟩:=B3 h
 replace h:=sI h
 subst h
 exact wr [0,2] 25 [] [pc e27 (k27 x0 [60,80,100] _ h2) [0],pc e27 (k27 y1.2 [1,30,50] _ h4) [0],pc e27 (k27 y3.2 [0,1,3] _ h6) [0]] [] 1 [0] hC []
theorem e11:EN 11:=en Tryz.func11
def Ct:List Nat:=[0,1,3,4,5,6,7,8,9,11,12,13,16,17,18,30,31,32,35,36,37,38,57,67,68,69,89,90,91,92,114,119,126]
def Xl (x1:Aa) (z0:Int×(List Int)×Int×(List Bool)):St:=[(0,dO 0 0),(3,dO 4 0),(4,dO 5 0),(5,dO 6 0),(16,dI (ln x1.Ad)),(17,dI z0.1)]
def zE (x1:Aa) (z0:Int×(List Int)×Int×(List Bool)):List Res:=(.box 77 [DS pI z0.2.1,I z0.2.2.1]::zs x1 (.box 30 [I x1.An,.os 1,.os 2,.os 3,I x1.Phase,I x1.Aq] :: .box 39 [.os 7,.os 8,.os 9,.os 10] :: .box 39 [.os 11,.os 12,.os 13,.os 14]::ze [v2_ (Fp z0),v4_ ([]:List Af),v0_ ([]:List Int),v3_ ([]:List Ak)]))
def Afd  (z0:Int×(List Int)×Int×(List Bool)):St:=[(0,dO 0 0),(3,dO 4 0),(4,dO 5 0),(5,dO 6 0)]
def Ah5 (x1:Aa) (z0:Int×(List Int)×Int×(List Bool)):List Res:=(.box 77 [DS pI z0.2.1,I z0.2.2.1]::zs x1 (.box 30 [I x1.An,.os 1,.os 2,.os 3,I x1.Phase,I x1.Aq] :: .box 39 [.os 7,.os 8,.os 9,.os 10] :: .box 39 [.os 11,.os 12,.os 13,.os 14]::ze [v2_ (Fp z0),v4_ ([]:List Af),v0_ ([]:List Int),v3_ ([]:List Ak)]))
def Xk (x1:Aa) (z1:Int×(List Bool)):St:=[(0,dO 0 0),(3,dO 4 0),(4,dO 5 0),(5,dO 6 0),(30,dI (ln x1.Ae)),(31,dI z1.1)]
def zD (x1:Aa) (z0:Int×(List Int)×Int×(List Bool)) (z1:Int×(List Bool)):List Res:=(.box 77 [DS pI z0.2.1,I z0.2.2.1]::zs x1 (.box 30 [I x1.An,.os 1,.os 2,.os 3,I x1.Phase,I x1.Aq] :: .box 39 [.os 7,.os 8,.os 9,.os 10] :: .box 39 [.os 11,.os 12,.os 13,.os 14]::ze [v2_ z1.2,v4_ ([]:List Af),v0_ ([]:List Int),v3_ ([]:List Ak)]))
def Afc  (z1:Int×(List Bool)):St:=[(0,dO 0 0),(3,dO 4 0),(4,dO 5 0),(5,dO 6 0)]
def Ah4 (x1:Aa) (z0:Int×(List Int)×Int×(List Bool)) (z1:Int×(List Bool)):List Res:=(.box 77 [DS pI z0.2.1,I z0.2.2.1]::zs x1 (.box 30 [I x1.An,.os 1,.os 2,.os 3,I x1.Phase,I x1.Aq] :: .box 39 [.os 7,.os 8,.os 9,.os 10] :: .box 39 [.os 11,.os 12,.os 13,.os 14]::ze [v2_ z1.2,v4_ ([]:List Af),v0_ ([]:List Int),v3_ ([]:List Ak)]))
def Pz (x1:Aa) (z1:Int×(List Bool)) (n2:Nat) (z2:Bool×(List Bool)):St:=[(0,dO 0 0),(3,dO 4 0),(4,dO 5 0),(5,dO 6 0),(6,dI z1.1),(7,dB z2.1),(30,dI (ln x1.Ae)),(31,dI z1.1),(35,dS 1),(36,dI (ln x1.Ad)),(37,dI (cnt 0 n2))]
def Wd (x1:Aa) (z0:Int×(List Int)×Int×(List Bool)) (n2:Nat) (z2:Bool×(List Bool)):List Res:=(.box 77 [DS pI z0.2.1,I z0.2.2.1]::zs x1 (.box 30 [I x1.An,.os 1,.os 2,.os 3,I x1.Phase,I x1.Aq] :: .box 39 [.os 7,.os 8,.os 9,.os 10] :: .box 39 [.os 11,.os 12,.os 13,.os 14]::ze [v2_ z2.2,v4_ ([]:List Af),v0_ ([]:List Int),v3_ ([]:List Ak)]))
def Afb (x1:Aa) (z1:Int×(List Bool)) (z2:Bool×(List Bool)):St:=[(0,dO 0 0),(3,dO 4 0),(4,dO 5 0),(5,dO 6 0),(30,dI (ln x1.Ae)),(31,dI z1.1)]
def Ah3 (x1:Aa) (z0:Int×(List Int)×Int×(List Bool)) (z2:Bool×(List Bool)):List Res:=(.box 77 [DS pI z0.2.1,I z0.2.2.1]::zs x1 (.box 30 [I x1.An,.os 1,.os 2,.os 3,I x1.Phase,I x1.Aq] :: .box 39 [.os 7,.os 8,.os 9,.os 10] :: .box 39 [.os 11,.os 12,.os 13,.os 14]::ze [v2_ z2.2,v4_ ([]:List Af),v0_ ([]:List Int),v3_ ([]:List Ak)]))
def Xj (x1:Aa) (z3:Sg6):St:=[(0,dO 0 0),(3,dO 4 0),(4,dO 5 0),(5,dO 6 0),(67,dI (ln x1.Ac)),(68,dI z3.1)]
def zC (x1:Aa) (z1:Int×(List Bool)) (z3:Sg6):List Res:=(.box 77 [DS pI z3.2.1,I z3.2.2.1]::zs x1 (.box 30 [I x1.An,.os 1,.os 2,.os 3,I x1.Phase,I x1.Aq] :: .box 39 [.os 7,.os 8,.os 9,.os 10] :: .box 39 [.os 11,.os 12,.os 13,.os 14]::ze [v2_ z1.2,v4_ (Fp z3),v0_ ([]:List Int),v3_ ([]:List Ak)]))
def Afa  (z3:Sg6):St:=[(0,dO 0 0),(3,dO 4 0),(4,dO 5 0),(5,dO 6 0)]
def Ah2 (x1:Aa) (z1:Int×(List Bool)) (z3:Sg6):List Res:=(.box 77 [DS pI z3.2.1,I z3.2.2.1]::zs x1 (.box 30 [I x1.An,.os 1,.os 2,.os 3,I x1.Phase,I x1.Aq] :: .box 39 [.os 7,.os 8,.os 9,.os 10] :: .box 39 [.os 11,.os 12,.os 13,.os 14]::ze [v2_ z1.2,v4_ (Fp z3),v0_ ([]:List Int),v3_ ([]:List Ak)]))
def Xi (x1:Aa) (n4:Nat) (z4:(List Int)×Int×(List Int)):St:=[(0,dO 0 0),(3,dO 4 0),(4,dO 5 0),(5,dO 6 0),(89,dS 3),(90,dI (ln x1.Ae)),(91,dI (cnt 0 n4))]
def zA (x1:Aa) (z1:Int×(List Bool)) (z3:Sg6) (n4:Nat) (z4:(List Int)×Int×(List Int)):List Res:=(.box 77 [DS pI z4.1,I z4.2.1]::zs x1 (.box 30 [I x1.An,.os 1,.os 2,.os 3,I x1.Phase,I x1.Aq] :: .box 39 [.os 7,.os 8,.os 9,.os 10] :: .box 39 [.os 11,.os 12,.os 13,.os 14]::ze [v2_ z1.2,v4_ (Fp z3),v0_ z4.2.2,v3_ ([]:List Ak)]))
def Ae9  (z4:(List Int)×Int×(List Int)):St:=[(0,dO 0 0),(3,dO 4 0),(4,dO 5 0),(5,dO 6 0)]
def Ah1 (x1:Aa) (z1:Int×(List Bool)) (z3:Sg6) (z4:(List Int)×Int×(List Int)):List Res:=(.box 77 [DS pI z4.1,I z4.2.1]::zs x1 (.box 30 [I x1.An,.os 1,.os 2,.os 3,I x1.Phase,I x1.Aq] :: .box 39 [.os 7,.os 8,.os 9,.os 10] :: .box 39 [.os 11,.os 12,.os 13,.os 14]::ze [v2_ z1.2,v4_ (Fp z3),v0_ z4.2.2,v3_ ([]:List Ak)]))
def L9  (z5:Int×(List Int)×Int×(List Ak)):St:=[(0,dO 0 0),(3,dO 4 0),(4,dO 5 0),(5,dO 6 0),(12,dI z5.1)]
def Pe (x1:Aa) (z1:Int×(List Bool)) (z3:Sg6) (z4:(List Int)×Int×(List Int)) (z5:Int×(List Int)×Int×(List Ak)):List Res:=(.box 77 [DS pI z5.2.1,I z5.2.2.1]::zs x1 (.box 30 [I x1.An,.os 1,.os 2,.os 3,I x1.Phase,I x1.Aq] :: .box 39 [.os 7,.os 8,.os 9,.os 10] :: .box 39 [.os 11,.os 12,.os 13,.os 14]::ze [v2_ z1.2,v4_ (Fp z3),v0_ z4.2.2,v3_ (Fp z5)]))
def Ae8  (z5:Int×(List Int)×Int×(List Ak)):St:=[(4,dO 4 0),(5,dO 5 0)]
def Ah0 (x1:Aa) (z1:Int×(List Bool)) (z3:Sg6) (z4:(List Int)×Int×(List Int)) (z5:Int×(List Int)×Int×(List Ak)):List Res:=(.box 77 [DS pI z5.2.1,I z5.2.2.1]::zs x1 (.box 39 [.os 6,.os 7,.os 8,.os 9] :: .box 39 [.os 10,.os 11,.os 12,.os 13]::ze [v2_ z1.2,v4_ (Fp z3),v0_ z4.2.2,v3_ (Fp z5)]))
set_option maxHeartbeats 4000000 in
theorem A6w (x0 : Aj) (x1 : Aa) (r : Ab × Aj) (h : Wh x0 x1 = some r) : CO 46 [.d (.o 0 0), .agg [I x1.An, .os 1, .os 2, .os 3, I x1.Phase, I x1.Aq]] (.box 77 (d77 x0) :: zs x1 []) (.agg [.os 4, .os 5, .os 6, .os 7]) (.box 77 (d77 r.2) :: zs x1 (zp r.1 [])) := by
 unfold Wh at h
 refine co 134 Tryz.func46 λ C hC=>?_
 refine ws Ct 28 [] [pl q70 x1.Ad] [.ownb 5 0 4 1,.ownb 5 1 93 4,.ownb 5 2 3 1,.ownb 5 3 96 2,.ownb 6 0 4 1,.ownb 6 1 93 4,.ownb 6 2 3 1,.ownb 6 3 96 2] 4 Eh (Xl x1 (0,x0.L,x0.At,([]:List Bool))) (zE x1 (0,x0.L,x0.At,([]:List Bool))) hC [] ?_
 obtain⟨w0,hm0,hret0,hnext0⟩:=As h
 clear h
 refine wc w0 (Afd) (Ah5 x1) ?_ λ z0 hs0=>?_
 ·refine wb ?_
  refine ww (Xl x1) (zE x1) hm0 λ z0 w0b h hb0 hr0=>?_
  unfold Ri at h
  rcases cB h with⟨h1,h⟩ | ⟨h1,h⟩
  ·obtain⟨y2,h3,y4,h5,h⟩:=Bc h
   exact wx w0b (Xl x1) (zE x1) Ct 31 [true] [pc e19 (k19 (⟨z0.2.1,z0.2.2.1⟩:Aj) 2 _ h3) [0],pa pB 1 h5] [] 4 [0,1,2,3,4,5,6,7,8,9,10,15,12,13,14] _ hC [pq h1] (sI h).symm
  ·exact wx w0 (Afd) (Ah5 x1) Ct 26 [false] [] [] 4 Eh (z0.1,z0.2.1,z0.2.2.1,(Fp z0)) hC [pq h1] (hb0 _ (sI h).symm)
 ·have h := hnext0 _ hs0
  refine ws Ct 24 [] [pl q81 x1.Ae] [] 4 Eh (Xk x1 (0,(Fp z0))) (zD x1 z0 (0,(Fp z0))) hC [] ?_
  obtain⟨w1,hm1,hret1,hnext1⟩:=As h
  clear h
  refine wc w1 (Afc) (Ah4 x1 z0) ?_ λ z1 hs1=>?_
  ·refine wb ?_
   refine ww (Xk x1) (zD x1 z0) hm1 λ z1 w1b h hb1 hr1=>?_
   unfold Rh at h
   rcases cB h with⟨h6,h⟩ | ⟨h6,h⟩
   ·refine ws Ct 34 [true] [pl q70 x1.Ad] [] 4 Eh (Pz x1 z1 0 (true,z1.2)) (Wd x1 z0 0 (true,z1.2)) hC [pq h6] ?_
    obtain⟨w2,hm2,hret2,hnext2⟩:=As h
    clear h
    refine wc w2 (Afb x1 z1) (Ah3 x1 z0) ?_ λ z2 hs2=>?_
    ·refine wb ?_
     refine Cm 35 1 rfl rfl λ hl2=>?_
     refine wl (Pz x1 z1) (Wd x1 z0) hm2 (λ z2 hn2=>?_) λ n2 a2 z2 w2b hi2 hx2 h hb2 hr2=>?_
     ·clear hm2
      exact wx w2 (Afb x1 z1) (Ah3 x1 z0) Ct 26 [false] [] [] 4 Eh _ hC [pq (Bf hl2)] hn2
     ·unfold Rf at h
      obtain⟨y7,h8,h⟩:=Az h
      refine wn Ct 32 [true] [pr q70 (Bp hx2 hl2),pn q70 (Bp hx2 hl2),pR pB h8,pN pB h8] [] 4 Eh [0,3,4,5,6,7,8,30,31,35,36,37,57] hC [pq (A9 hi2 hl2)] ?_
      rcases cB h with⟨h9,h⟩ | ⟨h9,h⟩
      ·obtain⟨y10,h11,y12,h13,h⟩:=Bc h
       exact wx w2b (Pz x1 z1 (n2+1)) (Wd x1 z0 (n2+1)) Ct 27 [true] [pr pB h11,pu pB h11 h13] [] 4 Eh _ hC [pq h9] (sI h).symm
      ·exact wx w2b (Pz x1 z1 (n2+1)) (Wd x1 z0 (n2+1)) Ct 25 [false] [] [] 4 Eh _ hC [pq h9] (sI h).symm
    ·have h:=hnext2 _ hs2
     exact wx w1b (Xk x1) (zD x1 z0) Ct 23 [] [] [] 4 Eh _ hC [] (sI h).symm
   ·exact wx w1 (Afc) (Ah4 x1 z0) Ct 26 [false] [] [] 4 Eh (z1.1,z1.2) hC [pq h6] (hb1 _ (sI h).symm)
  ·have h := hnext1 _ hs1
   refine ws Ct 24 [] [pl q72 x1.Ac] [] 4 Eh (Xj x1 (0,z0.2.1,z0.2.2.1,([]:List Af))) (zC x1 z1 (0,z0.2.1,z0.2.2.1,([]:List Af))) hC [] ?_
   obtain⟨w3,hm3,hret3,hnext3⟩:=As h
   clear h
   refine wc w3 (Afa) (Ah2 x1 z1) ?_ λ z3 hs3=>?_
   ·refine wb ?_
    refine ww (Xj x1) (zC x1 z1) hm3 λ z3 w3b h hb3 hr3=>?_
    unfold Re at h
    rcases cB h with⟨h14,h⟩ | ⟨h14,h⟩
    ·obtain⟨y15,h16,y17,h18,y19,h20,h⟩:=B3 h
     obtain⟨y21,h22,y23,h24,h⟩:=Bc h
     exact wx w3b (Xj x1) (zC x1 z1) Ct 31 [true] [pc e27 (k27 (⟨z3.2.1,z3.2.2.1⟩:Aj) [0,1,2,2,2,3] _ h16) [0],pc e19 (k19 y15.2 5 _ h18) [0],pc e27 (k27 y17.2 [5000,5000,5005,4950] _ h20) [0],pc e27 (k27 y19.2 [0,0,40,1800,3590] _ h22) [0],pa q93 4 h24] [] 4 [0,1,2,3,4,5,6,7,8,9,10,11,15,13,14] _ hC [pq h14] (sI h).symm
    ·exact wx w3 (Afa) (Ah2 x1 z1) Ct 26 [false] [] [] 4 Eh (z3.1,z3.2.1,z3.2.2.1,(Fp z3)) hC [pq h14] (hb3 _ (sI h).symm)
   ·have h := hnext3 _ hs3
    refine ws Ct 24 [] [pl q81 x1.Ae] [] 4 Eh (Xi x1 0 (z3.2.1,z3.2.2.1,([]:List Int))) (zA x1 z1 z3 0 (z3.2.1,z3.2.2.1,([]:List Int))) hC [] ?_
    obtain⟨w4,hm4,hret4,hnext4⟩:=As h
    clear h
    refine wc w4 (Ae9) (Ah1 x1 z1 z3) ?_ λ z4 hs4=>?_
    ·refine wb ?_
     refine Cm 89 3 rfl rfl λ hl4=>?_
     refine wl (Xi x1) (zA x1 z1 z3) hm4 (λ z4 hn4=>?_) λ n4 a4 z4 w4b hi4 hx4 h hb4 hr4=>?_
     ·clear hm4
      exact wx w4 (Ae9) (Ah1 x1 z1 z3) Ct 26 [false] [] [] 4 Eh _ hC [pq (Bf hl4)] hn4
     ·unfold Rc at h
      obtain⟨y25,h26,y27,h28,h⟩:=Bc h
      exact wx w4b (Xi x1 (n4+1)) (zA x1 z1 z3 (n4+1)) Ct 33 [true] [pr q81 (Bp hx4 hl4),pn q81 (Bp hx4 hl4),⟨.nz 3,Zr rfl⟩,pc e27 (k27 (⟨z4.1,z4.2.1⟩:Aj) [a4.Load,a4.Load,a4.Least,w64 (Int.tdiv a4.Load 3)] _ h26) [0],pa pI 1 h28] [] 4 [0,1,2,3,4,5,6,7,8,9,10,11,12,16,14] _ hC [pq (A9 hi4 hl4)] (sI h).symm
    ·have h:=hnext4 _ hs4
     refine ws Ct 24 [] [] [] 4 Eh (L9 (1,z4.1,z4.2.1,([]:List Ak))) (Pe x1 z1 z3 z4 (1,z4.1,z4.2.1,([]:List Ak))) hC [] ?_
     obtain⟨w5,hm5,hret5,hnext5⟩:=As h
     clear h
     refine wc w5 (Ae8) (Ah0 x1 z1 z3 z4) ?_ λ z5 hs5=>?_
     ·refine wb ?_
      refine ww (L9) (Pe x1 z1 z3 z4) hm5 λ z5 w5b h hb5 hr5=>?_
      unfold Rb at h
      rcases cB h with⟨h29,h⟩ | ⟨h29,h⟩
      ·obtain⟨y30,h31,h⟩:=Az h
       rcases cB h with⟨h32,h⟩ | ⟨h32,h⟩
       ·obtain⟨y33,h34,h⟩:=Az h
        refine wn Ct 35 [true,true] [pc e19 (k19 (⟨z5.2.1,z5.2.2.1⟩:Aj) 5 _ h31) [0],pc e19 (k19 y30.2 4 _ h34) [0],pb e64 (k64 x1 (⟨z5.1,y33.1⟩:Ak) _ rfl)] [] 4 A71 [0,3,4,5,12,13,126] hC [pq h29,pq h32] ?_
        rcases cB h with⟨h35,h⟩ | ⟨h35,h⟩
        ·obtain⟨y36,h37,h⟩:=Az h
         exact wx w5b (L9) (Pe x1 z1 z3 z4) Ct 25 [true] [pa q96 2 h37] [] 4 [0,1,2,3,4,5,6,7,8,9,10,11,12,13,16] _ hC [pq h35] (sI h).symm
        ·exact wx w5b (L9) (Pe x1 z1 z3 z4) Ct 25 [false] [] [] 4 Eh _ hC [pq h35] (sI h).symm
       ·exact wx w5b (L9) (Pe x1 z1 z3 z4) Ct 34 [true,false] [pc e19 (k19 (⟨z5.2.1,z5.2.2.1⟩:Aj) 5 _ h31) [0]] [] 4 Eh _ hC [pq h29,pq h32] (sI h).symm
      ·exact wx w5 (Ae8) (Ah0 x1 z1 z3 z4) Ct 26 [false] [] [] 4 [0,1,2,3,5,6,7,8,9,10,11,12,13,14] (z5.1,z5.2.1,z5.2.2.1,(Fp z5)) hC [pq h29] (hb5 _ (sI h).symm)
     ·have h:=hnext5 _ hs5
      replace h:=sI h
      subst h
      exact wr Ct 23 [] [] [] 4 [0,1,2,3,10,11,12,13] hC []
theorem A7e:EN 46:=en Tryz.func46
def Ds:List Nat:=[0,1,2,3,4,5,7,8,9,10,11,12,13,15,19,45,47,48,49,50,74,77,78,79,80,92,97,99,100,101,102,124,128,129,130,134,135,136,137,144,149]
def Ad9 (x1:Ab) (n0:Nat) (z0:Unit):St:=[(2,dO 0 0),(3,dO 1 0),(4,dI 0),(47,.d (DS q93 x1.Ac)),(48,dI (ln x1.Ac)),(49,dI (cnt 0 n0))]
def Apw (x0:Aa) (x1:Ab) (n0:Nat) (z0:Unit):List Res:=[.box 30 (d30 x0),.box 39 (d39 x1)]
def Ar0  (z0:Unit):St:=[(2,dO 0 0),(3,dO 1 0),(4,dI 0)]
def Avs (x0:Aa) (x1:Ab) (z0:Unit):List Res:=[.box 30 (d30 x0),.box 39 (d39 x1)]
def Ad8 (x1:Ab) (n1:Nat) (z1:Unit):St:=[(2,dO 0 0),(3,dO 1 0),(4,dI 0),(77,.d (DS pI x1.Ap)),(78,dI (ln x1.Ap)),(79,dI (cnt 0 n1))]
def Apv (x0:Aa) (x1:Ab) (n1:Nat) (z1:Unit):List Res:=[.box 30 (d30 x0),.box 39 (d39 x1)]
def Arz  (z1:Unit):St:=[(2,dO 0 0),(3,dO 1 0),(4,dI 0)]
def Avr (x0:Aa) (x1:Ab) (z1:Unit):List Res:=[.box 30 (d30 x0),.box 39 (d39 x1)]
def Ad7 (x1:Ab) (n2:Nat) (z2:Unit):St:=[(2,dO 0 0),(3,dO 1 0),(4,dI 0),(99,.d (DS q96 x1.Am)),(100,dI (ln x1.Am)),(101,dI (cnt 0 n2))]
def Apu (x0:Aa) (x1:Ab) (n2:Nat) (z2:Unit):List Res:=[.box 30 (d30 x0),.box 39 (d39 x1)]
def Ary  (z2:Unit):St:=[(2,dO 0 0),(3,dO 1 0),(4,dI 0)]
def Avq (x0:Aa) (x1:Ab) (z2:Unit):List Res:=[.box 30 (d30 x0),.box 39 (d39 x1)]
def Ad6 (x0:Aa) (z3:Int):St:=[(2,dO 0 0),(3,dO 1 0),(4,dI 0),(128,dI (ln x0.Ae)),(129,dI z3)]
def Apt (x0:Aa) (x1:Ab) (z3:Int):List Res:=[.box 30 (d30 x0),.box 39 (d39 x1)]
def Arx  (z3:Int):St:=[(4,dI 0)]
def Avp  (z3:Int):List Res:=[]
def Zf (x0:Aa) (z3:Int) (y14:(List Int)) (n4:Nat) (z4:Int):St:=[(2,dO 0 0),(3,dO 1 0),(4,dI 0),(13,dI z4),(128,dI (ln x0.Ae)),(129,dI z3),(134,dS 2),(135,dI (ln y14)),(136,dI (cnt 0 n4))]
def Adc (x0:Aa) (x1:Ab) (y14:(List Int)) (n4:Nat) (z4:Int):List Res:=[.box 30 (d30 x0),.box 39 (d39 x1),v0_ y14]
def Arw (x0:Aa) (z3:Int) (z4:Int):St:=[(2,dO 0 0),(3,dO 1 0),(4,dI 0),(13,dI z4),(128,dI (ln x0.Ae)),(129,dI z3)]
def Avo (x0:Aa) (x1:Ab) (z4:Int):List Res:=[.box 30 (d30 x0),.box 39 (d39 x1)]
set_option maxHeartbeats 4000000 in
theorem k62 (x0 : Aa) (x1 : Ab) (r : Int) (h : F62 x0 x1 = some r) : CO 62 [.agg (d30 x0), .agg (d39 x1)] [] (.d (I r)) [] := by
 unfold F62 at h
 refine co 151 Tryz.func62 λ C hC=>?_
 obtain⟨y1,h2,h⟩:=Az h
 rcases cB h with⟨h3,h⟩ | ⟨h3,h⟩
 ·replace h:=sI h
  subst h
  exact wr Ds 31 [true] [pc e43 (k43 x0 _ h2) []] [] 0 [] hC [pq h3]
 ·refine wn Ds 33 [false] [pc e43 (k43 x0 _ h2) [], pl pB x1.Ag, pl q70 x0.Ad, pL_ [(((ln x1.Ag) != (ln x0.Ad)), false)] q93 x1.Ac, pL_ [(((ln x1.Ag) != (ln x0.Ad)), false)] q72 x0.Ac, pL_ [((((ln x1.Ag) != (ln x0.Ad)) || ((ln x1.Ac) != (ln x0.Ac))), false)] pI x1.Ap, pL_ [((((ln x1.Ag) != (ln x0.Ad)) || ((ln x1.Ac) != (ln x0.Ac))), false)] q81 x0.Ae] [] 0 [0, 1] [2, 3, 4, 45] hC [pq h3] ?_
  rcases cB h with⟨h4,h⟩ | ⟨h4,h⟩
  ·replace h:=sI h
   subst h
   exact wr Ds 24 [true] [] [] 0 [] hC [pq h4]
  ·refine ws Ds 26 [false] [pl q93 x1.Ac] [] 0 [0, 1] (Ad9 x1 0 ()) (Apw x0 x1 0 ()) hC [pq h4] ?_
   obtain⟨w0,hm0,hret0,hnext0⟩:=As h
   clear h
   refine wc w0 (Ar0) (Avs x0 x1) ?_ λ z0 hs0=>?_
   ·refine wb ?_
    refine Bt 47 rfl λ hl0=>?_
    refine wl (Ad9 x1) (Apw x0 x1) hm0 (λ z0 hn0=>?_) λ n0 a0 z0 w0b hi0 hx0 h hb0 hr0=>?_
    ·clear hm0
     exact wx w0 (Ar0) (Avs x0 x1) Ds 26 [false] [] [] 0 [0,1] _ hC [pq (Bf hl0)] hn0
    ·unfold Ai9 at h
     refine wn Ds 32 [true] [pt hx0 hl0,pc e82 (k82 a0.State 0 3 _ rfl) [],⟨.when [(!(F82 a0.State 0 3),false)] (.call 82 [dI a0.Since,dI 0,dI 2147483648] [] (dB (F82 a0.Since 0 2147483648)) [] []),λ hg=>⟨e82,(k82 a0.Since 0 2147483648 _ rfl)⟩⟩,⟨.when [(((!(F82 a0.State 0 3)) || (!(F82 a0.Since 0 2147483648))),false)] (.call 82 [dI a0.Aq,dI 0,dI 6000] [] (dB (F82 a0.Aq 0 6000)) [] []),λ hg=>⟨e82,(k82 a0.Aq 0 6000 _ rfl)⟩⟩,⟨.when [((((!(F82 a0.State 0 3)) || (!(F82 a0.Since 0 2147483648))) || (!(F82 a0.Aq 0 6000))),false)] (.call 82 [dI a0.Phase,dI 0,dI 3599] [] (dB (F82 a0.Phase 0 3599)) [] []),λ hg=>⟨e82,(k82 a0.Phase 0 3599 _ rfl)⟩⟩] [] 0 [0,1] [2,3,4,47,48,49,74] hC [pq (A9 hi0 hl0)] ?_
     rcases cB h with⟨h5,h⟩ | ⟨h5,h⟩
     ·have hq:=hret0 _ (hr0 _ (sI h).symm)
      replace hq:=sI hq
      subst hq
      exact wr Ds 24 [true] [] [] 0 [] hC [pq h5]
     ·exact wx w0b (Ad9 x1 (n0+1)) (Apw x0 x1 (n0+1)) Ds 25 [false] [] [] 0 [0,1] _ hC [pq h5] (sI h).symm
   ·have h := hnext0 _ hs0
    refine ws Ds 24 [] [pl pI x1.Ap] [] 0 [0,1] (Ad8 x1 0 ()) (Apv x0 x1 0 ()) hC [] ?_
    obtain⟨w1,hm1,hret1,hnext1⟩:=As h
    clear h
    refine wc w1 (Arz) (Avr x0 x1) ?_ λ z1 hs1=>?_
    ·refine wb ?_
     refine Bt 77 rfl λ hl1=>?_
     refine wl (Ad8 x1) (Apv x0 x1) hm1 (λ z1 hn1=>?_) λ n1 a1 z1 w1b hi1 hx1 h hb1 hr1=>?_
     ·clear hm1
      exact wx w1 (Arz) (Avr x0 x1) Ds 26 [false] [] [] 0 [0,1] _ hC [pq (Bf hl1)] hn1
     ·unfold Ai8 at h
      obtain⟨y6,h7,h⟩:=Az h
      refine wn Ds 32 [true] [pt hx1 hl1,pr q81 h7,pc e82 (k82 a1 0 y6.Load _ rfl) []] [] 0 [0,1] [2,3,4,77,78,79,92] hC [pq (A9 hi1 hl1)] ?_
      rcases cB h with⟨h8,h⟩ | ⟨h8,h⟩
      ·have hq:=hret1 _ (hr1 _ (sI h).symm)
       replace hq:=sI hq
       subst hq
       exact wr Ds 24 [true] [] [] 0 [] hC [pq h8]
      ·exact wx w1b (Ad8 x1 (n1+1)) (Apv x0 x1 (n1+1)) Ds 25 [false] [] [] 0 [0,1] _ hC [pq h8] (sI h).symm
    ·have h := hnext1 _ hs1
     rcases cB h with⟨h9,h⟩ | ⟨h9,h⟩
     ·replace h:=sI h
      subst h
      exact wr Ds 27 [true] [pl q96 x1.Am] [] 0 [] hC [pq h9]
     ·refine ws Ds 29 [false] [pl q96 x1.Am,pl q96 x1.Am] [] 0 [0,1] (Ad7 x1 0 ()) (Apu x0 x1 0 ()) hC [pq h9] ?_
      obtain⟨w2,hm2,hret2,hnext2⟩:=As h
      clear h
      refine wc w2 (Ary) (Avq x0 x1) ?_ λ z2 hs2=>?_
      ·refine wb ?_
       refine Bt 99 rfl λ hl2=>?_
       refine wl (Ad7 x1) (Apu x0 x1) hm2 (λ z2 hn2=>?_) λ n2 a2 z2 w2b hi2 hx2 h hb2 hr2=>?_
       ·clear hm2
        exact wx w2 (Ary) (Avq x0 x1) Ds 26 [false] [] [] 0 [0,1] _ hC [pq (Bf hl2)] hn2
       ·unfold Ai7 at h
        obtain⟨y10,h11,h⟩:=Az h
        refine wn Ds 32 [true] [pt hx2 hl2,pc e64 (k64 x0 a2 _ rfl) [],pR q96 h11,⟨.when [(!(F64 x0 a2),false),(decide ((cnt 0 n2)>0),true)] (.call 84 [.agg (d96 y10),.agg (d96 a2)] [] (dB (F84 y10 a2)) [] []),λ hg=>⟨e84,(k84 y10 a2 _ rfl)⟩⟩] [] 0 [0,1] [2,3,4,99,100,101,124] hC [pq (A9 hi2 hl2)] ?_
        rcases cB h with⟨h12,h⟩ | ⟨h12,h⟩
        ·have hq:=hret2 _ (hr2 _ (sI h).symm)
         replace hq:=sI hq
         subst hq
         exact wr Ds 24 [true] [] [] 0 [] hC [pq h12]
        ·exact wx w2b (Ad7 x1 (n2+1)) (Apu x0 x1 (n2+1)) Ds 25 [false] [] [] 0 [0,1] _ hC [pq h12] (sI h).symm
      ·have h:=hnext2 _ hs2
       refine ws Ds 24 [] [pl q81 x0.Ae] [] 0 [0,1] (Ad6 x0 0) (Apt x0 x1 0) hC [] ?_
       obtain⟨w3,hm3,hret3,hnext3⟩:=As h
       clear h
       refine wc w3 (Arx) (Avp) ?_ λ z3 hs3=>?_
       ·refine wb ?_
        refine ww (Ad6 x0) (Apt x0 x1) hm3 λ z3 w3b h hb3 hr3=>?_
        unfold Ai6 at h
        rcases cB h with⟨h13,h⟩ | ⟨h13,h⟩
        ·obtain⟨y14,h15,h⟩:=Az h
         refine ws Ds 35 [true] [pc e83 (k83 x0 3 z3 _ h15) [],pl pI y14] [] 0 n3_ (Zf x0 z3 y14 0 0) (Adc x0 x1 y14 0 0) hC [pq h13] ?_
         obtain⟨w4,hm4,hret4,hnext4⟩:=As h
         clear h
         refine wc w4 (Arw x0 z3) (Avo x0 x1) ?_ λ z4 hs4=>?_
         ·refine wb ?_
          refine Cm 134 2 rfl rfl λ hl4=>?_
          refine wl (Zf x0 z3 y14) (Adc x0 x1 y14) hm4 (λ z4 hn4=>?_) λ n4 a4 z4 w4b hi4 hx4 h hb4 hr4=>?_
          ·clear hm4
           exact wx w4 (Arw x0 z3) (Avo x0 x1) Ds 26 [false] [] [] 0 [0,1] _ hC [pq (Bf hl4)] hn4
          ·unfold Ai5 at h
           obtain⟨y16,h17,h⟩:=Az h
           rcases cB h with⟨h18,h⟩ | ⟨h18,h⟩
           ·exact wx w4b (Zf x0 z3 y14 (n4+1)) (Adc x0 x1 y14 (n4+1)) Ds 36 [true,true] [pr pI (Bp hx4 hl4),pn pI (Bp hx4 hl4),pr pB h17] [] 0 n3_ _ hC [pq (A9 hi4 hl4),pq h18] (sI h).symm
           ·exact wx w4b (Zf x0 z3 y14 (n4+1)) (Adc x0 x1 y14 (n4+1)) Ds 36 [true,false] [pr pI (Bp hx4 hl4),pn pI (Bp hx4 hl4),pr pB h17] [] 0 n3_ _ hC [pq (A9 hi4 hl4),pq h18] (sI h).symm
         ·have h:=hnext4 _ hs4
          rcases cB h with⟨h19,h⟩ | ⟨h19,h⟩
          ·have hq:=hret3 _ (hr3 _ (sI h).symm)
           replace hq:=sI hq
           subst hq
           exact wr Ds 26 [true] [] [] 0 [] hC [pq h19]
          ·exact wx w3b (Ad6 x0) (Apt x0 x1) Ds 27 [false] [] [] 0 [0,1] _ hC [pq h19] (sI h).symm
        ·exact wx w3 (Arx) (Avp) Ds 26 [false] [] [] 0 [] z3 hC [pq h13] (hb3 _ (sI h).symm)
       ·have h:=hnext3 _ hs3
        replace h:=sI h
        subst h
        exact wr Ds 23 [] [] [] 0 [] hC []
theorem e62:EN 62:=en Tryz.func62
def Ob:List Nat:=[0,1,2,3,5,6,7,29,43,44,45,46,56,57,58,59,71]
def Adx (x0:Aa) (n0:Nat) (z0:Bool):St:=[(1,dO 0 0),(2,dI 0),(3,dB z0),(43,.d (DS q72 x0.Ac)),(44,dI (ln x0.Ac)),(45,dI (cnt 0 n0))]
def Apk (x0:Aa) (n0:Nat) (z0:Bool):List Res:=[.box 30 (d30 x0)]
def Arj  (z0:Bool):St:=[(1,dO 0 0),(2,dI 0),(3,dB z0)]
def Avb (x0:Aa) (z0:Bool):List Res:=[.box 30 (d30 x0)]
def Adw (x0:Aa) (n1:Nat) (z1:Bool):St:=[(2,dI 0),(3,dB z1),(56,.d (DS q81 x0.Ae)),(57,dI (ln x0.Ae)),(58,dI (cnt 0 n1))]
def Apj  (n1:Nat) (z1:Bool):List Res:=[]
def Ari  (z1:Bool):St:=[(2,dI 0),(3,dB z1)]
def Ava  (z1:Bool):List Res:=[]
theorem k86 (x0:Aa) (r:Int) (h:F86 x0=some r):CO 86 [.agg (d30 x0)] [] (.d (I r)) []:=by
 unfold F86 at h
 refine co 72 Tryz.func86 λ C hC=>?_
 refine wn Ob 26 [] [pc e91 (k91 x0.An 1 6 _ rfl) [],pL_ [(!(F91 x0.An 1 6),false)] q70 x0.Ad,pL_ [(((!(F91 x0.An 1 6)) || (decide ((ln x0.Ad)>24))),false)] q72 x0.Ac,pL_ [((((!(F91 x0.An 1 6)) || (decide ((ln x0.Ad)>24))) || (decide ((ln x0.Ac)>8))),false)] q81 x0.Ae] [] 0 [0] [1,2,29] hC [] ?_
 rcases cB h with⟨h1,h⟩ | ⟨h1,h⟩
 ·replace h:=sI h
  subst h
  exact wr Ob 24 [true] [] [] 0 [] hC [pq h1]
 ·obtain⟨y2,h3,h⟩:=Az h
  refine ws Ob 28 [false] [pc A9w (A8v x0 _ h3) [],⟨.when [(y2,true)] (.call 91 [dI x0.Phase,dI 0,dI 1800] [] (dB (F91 x0.Phase 0 1800)) [] []),λ hg=>⟨e91,(k91 x0.Phase 0 1800 _ rfl)⟩⟩,⟨.when [((y2&&(F91 x0.Phase 0 1800)),true)] (.call 91 [dI x0.Aq,dI 0,dI 6000] [] (dB (F91 x0.Aq 0 6000)) [] []),λ hg=>⟨e91,(k91 x0.Aq 0 6000 _ rfl)⟩⟩,pl q72 x0.Ac] [] 0 [0] (Adx x0 0 ((y2&&(F91 x0.Phase 0 1800))&&(F91 x0.Aq 0 6000))) (Apk x0 0 ((y2&&(F91 x0.Phase 0 1800))&&(F91 x0.Aq 0 6000))) hC [pq h1] ?_
  obtain⟨w0,hm0,hret0,hnext0⟩:=As h
  clear h
  refine wc w0 (Arj) (Avb x0) ?_ λ z0 hs0=>?_
  ·refine wb ?_
   refine Bt 43 rfl λ hl0=>?_
   refine wl (Adx x0) (Apk x0) hm0 (λ z0 hn0=>?_) λ n0 a0 z0 w0b hi0 hx0 h hb0 hr0=>?_
   ·clear hm0
    exact wx w0 (Arj) (Avb x0) Ob 26 [false] [] [] 0 [0] _ hC [pq (Bf hl0)] hn0
   ·unfold Awl at h
    exact wx w0b (Adx x0 (n0+1)) (Apk x0 (n0+1)) Ob 33 [true] [pt hx0 hl0,⟨.when [(z0,true)] (.call 114 [.agg (d72 a0)] [] (dB (zS a0)) [] []),λ hg=>⟨A9v,(A8u a0 _ rfl)⟩⟩] [] 0 [0] _ hC [pq (A9 hi0 hl0)] (sI h).symm
  ·have h:=hnext0 _ hs0
   refine ws Ob 24 [] [pl q81 x0.Ae] [] 0 [] (Adw x0 0 z0) (Apj 0 z0) hC [] ?_
   obtain⟨w1,hm1,hret1,hnext1⟩:=As h
   clear h
   refine wc w1 (Ari) (Ava) ?_ λ z1 hs1=>?_
   ·refine wb ?_
    refine Bt 56 rfl λ hl1=>?_
    refine wl (Adw x0) (Apj) hm1 (λ z1 hn1=>?_) λ n1 a1 z1 w1b hi1 hx1 h hb1 hr1=>?_
    ·clear hm1
     exact wx w1 (Ari) (Ava) Ob 26 [false] [] [] 0 [] _ hC [pq (Bf hl1)] hn1
    ·unfold Ait at h
     obtain⟨y4,h5,h⟩:=Az h
     exact wx w1b (Adw x0 (n1+1)) (Apj (n1+1)) Ob 33 [true] [pt hx1 hl1,pw A9u (λ hg=>A8t a1 (cnt 0 n1) _ (Ba h5 hg)) []] [] 0 [] _ hC [pq (A9 hi1 hl1)] (sI h).symm
   ·have h:=hnext1 _ hs1
    rcases cB h with⟨h6,h⟩ | ⟨h6,h⟩
    ·replace h:=sI h
     subst h
     exact wr Ob 27 [true] [] [] 0 [] hC [pq h6]
    ·replace h:=sI h
     subst h
     exact wr Ob 28 [false] [] [] 0 [] hC [pq h6]
theorem e86:EN 86:=en Tryz.func86
theorem A6p (x0:List Af) (r:Bool) (h:Wf x0=some r):CO 88 [.d (DS q93 x0),.d (.fn (.func 89) [] [])] [] (.d (Bo r)) []:=by
 unfold Wf at h
 refine co 9 Tryz.func88 λ C hC=>?_
 obtain⟨y1,h2,h⟩:=Az h
 replace h:=sI h
 subst h
 exact wr [0,1,4] 25 [] [pc A5n (A38 x0 _ h2) []] [] 0 [] hC []
theorem A67:EN 88:=en Tryz.func88
theorem A30 (x0:A1) (x1:Int) (r:Int×A1) (h:U1 x0 x1=some r):CO 139 [.d (.o 0 0),.d (I x1)] (.box 175 (zb x0.Al [.os 1,.os 2,.os 3,.os 4,I x0.time])::zp x0.Au []) (.d (I r.1)) (.box 175 (zb r.2.Al [.os 1,.os 2,.os 3,.os 4,I r.2.time])::zp r.2.Au []):=by
 unfold U1 at h
 refine co 53 Tryz.func139 λ C hC=>?_
 obtain⟨y1,h2,y3,h4,h⟩:=Bc h
 refine wn [0,1,4,5,23,43] 26 [] [pr q93 h2,pn q93 h2,pv K4 (λ hg=>K2 x0.Au 1 x1 _ (Ba h4 hg))] [] 5 n5_ [0,1,4,23] hC [] ?_
 rcases cB h with⟨h5,h⟩ | ⟨h5,h⟩
 ·replace h:=sI h
  subst h
  exact wr [0,1,4,5,23,43] 24 [true] [] [] 5 n5_ hC [pq h5]
 ·obtain⟨y6,h7,y8,h9,h⟩:=Bc h
  refine wn [0,1,4,5,23,43] 28 [false] [pr q72 h7,pv Ag2 (λ hg=>Af9 x0 x1 _ (Ba h9 hg))] [] 5 n6_ [0,1,4,5,43] hC [pq h5] ?_
  rcases cB h with⟨h10,h⟩ | ⟨h10,h⟩
  ·obtain⟨y11,h12,h⟩:=Az h
   replace h:=sI h
   subst h
   exact wr [0,1,4,5,23,43] 27 [true] [pr q93 h2,pu q93 h2 h12] [] 5 n5_ hC [pq h10]
  ·obtain⟨y13,h14,h⟩:=Az h
   replace h:=sI h
   subst h
   exact wr [0,1,4,5,23,43] 27 [false] [pr q93 h2,pu q93 h2 h14] [] 5 n5_ hC [pq h10]
theorem A5f:EN 139:=en Tryz.func139
theorem A3z (x0:A1) (x1:Int) (r:Int×A1) (h:U0 x0 x1=some r):CO 140 [.d (.o 0 0),.d (I x1)] (.box 175 (zb x0.Al [.os 1,.os 2,.os 3,.os 4,I x0.time])::zp x0.Au []) (.d (I r.1)) (.box 175 (zb r.2.Al [.os 1,.os 2,.os 3,.os 4,I r.2.time])::zp r.2.Au []):=by
 unfold U0 at h
 refine co 34 Tryz.func140 λ C hC=>?_
 obtain⟨y1,h2,y3,h4,h⟩:=Bc h
 refine wn [0,1,4,5,30] 28 [] [pr q93 h2,pn q93 h2,⟨.when [((y1.State != 1),true)] (.row (x0.Au.Ac.map q93) (((Int.toNat x1):Nat):Int) (q93 y1)),λ hg=>Jt h2⟩,pv Ag2 (λ hg=>Af9 x0 x1 _ (Ba h4 hg))] [] 5 n5_ [4,5,30] hC [] ?_
 rcases cB h with⟨h5,h⟩ | ⟨h5,h⟩
 ·replace h:=sI h
  subst h
  exact wr [0,1,4,5,30] 24 [true] [] [] 5 n5_ hC [pq h5]
 ·obtain⟨y6,h7,h⟩:=Az h
  replace h:=sI h
  subst h
  exact wr [0,1,4,5,30] 27 [false] [pu q93 h2 h7] [] 5 n5_ hC [pq h5]
theorem A5e:EN 140:=en Tryz.func140
def O1:List Nat:=[0,1,2,3,4,5,7,12,20]
theorem A3p (x0:Ay) (x1:Ai) (r:Bool×Ay) (h:Ur x0 x1=some r):CO 157 [.d (.o 0 0),.agg (d70 x1)] (.box 214 (zb x0.Al [.os 1,.os 2,.os 3,.os 4,.os 5])::zp x0.Au [v6_ x0.acts]) (.d (Bo r.1)) (.box 214 (zb r.2.Al [.os 1,.os 2,.os 3,.os 4,.os 5])::zp r.2.Au [v6_ r.2.acts]):=by
 unfold Ur at h
 refine co 45 Tryz.func157 λ C hC=>?_
 obtain⟨y1,h2,h⟩:=Az h
 refine wn O1 29 [] [pc jH (Z8 3 x1.A x0 _ h2) [6,0,1,2,3,4,5]] [] 6 n8_ [2,3,4,5,7] hC [] ?_
 rcases cB h with⟨h3,h⟩ | ⟨h3,h⟩
 ·replace h:=sI h
  subst h
  exact wr O1 24 [true] [] [] 6 n6_ hC [pq h3]
 ·rcases cB h with⟨h4,h⟩ | ⟨h4,h⟩
  ·obtain⟨y5,h6,h⟩:=Az h
   replace h:=sI h
   subst h
   exact wr O1 27 [false,true] [pc jH (Z8 3 x1.B y1.2 _ h6) [6,0,1,2,3,4,5]] [] 6 n6_ hC [pq h3,pq h4]
  ·rcases cB h with⟨h7,h⟩ | ⟨h7,h⟩
   ·obtain⟨y8,h9,y10,h11,h⟩:=Bc h
    replace h:=sI h
    subst h
    exact wr O1 30 [false,false,true] [pc jH (Z8 1 x1.B y1.2 _ h9) [6,0,1,2,3,4,5],pR q93 h11,pN q93 h11] [] 6 n6_ hC [pq h3,pq h4,pq h7]
   ·obtain⟨y12,h13,h⟩:=Az h
    replace h:=sI h
    subst h
    exact wr O1 32 [false,false,false] [pc jH (Z8 4 x1.B y1.2 _ h13) [6,0,1,2,3,4,5]] [] 6 n6_ hC [pq h3,pq h4,pq h7]
theorem A44:EN 157:=en Tryz.func157
def Lq:List Nat:=[0,1,2,6,7,8,9,13,30,35,54]
def R_ (x1:Int) (z0:Sg9):St:=[(0,dS 0),(1,dI x1),(2,.d (.fn (.func 191) [] [.o 1 0])),(6,dI 20),(7,dI z0.1),(8,dI z0.2.1)]
def Yk  (z0:Sg9):List Res:=[v0_ z0.2.2.1,.box 30 [I (g3_ z0),DS q70 (g4_ z0),DS q72 (g5_ z0),DS q81 (g6_ z0),I (g7_ z0),I (yD z0)]]
def Aaq (x1:Int) (z0:Sg9):St:=[(0,dS 0),(1,dI x1),(2,.d (.fn (.func 191) [] [.o 1 0])),(6,dI 20),(7,dI z0.1),(8,dI z0.2.1)]
def Abv  (z0:Sg9):List Res:=[v0_ z0.2.2.1,.box 30 [I (g3_ z0),DS q70 (g4_ z0),DS q72 (g5_ z0),DS q81 (g6_ z0),I (g7_ z0),I (yD z0)]]
def Aag (x1:Int) (z0:Sg9) (z1:Unit):St:=[(0,dS 0),(1,dI x1),(2,.d (.fn (.func 191) [] [.o 1 0])),(6,dI 20),(7,dI z0.1),(8,dI z0.2.1)]
def Aia (y4:(List Int)×Aa) (z1:Unit):List Res:=[v0_ y4.1,.box 30 (d30 y4.2)]
def Aap  (z1:Unit):St:=[]
def Abu (y4:(List Int)×Aa) (z1:Unit):List Res:=[v0_ y4.1,.box 30 (d30 y4.2)]
def A7p (x1:Int) (z2:Unit):St:=[(0,dS 0),(1,dI x1),(2,.d (.fn (.func 191) [] [.o 1 0])),(6,dI 20),(7,dI 0),(8,dI 40)]
def A92 (y4:(List Int)×Aa) (z2:Unit):List Res:=[v0_ y4.1,.box 30 (d30 y4.2)]
def A7q (x1:Int) (z2:Unit):St:=[(0,dS 0),(1,dI x1),(2,.d (.fn (.func 191) [] [.o 1 0])),(6,dI 20),(7,dI 0),(8,dI 40)]
def A7r (y4:(List Int)×Aa) (z2:Unit):List Res:=[v0_ y4.1,.box 30 (d30 y4.2)]
theorem A28 (x0:List Int) (x1:Int) (x2c0:Aa) (r:(List Int)×Aa) (h:qU x0 x1 x2c0=some r):CO 207 [.d (.os 0),.d (I x1),.d (.fn (.func 191) [] [.o 1 0])] [v0_ x0,.box 30 (d30 x2c0)] (.tup []) [v0_ r.1,.box 30 (d30 r.2)]:=by
 unfold qU at h
 refine co 63 Tryz.func207 λ C hC=>?_
 refine ws Lq 26 [] [] [] 2 [0,1] (R_ x1 (0,20,x0,x2c0.An,x2c0.Ad,x2c0.Ac,x2c0.Ae,x2c0.Phase,x2c0.Aq)) (Yk (0,20,x0,x2c0.An,x2c0.Ad,x2c0.Ac,x2c0.Ae,x2c0.Phase,x2c0.Aq)) hC [] ?_
 obtain⟨w0,hm0,hret0,hnext0⟩:=As h
 clear h
 refine wc w0 (Aaq x1) (Abv) ?_ λ z0 hs0=>?_
 ·refine wb ?_
  refine ww (R_ x1) (Yk) hm0 λ z0 w0b h hb0 hr0=>?_
  unfold Ub at h
  rcases cB h with⟨h1,h⟩ | ⟨h1,h⟩
  ·obtain⟨y2,h3,h⟩:=Az h
   exact wx w0b (R_ x1) (Yk) Lq 33 [true] [pc At1 (As7 z0.2.2.1 z0.1 z0.2.1 (⟨(g3_ z0),(g4_ z0),(g5_ z0),(g6_ z0),(g7_ z0),(yD z0)⟩:Aa) _ h3) [0,1]] [] 2 [0,1] _ hC [pq h1] (sI h).symm
  ·exact wx w0 (Aaq x1) (Abv) Lq 26 [false] [] [] 2 [0,1] (z0.1,z0.2.1,z0.2.2.1,(g3_ z0),(g4_ z0),(g5_ z0),(g6_ z0),(g7_ z0),(yD z0)) hC [pq h1] (hb0 _ (sI h).symm)
 ·have h:=hnext0 _ hs0
  obtain⟨y4,h5,h⟩:=Az h
  refine ws Lq 23 [] [pc At1 (As7 z0.2.2.1 z0.1 x1 (⟨(g3_ z0),(g4_ z0),(g5_ z0),(g6_ z0),(g7_ z0),(yD z0)⟩:Aa) _ h5) [0,1]] [] 2 [0,1] (Aag x1 z0 ()) (Aia y4 ()) hC [] ?_
  obtain⟨w1,hm1,hret1,hnext1⟩:=As h
  clear h
  refine wc w1 (Aap) (Abu y4) ?_ λ z1 hs1=>?_
  ·refine wb ?_
   refine ww (Aag x1 z0) (Aia y4) hm1 λ z1 w1b h hb1 hr1=>?_
   unfold Ua at h
   rcases cB h with⟨h6,h⟩ | ⟨h6,h⟩
   ·cases h
   ·exact wx w1 (Aap) (Abu y4) Lq 26 [false] [] [] 2 [0,1] () hC [pq h6] (hb1 _ (sI h).symm)
  ·have h:=hnext1 _ hs1
   replace h:=sI h
   subst h
   exact wf Lq 20 [] [] [] 2 [0,1] hC []
theorem A4n:EN 207:=en Tryz.func207
def Iw:List Nat:=[0,1,4,5,6,7,12,19,29]
def Nf  (z0:Int×Int×(List Int)):St:=[(0,dS 0),(1,.d (.fn (.func 161) [] [.o 1 0])),(4,.d (DS pI [])),(5,dI z0.1),(6,dI z0.2.1)]
def Q0 (y1:Int×Ah) (z0:Int×Int×(List Int)):List Res:=[v0_ z0.2.2,.box 137 (H9 y1.2)]
def Aay  (z0:Int×Int×(List Int)):St:=[(0,dS 0),(4,.d (DS pI [])),(5,dI z0.1)]
def Ab3 (y1:Int×Ah) (z0:Int×Int×(List Int)):List Res:=[v0_ z0.2.2,.box 137 (H9 y1.2)]
theorem A3n (x0:List Int) (x1c0:Ah) (r:(List Int)×Ah) (h:Uo x0 x1c0=some r):CO 160 [.d (.os 0),.d (.fn (.func 161) [] [.o 1 0])] [.sl 3 1 (x0.map pI),.box 137 (H9 x1c0)] (.d (.os 2)) [.non,.box 137 (H9 r.2),.sl 3 1 (r.1.map pI)]:=by
 unfold Uo at h
 refine co 42 Tryz.func160 λ C hC=>?_
 obtain⟨y1,h2,h⟩:=Az h
 refine wn Iw 28 [] [pc A4p (A3a x0 x1c0 _ h2) [0,1]] [] 2 [0,1] [0,1,4,5,12] hC [] ?_
 rcases cB h with⟨h3,h⟩ | ⟨h3,h⟩
 ·replace h:=sI h
  subst h
  exact wr Iw 24 [true] [] [.mv 0] 2 n3_ hC [pq h3]
 ·refine ws Iw 26 [false] [] [] 2 [0,1] (Nf (y1.1,w64 (y1.1+1),x0)) (Q0 y1 (y1.1,w64 (y1.1+1),x0)) hC [pq h3] ?_
  obtain⟨w0,hm0,hret0,hnext0⟩:=As h
  clear h
  refine wc w0 (Aay) (Ab3 y1) ?_ λ z0 hs0=>?_
  ·refine wb ?_
   refine ww (Nf) (Q0 y1) hm0 λ z0 w0b h hb0 hr0=>?_
   unfold Un at h
   rcases cB h with⟨h4,h⟩ | ⟨h4,h⟩
   ·obtain⟨y5,h6,y7,h8,h⟩:=Bc h
    refine wn Iw 32 [true] [pl pI z0.2.2,pr pI h6,pn pI h6,pb At4 (Ata y5 y1.2 _ h8)] [] 2 [0,1] [0,1,4,5,6,7,29] hC [pq h4] ?_
    rcases cB h with⟨h9,h⟩ | ⟨h9,h⟩
    ·obtain⟨y10,h11,y12,h13,h⟩:=Bc h
     exact wx w0b (Nf) (Q0 y1) Iw 27 [true] [pr pI h11,pu pI h11 h13] [] 2 [0,1] _ hC [pq h9] (sI h).symm
    ·exact wx w0b (Nf) (Q0 y1) Iw 25 [false] [] [] 2 [0,1] _ hC [pq h9] (sI h).symm
   ·exact wx w0 (Aay) (Ab3 y1) Iw 26 [false] [pl pI z0.2.2] [] 2 [0,1] (z0.1,z0.2.1,z0.2.2) hC [pq h4] (hb0 _ (sI h).symm)
  ·have h:=hnext0 _ hs0
   obtain⟨u15,h14,u17,h16,h⟩:=Bc h
   replace h:=sI h
   subst h
   (rw [List.map_take];exact jZ (bs:=[]) mixed Iw 25 [] [.bnd (z0.2.2.map pI).length z0.1 (((z0.2.2.map pI).length:Nat):Int) (ln z0.2.2),.eqr ((z0.2.2.map pI).take (Int.toNat z0.1)++(List.replicate ((Int.toNat (ln z0.2.2))-(Int.toNat z0.1)) (pI 0)++(z0.2.2.map pI).drop ((Int.toNat z0.1)+((Int.toNat (ln z0.2.2))-(Int.toNat z0.1))))) ((Gd z0.2.2 (Int.toNat z0.1) ((Int.toNat (ln z0.2.2))-(Int.toNat z0.1)) 0).map pI),.bnd ((Gd z0.2.2 (Int.toNat z0.1) ((Int.toNat (ln z0.2.2))-(Int.toNat z0.1)) 0).map pI).length 0 z0.1 z0.1] [.trunc 4] [.tmp 4] 2 n3_ rfl hC ⟨E_ (by simp) (by simp) h14,yP pI rfl,E_ (by simp) rfl h16,trivial⟩ trivial (by kernel_rfl))
theorem A42:EN 160:=en Tryz.func160
def Z1:List Nat:=[0,1,2,3,4,6,7,8,32,43]
theorem A8i (x0:Aa) (x1:Ab) (x2:Int) (r:Int×Bool) (h:Ajw x0 x1 x2=some r):CO 149 [.agg (d30 x0),.agg (d39 x1),.d (I x2)] [] (.tup [.d (I r.1),.d (Bo r.2)]) []:=by
 unfold Ajw at h
 refine co 50 Tryz.func149 λ C hC=>?_
 obtain⟨y1,h2,y3,h4,h⟩:=Bc h
 refine wn Z1 26 [] [pc e62 (k62 x0 x1 _ h2) [],pL_ [(((y1 != 0) || (decide (x2<0))),false)] q72 x0.Ac,pR q93 h4] [] 0 [0,1] [2,3,4,6,7,32] hC [] ?_
 rcases cB h with⟨h5,h⟩ | ⟨h5,h⟩
 ·replace h:=sI h
  subst h
  exact wr Z1 24 [true] [] [] 0 [] hC [pq h5]
 ·obtain⟨y6,h7,y8,h9,y10,h11,h⟩:=B3 h
  refine wn Z1 28 [false] [pc e83 (k83 x0 2 x2 _ h7) [],pr pI h9,pn pI h9,pr pB h11] [] 0 [0] [3,6,7,8,43] hC [pq h5] ?_
  rcases cB h with⟨h12,h⟩ | ⟨h12,h⟩
  ·replace h:=sI h
   subst h
   exact wr Z1 24 [true] [] [] 0 [] hC [pq h12]
  ·obtain⟨y13,h14,h⟩:=Az h
   replace h:=sI h
   subst h
   exact wr Z1 25 [false] [pr q70 h14] [] 0 [] hC [pq h12]
theorem A9j:EN 149:=en Tryz.func149
def Sz:List Nat:=[0,1,2,3,4,5,6,7,8,12,38,50,51,52,53,77]
def Ad3 (x1:Ab) (n0:Nat) (z0:Bool):St:=[(2,dO 0 0),(3,dO 1 0),(4,dI 0),(6,dB z0),(50,.d (DS pI x1.Ap)),(51,dI (ln x1.Ap)),(52,dI (cnt 0 n0))]
def Apq (x0:Aa) (x1:Ab) (n0:Nat) (z0:Bool):List Res:=[.box 30 (d30 x0),.box 39 (d39 x1)]
def Art  (z0:Bool):St:=[(4,dI 0),(6,dB z0)]
def Avl  (z0:Bool):List Res:=[]
theorem k65 (x0:Aa) (x1:Ab) (r:Int) (h:F65 x0 x1=some r):CO 65 [.agg (d30 x0),.agg (d39 x1)] [] (.d (I r)) []:=by
 unfold F65 at h
 refine co 78 Tryz.func65 λ C hC=>?_
 obtain⟨y1,h2,h⟩:=Az h
 rcases cB h with⟨h3,h⟩ | ⟨h3,h⟩
 ·replace h:=sI h
  subst h
  exact wr Sz 31 [true] [pc e86 (k86 x0 _ h2) []] [] 0 [] hC [pq h3]
 ·refine wn Sz 33 [false] [pc e86 (k86 x0 _ h2) [],pl pB x1.Ag,pl q70 x0.Ad,pL_ [(((ln x1.Ag) != (ln x0.Ad)),false)] q93 x1.Ac,pL_ [(((ln x1.Ag) != (ln x0.Ad)),false)] q72 x0.Ac,pL_ [((((ln x1.Ag) != (ln x0.Ad)) || ((ln x1.Ac) != (ln x0.Ac))),false)] pI x1.Ap,pL_ [((((ln x1.Ag) != (ln x0.Ad)) || ((ln x1.Ac) != (ln x0.Ac))),false)] q81 x0.Ae] [] 0 [0,1] [2,3,4,38] hC [pq h3] ?_
  rcases cB h with⟨h4,h⟩ | ⟨h4,h⟩
  ·replace h:=sI h
   subst h
   exact wr Sz 24 [true] [] [] 0 [] hC [pq h4]
  ·obtain⟨y5,h6,y7,h8,h⟩:=Bc h
   refine ws Sz 28 [false] [pc e87 (k87 x0 x1.Am _ h6) [],pw A67 (λ hg=>A6p x1.Ac _ (Ba h8 hg)) [],pl pI x1.Ap] [] 0 [0,1] (Ad3 x1 0 (y5&&(!y7))) (Apq x0 x1 0 (y5&&(!y7))) hC [pq h4] ?_
   obtain⟨w0,hm0,hret0,hnext0⟩:=As h
   clear h
   refine wc w0 (Art) (Avl) ?_ λ z0 hs0=>?_
   ·refine wb ?_
    refine Bt 50 rfl λ hl0=>?_
    refine wl (Ad3 x1) (Apq x0 x1) hm0 (λ z0 hn0=>?_) λ n0 a0 z0 w0b hi0 hx0 h hb0 hr0=>?_
    ·clear hm0
     exact wx w0 (Art) (Avl) Sz 26 [false] [] [] 0 [] _ hC [pq (Bf hl0)] hn0
    ·unfold Ai2 at h
     obtain⟨y9,h10,y11,h12,h⟩:=Bc h
     exact wx w0b (Ad3 x1 (n0+1)) (Apq x0 x1 (n0+1)) Sz 33 [true] [pt hx0 hl0,pR q81 h10,⟨.when [(z0,true)] (.call 91 [dI a0,dI 0,dI y9.Load] [] (dB (F91 a0 0 y9.Load)) [] []),λ hg=>⟨e91,(k91 a0 0 y9.Load _ rfl)⟩⟩,pw e92 (λ hg=>k92 x0 x1 (cnt 0 n0) _ (Ba h12 hg)) []] [] 0 [0,1] _ hC [pq (A9 hi0 hl0)] (sI h).symm
   ·have h:=hnext0 _ hs0
    rcases cB h with⟨h13,h⟩ | ⟨h13,h⟩
    ·replace h:=sI h
     subst h
     exact wr Sz 27 [true] [] [] 0 [] hC [pq h13]
    ·replace h:=sI h
     subst h
     exact wr Sz 28 [false] [] [] 0 [] hC [pq h13]
theorem e65:EN 65:=en Tryz.func65
def Hk:List Nat:=[0,1,4,5,6,8,13,14,15,16,32,38,39,40,41]
def Ni (x0:Ay) (n0:Nat) (z0:Sg8):St:=[(0,dO 0 0),(1,.d (.fn (.func 157) [.o 0 0] [])),(4,dS 6),(13,.d (DS q70 x0.Al.Ad)),(14,dI (ln x0.Al.Ad)),(15,dI (cnt 0 n0))]
def Q3  (n0:Nat) (z0:Sg8):List Res:=[.box 214 [I z0.1,DS q70 z0.2.1,DS q72 z0.2.2.1,DS q81 (g3_ z0),I (g4_ z0),I (g5_ z0),.os 7,.os 8,.os 9,.os 10,.os 11],.non,.non,.non,.non,.non,v0_ (g6_ z0),v2_ (g7_ z0),v4_ (g8_ z0),v0_ (g9_ z0),v3_ (Dp z0),v6_ (Ie z0)]
def Aa4  (z0:Sg8):St:=[(0,dO 0 0),(4,dS 6)]
def Ab9  (z0:Sg8):List Res:=[.box 214 [I z0.1,DS q70 z0.2.1,DS q72 z0.2.2.1,DS q81 (g3_ z0),I (g4_ z0),I (g5_ z0),.os 7,.os 8,.os 9,.os 10,.os 11],.non,.non,.non,.non,.non,v0_ (g6_ z0),v2_ (g7_ z0),v4_ (g8_ z0),v0_ (g9_ z0),v3_ (Dp z0),v6_ (Ie z0)]
def Sg (z0:Sg8) (n1:Nat) (z1:Sg7):St:=[(0,dO 0 0),(38,dS 6),(39,dI (ln (g6_ z0))),(40,dI (cnt 0 n1))]
def Yr (z0:Sg8) (n1:Nat) (z1:Sg7):List Res:=[.box 214 [I z1.1,DS q70 z1.2.1,DS q72 z1.2.2.1,DS q81 (g3_ z1),I (g4_ z1),I (g5_ z1),.os 7,.os 8,.os 9,.os 10,.os 11],.non,.non,.non,.non,.non,v0_ (g6_ z0),v2_ (g6_ z1),v4_ (g7_ z1),v0_ (g8_ z1),v3_ (g9_ z1),v6_ (Fu z1)]
def Aa3  (z1:Sg7):St:=[]
def Ab8  (z1:Sg7):List Res:=[.box 214 [I z1.1,DS q70 z1.2.1,DS q72 z1.2.2.1,DS q81 (g3_ z1),I (g4_ z1),I (g5_ z1),.os 6,.os 7,.os 8,.os 9,.os 10],.non,.non,.non,.non,.non,v2_ (g6_ z1),v4_ (g7_ z1),v0_ (g8_ z1),v3_ (g9_ z1),v6_ (Fu z1)]
theorem A3s (x0:Ay) (r:Ay) (h:Ux x0=some r):CO 156 [.d (.o 0 0),.d (.fn (.func 157) [.o 0 0] [])] (.box 214 (zb x0.Al [.os 1,.os 2,.os 3,.os 4,.os 5])::zp x0.Au [v6_ x0.acts]) (.tup []) (.box 214 (zb r.Al [.os 6,.os 7,.os 8,.os 9,.os 10]) :: .non :: .non :: .non :: .non :: .non::zp r.Au [v6_ r.acts]):=by
 unfold Ux at h
 refine co 48 Tryz.func156 λ C hC=>?_
 refine ws Hk 26 [] [pl q70 x0.Al.Ad] [.own 4 3 1,.mv 1,.mv 2,.mv 3,.mv 4,.mv 5] 6 Fo (Ni x0 0 (zt x0.Al (([]:List Int),zu x0.Au x0.acts))) (Q3 0 (zt x0.Al (([]:List Int),zu x0.Au x0.acts))) hC [] ?_
 obtain⟨w0,hm0,hret0,hnext0⟩:=As h
 clear h
 refine wc w0 (Aa4) (Ab9) ?_ λ z0 hs0=>?_
 ·refine wb ?_
  refine Bt 13 rfl λ hl0=>?_
  refine wl (Ni x0) (Q3) hm0 (λ z0 hn0=>?_) λ n0 a0 z0 w0b hi0 hx0 h hb0 hr0=>?_
  ·clear hm0
   exact wx w0 (Aa4) (Ab9) Hk 26 [false] [] [] 6 Fo _ hC [pq (Bf hl0)] hn0
  ·unfold Uw at h
   obtain⟨y1,h2,y3,h4,h⟩:=Bc h
   refine wn Hk 32 [true] [pt hx0 hl0,pr pB h2,pn pB h2,⟨.whenR [(y1,true)] (.call 157 [dO 0 0,.agg (d70 a0)] [.box 214 [I z0.1,DS q70 z0.2.1,DS q72 z0.2.2.1,DS q81 (g3_ z0),I (g4_ z0),I (g5_ z0),.os 1,.os 2,.os 3,.os 4,.os 5],v2_ (g7_ z0),v4_ (g8_ z0),v0_ (g9_ z0),v3_ (Dp z0),v6_ (Ie z0)] (dB y3.1) (.box 214 (zb y3.2.Al [.os 1,.os 2,.os 3,.os 4,.os 5])::zp y3.2.Au [v6_ y3.2.acts]) [0,7,8,9,10,11]),⟨λ hg=>⟨A44,(A3p (⟨(⟨z0.1,z0.2.1,z0.2.2.1,(g3_ z0),(g4_ z0),(g5_ z0)⟩:Aa),(⟨(g7_ z0),(g8_ z0),(g9_ z0),(Dp z0)⟩:Ab),(Ie z0)⟩:Ay) a0 _ (Ba h4 hg))⟩,λ hg=>by have e:=Hu h4 hg;subst e;rfl⟩⟩] [] 6 Fo [0,1,4,5,13,14,15,32] hC [pq (A9 hi0 hl0)] ?_
   rcases cB h with⟨h5,h⟩ | ⟨h5,h⟩
   ·obtain⟨y6,h7,h⟩:=Az h
    exact wx w0b (Ni x0 (n0+1)) (Q3 (n0+1)) Hk 25 [true] [pa pI 1 h7] [] 6 [0,1,2,3,4,5,12,7,8,9,10,11] _ hC [pq h5] (sI h).symm
   ·exact wx w0b (Ni x0 (n0+1)) (Q3 (n0+1)) Hk 25 [false] [] [] 6 Fo _ hC [pq h5] (sI h).symm
 ·have h:=hnext0 _ hs0
  refine ws Hk 23 [] [pl pI (g6_ z0)] [] 6 Fo (Sg z0 0 (z0.1,z0.2.1,z0.2.2.1,(g3_ z0),(g4_ z0),(g5_ z0),(g7_ z0),(g8_ z0),(g9_ z0),(Dp z0),(Ie z0))) (Yr z0 0 (z0.1,z0.2.1,z0.2.2.1,(g3_ z0),(g4_ z0),(g5_ z0),(g7_ z0),(g8_ z0),(g9_ z0),(Dp z0),(Ie z0))) hC [] ?_
  obtain⟨w1,hm1,hret1,hnext1⟩:=As h
  clear h
  refine wc w1 (Aa3) (Ab8) ?_ λ z1 hs1=>?_
  ·refine wb ?_
   refine Cm 38 6 rfl rfl λ hl1=>?_
   refine wl (Sg z0) (Yr z0) hm1 (λ z1 hn1=>?_) λ n1 a1 z1 w1b hi1 hx1 h hb1 hr1=>?_
   ·clear hm1
    exact wx w1 (Aa3) (Ab8) Hk 26 [false] [] [] 6 [0,1,2,3,4,5,7,8,9,10,11] _ hC [pq (Bf hl1)] hn1
   ·unfold N7 at h
    obtain⟨y8,h9,h⟩:=Az h
    exact wx w1b (Sg z0 (n1+1)) (Yr z0 (n1+1)) Hk 33 [true] [pr pI (Bp hx1 hl1),pn pI (Bp hx1 hl1),pc Ag1 (Af8 (⟨(⟨z1.1,z1.2.1,z1.2.2.1,(g3_ z1),(g4_ z1),(g5_ z1)⟩:Aa),(⟨(g6_ z1),(g7_ z1),(g8_ z1),(g9_ z1)⟩:Ab),(Fu z1)⟩:Ay) a1 _ h9) [0,7,8,9,10,11]] [] 6 [0,1,2,3,4,5,6,7,8,9,10,12] _ hC [pq (A9 hi1 hl1)] (sI h).symm
  ·have h:=hnext1 _ hs1
   replace h:=sI h
   subst h
   exact wf Hk 20 [] [] [] 6 An3 hC []
theorem A47:EN 156:=en Tryz.func156
def Qb:List Nat:=[0,1,2,3,4,6,7,9,24,27,28,29,30,37]
def uR (y4:(List Int)) (n0:Nat) (z0:Unit):St:=[(3,dO 0 0),(4,dO 1 0),(6,dI 0),(7,dB false),(27,dS 2),(28,dI (ln y4)),(29,dI (cnt 0 n0))]
def Aie (x0:Aa) (x1:Ab) (y4:(List Int)) (n0:Nat) (z0:Unit):List Res:=[.box 30 (d30 x0),.box 39 (d39 x1),v0_ y4]
def Ald  (z0:Unit):St:=[(6,dI 0),(7,dB false)]
def Amu  (z0:Unit):List Res:=[]
theorem A8h (x0:Aa) (x1:Ab) (x2:Int) (r:Int×Bool) (h:Ajv x0 x1 x2=some r):CO 151 [.agg (d30 x0),.agg (d39 x1),.d (I x2)] [] (.tup [.d (I r.1),.d (Bo r.2)]) []:=by
 unfold Ajv at h
 refine co 45 Tryz.func151 λ C hC=>?_
 obtain⟨y1,h2,h⟩:=Az h
 refine wn Qb 26 [] [pc e62 (k62 x0 x1 _ h2) [],pL_ [(((y1 != 0) || (decide (x2<0))),false)] q81 x0.Ae] [] 0 [0,1] [2,3,4,6,7,24] hC [] ?_
 rcases cB h with⟨h3,h⟩ | ⟨h3,h⟩
 ·replace h:=sI h
  subst h
  exact wr Qb 24 [true] [] [] 0 [] hC [pq h3]
 ·obtain⟨y4,h5,h⟩:=Az h
  refine ws Qb 26 [false] [pc e83 (k83 x0 3 x2 _ h5) [],pl pI y4] [] 0 n3_ (uR y4 0 ()) (Aie x0 x1 y4 0 ()) hC [pq h3] ?_
  obtain⟨w0,hm0,hret0,hnext0⟩:=As h
  clear h
  refine wc w0 (Ald) (Amu) ?_ λ z0 hs0=>?_
  ·refine wb ?_
   refine Cm 27 2 rfl rfl λ hl0=>?_
   refine wl (uR y4) (Aie x0 x1 y4) hm0 (λ z0 hn0=>?_) λ n0 a0 z0 w0b hi0 hx0 h hb0 hr0=>?_
   ·clear hm0
    exact wx w0 (Ald) (Amu) Qb 26 [false] [] [] 0 [] _ hC [pq (Bf hl0)] hn0
   ·unfold Wk at h
    obtain⟨y6,h7,h⟩:=Az h
    rcases cB h with⟨h8,h⟩ | ⟨h8,h⟩
    ·obtain⟨y9,h10,h⟩:=Az h
     have hq:=hret0 _ (hr0 _ (sI h).symm)
     replace hq:=sI hq
     subst hq
     exact wr Qb 35 [true,true] [pr pI (Bp hx0 hl0),pn pI (Bp hx0 hl0),pr pB h7,pr q70 h10] [] 0 [] hC [pq (A9 hi0 hl0),pq h8]
    ·exact wx w0b (uR y4 (n0+1)) (Aie x0 x1 y4 (n0+1)) Qb 36 [true,false] [pr pI (Bp hx0 hl0),pn pI (Bp hx0 hl0),pr pB h7] [] 0 n3_ _ hC [pq (A9 hi0 hl0),pq h8] (sI h).symm
  ·have h:=hnext0 _ hs0
   replace h:=sI h
   subst h
   exact wr Qb 23 [] [] [] 0 [] hC []
theorem A9i:EN 151:=en Tryz.func151
def G_:List Nat:=[0,1,2,3,4,5,6,7,8,9,10,11,12,13,14,18,25,26,27,28,47,48,49,58,80,81,82,91]
def Ad2 (y4:(List Int)) (n0:Nat) (z0:(List Ah)):St:=[(2,dO 0 0),(3,dO 1 0),(4,.d (DS Bg [])),(5,dS 2),(6,dS 3),(25,dS 2),(26,dI (ln y4)),(27,dI (cnt 0 n0))]
def App (x0:Aa) (x1:Ab) (y4:(List Int)) (n0:Nat) (z0:(List Ah)):List Res:=[.box 30 (d30 x0),.box 39 (d39 x1),v0_ y4,.dsl 137 3 4,.gh 3 [(3,1),(3,1),(3,1)] (z0.map Bg) none]
def Ars  (z0:(List Ah)):St:=[(2,dO 0 0),(3,dO 1 0),(4,.d (DS Bg [])),(5,dS 2),(6,dS 3)]
def Avk (x0:Aa) (x1:Ab) (y4:(List Int)) (z0:(List Ah)):List Res:=[.box 30 (d30 x0),.box 39 (d39 x1),v0_ y4,.dsl 137 3 4,.gh 3 [(3,1),(3,1),(3,1)] (z0.map Bg) none]
def Ze (x0:Aa) (z1:Int×(List Ah)):St:=[(2,dO 0 0),(3,dO 1 0),(4,.d (DS Bg [])),(5,dS 2),(6,dS 3),(47,dI (ln x0.Ac)),(48,dI z1.1)]
def Adb (x0:Aa) (x1:Ab) (y4:(List Int)) (z1:Int×(List Ah)):List Res:=[.box 30 (d30 x0),.box 39 (d39 x1),v0_ y4,.dsl 137 3 4,.gh 3 [(3,1),(3,1),(3,1)] (z1.2.map Bg) none]
def Arr  (z1:Int×(List Ah)):St:=[(2,dO 0 0),(3,dO 1 0),(4,.d (DS Bg [])),(5,dS 2),(6,dS 3)]
def Avj (x0:Aa) (x1:Ab) (y4:(List Int)) (z1:Int×(List Ah)):List Res:=[.box 30 (d30 x0),.box 39 (d39 x1),v0_ y4,.dsl 137 3 4,.gh 3 [(3,1),(3,1),(3,1)] (z1.2.map Bg) none]
def Zd (x0:Aa) (z2:Int×(List Ah)):St:=[(2,dO 0 0),(3,dO 1 0),(4,.d (DS Bg [])),(5,dS 2),(6,dS 3),(80,dI (ln x0.Ae)),(81,dI z2.1)]
def Ada (x0:Aa) (x1:Ab) (y4:(List Int)) (z2:Int×(List Ah)):List Res:=[.box 30 (d30 x0),.box 39 (d39 x1),v0_ y4,.dsl 137 3 4,.gh 3 [(3,1),(3,1),(3,1)] (z2.2.map Bg) none]
def Arq  (z2:Int×(List Ah)):St:=[(4,.d (DS Bg [])),(6,dS 0)]
def Avi  (z2:Int×(List Ah)):List Res:=[.dsl 137 3 1,.gh 3 [(3,1),(3,1),(3,1)] (z2.2.map Bg) none]
theorem k67 (x0:Aa) (x1:Ab) (r:(List Ah)) (h:F67 x0 x1=some r):CO 67 [.agg (d30 x0),.agg (d39 x1)] [] (.d (.os 0)) [v8_ r]:=by
 unfold F67 at h
 refine co 113 Tryz.func67 λ C hC=>?_
 obtain⟨y1,h2,h⟩:=Az h
 refine wn G_ 26 [] [pc e65 (k65 x0 x1 _ h2) []] [] 0 [0,1] [2,3,4,18] hC [] ?_
 rcases cB h with⟨h3,h⟩ | ⟨h3,h⟩
 ·replace h:=sI h
  subst h
  exact wr G_ 24 [true] [] [.own 4 137 3] 0 [2] hC [pq h3]
 ·obtain⟨y4,h5,y6,h7,h⟩:=Bc h
  refine ws G_ 30 [false] [pc e97 (k97 x0 x1 _ h5) [],⟨.roomZ (x0.An*(72+1)) (List.replicate (Int.toNat x0.An) (Bg (⟨([]:List Int),([]:List Int),([]:List Int)⟩:Ah))) (y6.map Bg),Kn h7⟩,pl pI y4] [.deep 3 [(3,1),(3,1),(3,1)]] 0 n5_ (Ad2 y4 0 y6) (App x0 x1 y4 0 y6) hC [pq h3] ?_
  obtain⟨w0,hm0,hret0,hnext0⟩:=As h
  clear h
  refine wc w0 (Ars) (Avk x0 x1 y4) ?_ λ z0 hs0=>?_
  ·refine wb ?_
   refine Cm 25 2 rfl rfl λ hl0=>?_
   refine wl (Ad2 y4) (App x0 x1 y4) hm0 (λ z0 hn0=>?_) λ n0 a0 z0 w0b hi0 hx0 h hb0 hr0=>?_
   ·clear hm0
    exact wx w0 (Ars) (Avk x0 x1 y4) G_ 26 [false] [] [] 0 n5_ _ hC [pq (Bf hl0)] hn0
   ·unfold Ai1 at h
    obtain⟨y8,h9,y10,h11,y12,h13,h⟩:=B3 h
    exact wx w0b (Ad2 y4 (n0+1)) (App x0 x1 y4 (n0+1)) G_ 33 [true] [pr pI (Bp hx0 hl0),pn pI (Bp hx0 hl0),pr Bg h9,pn Bg h9,⟨.appD (z0.map Bg) (Int.toNat a0) (Bg y8) 0 (y8.An.map pI) ([cnt 0 n0].map pI) 1 (((y8.An.map pI).length+([cnt 0 n0].map pI).length)*(8+1)) (y10.map pI),Iq 1 (λ _=>rfl) h9 rfl h11⟩,pr Bg h9,⟨.updD (z0.map Bg) (Int.toNat a0) (Int.toNat a0) (Bg y8) (Bg (⟨y10,y8.Ac,y8.Ae⟩:Ah)) (y12.map Bg),Ij h9 h13⟩] [] 0 [0,1,2,3,8] _ hC [pq (A9 hi0 hl0)] (sI h).symm
  ·have h:=hnext0 _ hs0
   refine ws G_ 24 [] [pl q72 x0.Ac] [] 0 n5_ (Ze x0 (0,z0)) (Adb x0 x1 y4 (0,z0)) hC [] ?_
   obtain⟨w1,hm1,hret1,hnext1⟩:=As h
   clear h
   refine wc w1 (Arr) (Avj x0 x1 y4) ?_ λ z1 hs1=>?_
   ·refine wb ?_
    refine ww (Ze x0) (Adb x0 x1 y4) hm1 λ z1 w1b h hb1 hr1=>?_
    unfold Ai0 at h
    rcases cB h with⟨h14,h⟩ | ⟨h14,h⟩
    ·obtain⟨y15,h16,h⟩:=Az h
     refine wn G_ 34 [true] [pc e98 (k98 x0 x1 z1.1 _ h16) []] [] 0 n5_ [2,3,4,5,6,9,10,47,48,58] hC [pq h14] ?_
     rcases cB h with⟨h17,h⟩ | ⟨h17,h⟩
     ·obtain⟨y18,h19,y20,h21,y22,h23,y24,h25,h⟩:=Cv h
      exact wx w1b (Ze x0) (Adb x0 x1 y4) G_ 25 [true] [pr pI h19,pn pI h19,pr pI h19,pn pI h19,pr Bg h21,pn Bg h21,⟨.appD (z1.2.map Bg) (Int.toNat y18) (Bg y20) 1 (y20.Ac.map pI) ([z1.1].map pI) 1 (((y20.Ac.map pI).length+([z1.1].map pI).length)*(8+1)) (y22.map pI),Iq 1 (λ _=>rfl) h21 rfl h23⟩,pr Bg h21,⟨.updD (z1.2.map Bg) (Int.toNat y18) (Int.toNat y18) (Bg y20) (Bg (⟨y20.An,y22,y20.Ae⟩:Ah)) (y24.map Bg),Ij h21 h25⟩] [] 0 [0,1,2,3,8] _ hC [pq h17] (sI h).symm
     ·exact wx w1b (Ze x0) (Adb x0 x1 y4) G_ 25 [false] [] [] 0 n5_ _ hC [pq h17] (sI h).symm
    ·exact wx w1 (Arr) (Avj x0 x1 y4) G_ 26 [false] [] [] 0 n5_ (z1.1,z1.2) hC [pq h14] (hb1 _ (sI h).symm)
   ·have h:=hnext1 _ hs1
    refine ws G_ 24 [] [pl q81 x0.Ae] [] 0 n5_ (Zd x0 (0,z1.2)) (Ada x0 x1 y4 (0,z1.2)) hC [] ?_
    obtain⟨w2,hm2,hret2,hnext2⟩:=As h
    clear h
    refine wc w2 (Arq) (Avi) ?_ λ z2 hs2=>?_
    ·refine wb ?_
     refine ww (Zd x0) (Ada x0 x1 y4) hm2 λ z2 w2b h hb2 hr2=>?_
     unfold Aiz at h
     rcases cB h with⟨h26,h⟩ | ⟨h26,h⟩
     ·obtain⟨y27,h28,h⟩:=Az h
      refine wn G_ 34 [true] [pc e99 (k99 x0 x1 z2.1 _ h28) []] [] 0 n5_ [2,3,4,5,6,12,13,80,81,91] hC [pq h26] ?_
      rcases cB h with⟨h29,h⟩ | ⟨h29,h⟩
      ·obtain⟨y30,h31,y32,h33,y34,h35,y36,h37,h⟩:=Cv h
       exact wx w2b (Zd x0) (Ada x0 x1 y4) G_ 25 [true] [pr pI h31,pn pI h31,pr pI h31,pn pI h31,pr Bg h33,pn Bg h33,⟨.appD (z2.2.map Bg) (Int.toNat y30) (Bg y32) 2 (y32.Ae.map pI) ([z2.1].map pI) 1 (((y32.Ae.map pI).length+([z2.1].map pI).length)*(8+1)) (y34.map pI),Iq 1 (λ _=>rfl) h33 rfl h35⟩,pr Bg h33,⟨.updD (z2.2.map Bg) (Int.toNat y30) (Int.toNat y30) (Bg y32) (Bg (⟨y32.An,y32.Ac,y34⟩:Ah)) (y36.map Bg),Ij h33 h37⟩] [] 0 [0,1,2,3,8] _ hC [pq h29] (sI h).symm
      ·exact wx w2b (Zd x0) (Ada x0 x1 y4) G_ 25 [false] [] [] 0 n5_ _ hC [pq h29] (sI h).symm
     ·exact wx w2 (Arq) (Avi) G_ 26 [false] [] [] 0 [3,4] (z2.1,z2.2) hC [pq h26] (hb2 _ (sI h).symm)
    ·have h:=hnext2 _ hs2
     refine wn G_ 1 [] [] [.flat 0] 0 [0] [4,6] hC [] ?_
     obtain⟨y38,h39,h⟩:=Az h
     replace h:=sI h
     subst h
     exact wr G_ 22 [] [pc At8 (Ate z2.2 _ h39) [0]] [] 0 [1] hC []
theorem e67:EN 67:=en Tryz.func67
theorem A3c (x0:List Int) (x1c0:Aa) (r:(List Int)×Aa) (h:Ud x0 x1c0=some r):CO 190 [.d (.os 0),.d (.fn (.func 191) [] [.o 1 0])] [v0_ x0,.box 30 (d30 x1c0)] (.tup []) [v0_ r.1,.box 30 (d30 r.2)]:=by
 unfold Ud at h
 refine co 9 Tryz.func190 λ C hC=>?_
 obtain⟨y1,h2,h⟩:=Az h
 replace h:=sI h
 subst h
 exact wf [0,1] 21 [] [pl pI x0,pc A4n (A28 x0 (ln x0) x1c0 _ h2) [0,1]] [] 2 [0,1] hC []
theorem A4r:EN 190:=en Tryz.func190
def Hp:List Nat:=[0,1,2,3,4,6,7,8,9,10,11,12,13,14,28,37,38,39,54,64,65,66,81]
def Vg (x0:Aa) (z0:Int×(List Int)):St:=[(3,dO 0 0),(4,dO 1 0),(6,dO 2 0),(7,dB false),(8,dO 7 0),(37,dI (ln x0.Ac)),(38,dI z0.1)]
def qG (x0:Aa) (x1:Ab) (y4:(List Int)) (z0:Int×(List Int)):List Res:=[.box 30 (d30 x0),.box 39 (d39 x1),.box 137 [.os 3,.os 4,.os 5],v0_ ([]:List Int),v0_ ([]:List Int),v0_ ([]:List Int),v0_ y4,.box 137 [.os 6,.os 8,.os 9],v0_ z0.2,v0_ ([]:List Int)]
def Alt  (z0:Int×(List Int)):St:=[(3,dO 0 0),(4,dO 1 0),(6,dO 2 0),(7,dB false),(8,dO 7 0)]
def Ana (x0:Aa) (x1:Ab) (y4:(List Int)) (z0:Int×(List Int)):List Res:=[.box 30 (d30 x0),.box 39 (d39 x1),.box 137 [.os 3,.os 4,.os 5],v0_ ([]:List Int),v0_ ([]:List Int),v0_ ([]:List Int),v0_ y4,.box 137 [.os 6,.os 8,.os 9],v0_ z0.2,v0_ ([]:List Int)]
def Vf (x0:Aa) (z1:Int×(List Int)):St:=[(3,dO 0 0),(4,dO 1 0),(6,dO 2 0),(7,dB false),(8,dO 7 0),(64,dI (ln x0.Ae)),(65,dI z1.1)]
def qF (x0:Aa) (x1:Ab) (y4:(List Int)) (z0:Int×(List Int)) (z1:Int×(List Int)):List Res:=[.box 30 (d30 x0),.box 39 (d39 x1),.box 137 [.os 3,.os 4,.os 5],v0_ ([]:List Int),v0_ ([]:List Int),v0_ ([]:List Int),v0_ y4,.box 137 [.os 6,.os 8,.os 9],v0_ z0.2,v0_ z1.2]
def Als  (z1:Int×(List Int)):St:=[(6,dO 0 0),(7,dB false),(8,dO 5 0)]
def Am9 (y4:(List Int)) (z0:Int×(List Int)) (z1:Int×(List Int)):List Res:=[.box 137 [.os 1,.os 2,.os 3],v0_ ([]:List Int),v0_ ([]:List Int),v0_ ([]:List Int),v0_ y4,.box 137 [.os 4,.os 6,.os 7],v0_ z0.2,v0_ z1.2]
theorem A8w (x0:Aa) (x1:Ab) (x2:Int) (r:Ah×Bool) (h:Aj5 x0 x1 x2=some r):CO 112 [.agg (d30 x0),.agg (d39 x1),.d (I x2)] [] (.tup [.agg [.os 0,.os 1,.os 2],.d (Bo r.2)]) [v0_ r.1.An,v0_ r.1.Ac,v0_ r.1.Ae]:=by
 unfold Aj5 at h
 refine co 90 Tryz.func112 λ C hC=>?_
 obtain⟨y1,h2,h⟩:=Az h
 refine wn Hp 26 [] [pc e62 (k62 x0 x1 _ h2) []] [.ownb 2 0 3 1,.ownb 2 1 3 1,.ownb 2 2 3 1] 0 n6_ [2,3,4,6,7,28] hC [] ?_
 rcases cB h with⟨h3,h⟩ | ⟨h3,h⟩
 ·replace h:=sI h
  subst h
  exact wr Hp 24 [true] [] [.ownb 2 0 3 1,.ownb 2 1 3 1,.ownb 2 2 3 1] 0 [6,7,8] hC [pq h3]
 ·obtain⟨y4,h5,h⟩:=Az h
  refine ws Hp 28 [false] [pc A9k (A8j x0 x1 x2 _ h5) [],pl q72 x0.Ac] [.ownb 7 1 3 1,.ownb 7 2 3 1] 0 Gx (Vg x0 (0,([]:List Int))) (qG x0 x1 y4 (0,([]:List Int))) hC [pq h3] ?_
  obtain⟨w0,hm0,hret0,hnext0⟩:=As h
  clear h
  refine wc w0 (Alt) (Ana x0 x1 y4) ?_ λ z0 hs0=>?_
  ·refine wb ?_
   refine ww (Vg x0) (qG x0 x1 y4) hm0 λ z0 w0b h hb0 hr0=>?_
   unfold zV at h
   rcases cB h with⟨h6,h⟩ | ⟨h6,h⟩
   ·obtain⟨y7,h8,y9,h10,h⟩:=Bc h
    refine wn Hp 34 [true] [pc A9j (A8i x0 x1 z0.1 _ h8) [],pv A5a (λ hg=>A3v y4 y7.1 _ (Ba h10 hg))] [] 0 Gx [3,4,6,7,8,9,37,38,54] hC [pq h6] ?_
    rcases cB h with⟨h11,h⟩ | ⟨h11,h⟩
    ·obtain⟨y12,h13,h⟩:=Az h
     exact wx w0b (Vg x0) (qG x0 x1 y4) Hp 25 [true] [pa pI 1 h13] [] 0 [0,1,2,3,4,5,6,7,10,9] _ hC [pq h11] (sI h).symm
    ·exact wx w0b (Vg x0) (qG x0 x1 y4) Hp 25 [false] [] [] 0 Gx _ hC [pq h11] (sI h).symm
   ·exact wx w0 (Alt) (Ana x0 x1 y4) Hp 26 [false] [] [] 0 Gx (z0.1,z0.2) hC [pq h6] (hb0 _ (sI h).symm)
  ·have h:=hnext0 _ hs0
   refine ws Hp 24 [] [pl q81 x0.Ae] [] 0 Gx (Vf x0 (0,([]:List Int))) (qF x0 x1 y4 z0 (0,([]:List Int))) hC [] ?_
   obtain⟨w1,hm1,hret1,hnext1⟩:=As h
   clear h
   refine wc w1 (Als) (Am9 y4 z0) ?_ λ z1 hs1=>?_
   ·refine wb ?_
    refine ww (Vf x0) (qF x0 x1 y4 z0) hm1 λ z1 w1b h hb1 hr1=>?_
    unfold zU at h
    rcases cB h with⟨h14,h⟩ | ⟨h14,h⟩
    ·obtain⟨y15,h16,y17,h18,h⟩:=Bc h
     refine wn Hp 34 [true] [pc A9i (A8h x0 x1 z1.1 _ h16) [],pv A5a (λ hg=>A3v y4 y15.1 _ (Ba h18 hg))] [] 0 Gx [3,4,6,7,8,12,64,65,81] hC [pq h14] ?_
     rcases cB h with⟨h19,h⟩ | ⟨h19,h⟩
     ·obtain⟨y20,h21,h⟩:=Az h
      exact wx w1b (Vf x0) (qF x0 x1 y4 z0) Hp 25 [true] [pa pI 1 h21] [] 0 [0,1,2,3,4,5,6,7,8,10] _ hC [pq h19] (sI h).symm
     ·exact wx w1b (Vf x0) (qF x0 x1 y4 z0) Hp 25 [false] [] [] 0 Gx _ hC [pq h19] (sI h).symm
    ·exact wx w1 (Als) (Am9 y4 z0) Hp 26 [false] [] [] 0 [2,3,4,5,6,7,8,9] (z1.1,z1.2) hC [pq h14] (hb1 _ (sI h).symm)
   ·have h:=hnext1 _ hs1
    replace h:=sI h
    subst h
    exact wr Hp 23 [] [] [] 0 [4,6,7] hC []
theorem A9x:EN 112:=en Tryz.func112
def An5:List Nat:=[0,1,2,3,4,6,7,11]
theorem A73 (x0:Aa) (x1:Ab) (x2:Int) (r:Int×Bool) (h:Aql x0 x1 x2=some r):CO 209 [.agg (d30 x0),.agg (d39 x1),.d (I x2)] [] (.tup [.d (I r.1),.d (Bo r.2)]) []:=by
 unfold Aql at h
 refine co 18 Tryz.func209 λ C hC=>?_
 obtain⟨y1,h2,h⟩:=Az h
 refine wn An5 26 [] [pc e65 (k65 x0 x1 _ h2) []] [] 0 [0,1] [2,3,4,6,7,11] hC [] ?_
 rcases cB h with⟨h3,h⟩ | ⟨h3,h⟩
 ·replace h:=sI h
  subst h
  exact wr An5 24 [true] [] [] 0 [] hC [pq h3]
 ·obtain⟨y4,h5,h⟩:=Az h
  replace h:=sI h
  subst h
  exact wr An5 25 [false] [pc e99 (k99 x0 x1 x2 _ h5) []] [] 0 [] hC [pq h3]
theorem A84:EN 209:=en Tryz.func209
def Vp:List Nat:=[0,1,2,3,4,6,7,8,9,13,18,29]
theorem A8l (x0:Aa) (x1:Ab) (x2:Int) (r:Ab×Int) (h:Ajz x0 x1 x2=some r):CO 137 [.agg (d30 x0),.agg (d39 x1),.d (I x2)] [] (.tup [.agg [.os 0,.os 1,.os 2,.os 3],.d (I r.2)]) (zp r.1 []):=by
 unfold Ajz at h
 refine co 49 Tryz.func137 λ C hC=>?_
 obtain⟨y1,h2,h⟩:=Az h
 refine wn Vp 29 [] [pc e65 (k65 x0 x1 _ h2) []] [.ownb 2 0 4 1,.ownb 2 1 93 4,.ownb 2 2 3 1,.ownb 2 3 96 2] 0 n7_ [2,3,4,6,7,8,13] hC [] ?_
 rcases cB h with⟨h3,h⟩ | ⟨h3,h⟩
 ·replace h:=sI h
  subst h
  exact wr Vp 24 [true] [] [.ownb 2 0 4 1,.ownb 2 1 93 4,.ownb 2 2 3 1,.ownb 2 3 96 2] 0 [7,8,9,10] hC [pq h3]
 ·rcases cB h with⟨h4,h⟩ | ⟨h4,h⟩
  ·replace h:=sI h
   subst h
   exact wr Vp 27 [false,true] [pL_ [(decide (x2<0),false)] q70 x0.Ad] [.ownb 2 0 4 1,.ownb 2 1 93 4,.ownb 2 2 3 1,.ownb 2 3 96 2] 0 [7,8,9,10] hC [pq h3,pq h4]
  ·obtain⟨y5,h6,y7,h8,h⟩:=Bc h
   refine wn Vp 27 [false,false] [pL_ [(decide (x2<0),false)] q70 x0.Ad,pr pB h6,pw K4 (λ hg=>K2 x1 2 x2 _ (Ba h8 hg)) []] [] 0 [1,2,3,4,5,6] [2,4,6,7,29] hC [pq h3,pq h4] ?_
   rcases cB h with⟨h9,h⟩ | ⟨h9,h⟩
   ·replace h:=sI h
    subst h
    exact wr Vp 24 [true] [] [.ownb 1 0 4 1,.ownb 1 1 93 4,.ownb 1 2 3 1,.ownb 1 3 96 2] 0 [6,7,8,9] hC [pq h9]
   ·obtain⟨y10,h11,y12,h13,y14,h15,h⟩:=B3 h
    replace h:=sI h
    subst h
    exact wr Vp 30 [false] [pc e66 (k66 x1 _ h11) [],pr pB h13,pu pB h13 h15] [] 0 [6,7,8,9] hC [pq h9]
theorem A9m:EN 137:=en Tryz.func137
def An6:List Nat:=[0,1,2,3,4,6,7,11]
theorem A3k (x0:Aa) (x1:Ab) (x2:Int) (r:Int×Bool) (h:zG x0 x1 x2=some r):CO 171 [.agg (d30 x0),.agg (d39 x1),.d (I x2)] [] (.tup [.d (I r.1),.d (Bo r.2)]) []:=by
 unfold zG at h
 refine co 18 Tryz.func171 λ C hC=>?_
 obtain⟨y1,h2,h⟩:=Az h
 refine wn An6 26 [] [pc e65 (k65 x0 x1 _ h2) []] [] 0 [0,1] [2,3,4,6,7,11] hC [] ?_
 rcases cB h with⟨h3,h⟩ | ⟨h3,h⟩
 ·replace h:=sI h
  subst h
  exact wr An6 24 [true] [] [] 0 [] hC [pq h3]
 ·obtain⟨y4,h5,h⟩:=Az h
  replace h:=sI h
  subst h
  exact wr An6 25 [false] [pc e98 (k98 x0 x1 x2 _ h5) []] [] 0 [] hC [pq h3]
theorem A4z:EN 171:=en Tryz.func171
def Qa:List Nat:=[0,1,2,3,4,5,6,7,8,9,14,20,21,22,23,29]
def Va (x1:Ab) (n0:Nat) (z0:(List Af)):St:=[(4,dO 0 0),(5,dI 0),(7,dO 9 0),(20,.d (DS q93 x1.Ac)),(21,dI (ln x1.Ac)),(22,dI (cnt 0 n0))]
def qB (y4:Ab) (n0:Nat) (z0:(List Af)):List Res:=(.box 39 [.os 1,.os 2,.os 3,.os 4]::ze [v2_ y4.Ag,v4_ z0,v0_ y4.Ap,v3_ y4.Am,.box 39 [.os 5,.os 6,.os 7,.os 8]])
def Ak9  (z0:(List Af)):St:=[(4,dO 0 0),(5,dI 0),(7,dO 9 0)]
def Amq (y4:Ab) (z0:(List Af)):List Res:=(.box 39 [.os 1,.os 2,.os 3,.os 4]::ze [v2_ y4.Ag,v4_ z0,v0_ y4.Ap,v3_ y4.Am,.box 39 [.os 5,.os 6,.os 7,.os 8]])
theorem A8b (x0:Aa) (x1:Ab) (r:Ab×Int) (h:Yz x0 x1=some r):CO 176 [.agg (d30 x0),.agg (d39 x1)] [] (.tup [.agg [.os 0,.os 1,.os 2,.os 3],.d (I r.2)]) (zp r.1 []):=by
 unfold Yz at h
 refine co 45 Tryz.func176 λ C hC=>?_
 obtain⟨y1,h2,h⟩:=Az h
 refine wn Qa 28 [] [pc e65 (k65 x0 x1 _ h2) []] [.ownb 2 0 4 1,.ownb 2 1 93 4,.ownb 2 2 3 1,.ownb 2 3 96 2] 0 [1,2,3,4,5,6] [3,4,5,6,14] hC [] ?_
 rcases cB h with⟨h3,h⟩ | ⟨h3,h⟩
 ·replace h:=sI h
  subst h
  exact wr Qa 24 [true] [] [.ownb 1 0 4 1,.ownb 1 1 93 4,.ownb 1 2 3 1,.ownb 1 3 96 2] 0 [6,7,8,9] hC [pq h3]
 ·obtain⟨y4,h5,h⟩:=Az h
  refine ws Qa 28 [false] [pc e66 (k66 x1 _ h5) [],pl q93 x1.Ac] [] 0 [1,2,3,4,5,6,7,8,9,10] (Va x1 0 y4.Ac) (qB y4 0 y4.Ac) hC [pq h3] ?_
  obtain⟨w0,hm0,hret0,hnext0⟩:=As h
  clear h
  refine wc w0 (Ak9) (Amq y4) ?_ λ z0 hs0=>?_
  ·refine wb ?_
   refine Bt 20 rfl λ hl0=>?_
   refine wl (Va x1) (qB y4) hm0 (λ z0 hn0=>?_) λ n0 a0 z0 w0b hi0 hx0 h hb0 hr0=>?_
   ·clear hm0
    exact wx w0 (Ak9) (Amq y4) Qa 26 [false] [] [] 0 Gx _ hC [pq (Bf hl0)] hn0
   ·unfold Wi at h
    rcases cB h with⟨h6,h⟩ | ⟨h6,h⟩
    ·obtain⟨y7,h8,y9,h10,h⟩:=Bc h
     exact wx w0b (Va x1 (n0+1)) (qB y4 (n0+1)) Qa 36 [true,true] [pt hx0 hl0,pc Aos (Aoc (w64 (a0.Phase+(w64 (36*(w64 (a0.Aq-5000)))))) _ rfl) [],pr q93 h8,pu q93 h8 h10] [] 0 Gx _ hC [pq (A9 hi0 hl0),pq h6] (sI h).symm
    ·exact wx w0b (Va x1 (n0+1)) (qB y4 (n0+1)) Qa 36 [true,false] [pt hx0 hl0] [] 0 Gx _ hC [pq (A9 hi0 hl0),pq h6] (sI h).symm
  ·have h:=hnext0 _ hs0
   replace h:=sI h
   subst h
   exact wr Qa 23 [] [] [] 0 [5,6,7,8] hC []
theorem A9c:EN 176:=en Tryz.func176
def Zz:List Nat:=[0,1,2,3,4,7,10,11,12]
def uQ (x0:Aa) (z0:Int×(List Int)):St:=[(1,dO 0 0),(2,.d (DS pI [])),(3,dS 1),(10,dI (ln x0.Ae)),(11,dI z0.1)]
def Aid (x0:Aa) (z0:Int×(List Int)):List Res:=[.box 30 (d30 x0),v0_ z0.2]
def Alc  (z0:Int×(List Int)):St:=[(1,dO 0 0),(2,.d (DS pI [])),(3,dS 1)]
def Amt (x0:Aa) (z0:Int×(List Int)):List Res:=[.box 30 (d30 x0),v0_ z0.2]
theorem A8g (x0:Aa) (r:(List Int)) (h:Y0 x0=some r):CO 159 [.agg (d30 x0)] [] (.d (.os 0)) [v0_ r]:=by
 unfold Y0 at h
 refine co 23 Tryz.func159 λ C hC=>?_
 obtain⟨y1,h2,h⟩:=Az h
 rcases cB h with⟨h3,h⟩ | ⟨h3,h⟩
 ·replace h:=sI h
  subst h
  exact wr Zz 29 [true] [pc e86 (k86 x0 _ h2) []] [.own 2 3 1] 0 [1] hC [pq h3]
 ·refine ws Zz 33 [false] [pc e86 (k86 x0 _ h2) [],pl q81 x0.Ae] [.own 3 3 1] 0 [0,1] (uQ x0 (0,([]:List Int))) (Aid x0 (0,([]:List Int))) hC [pq h3] ?_
  obtain⟨w0,hm0,hret0,hnext0⟩:=As h
  clear h
  refine wc w0 (Alc) (Amt x0) ?_ λ z0 hs0=>?_
  ·refine wb ?_
   refine ww (uQ x0) (Aid x0) hm0 λ z0 w0b h hb0 hr0=>?_
   unfold zI at h
   rcases cB h with⟨h4,h⟩ | ⟨h4,h⟩
   ·obtain⟨y5,h6,h⟩:=Az h
    exact wx w0b (uQ x0) (Aid x0) Zz 33 [true] [pa pI 1 h6] [] 0 [0,2] _ hC [pq h4] (sI h).symm
   ·exact wx w0 (Alc) (Amt x0) Zz 26 [false] [] [] 0 [0,1] (z0.1,z0.2) hC [pq h4] (hb0 _ (sI h).symm)
  ·have h:=hnext0 _ hs0
   obtain⟨y7,h8,h⟩:=Az h
   replace h:=sI h
   subst h
   exact wr Zz 25 [] [pc A4r (A3c z0.2 x0 _ h8) [1,0]] [] 0 [1] hC []
theorem A9h:EN 159:=en Tryz.func159
def D7:List Nat:=[0,1,2,3,4,5,6,7,8,9,10,11,12,13,14,18,25,26,27,28,47,48,49,58,80,81,82,91]
def Xh (y4:(List Int)) (n0:Nat) (z0:(List Ah)):St:=[(2,dO 4 0),(3,dO 5 0),(4,.d (DS Bg [])),(5,dS 6),(6,dS 7),(25,dS 6),(26,dI (ln y4)),(27,dI (cnt 0 n0))]
def yZ (x0:Aa) (x1:Ab) (y4:(List Int)) (n0:Nat) (z0:(List Ah)):List Res:=(zp x1 [.box 30 (d30 x0),.box 39 [.os 0,.os 1,.os 2,.os 3],v0_ y4,.dsl 137 3 8,.gh 3 [(3,1),(3,1),(3,1)] (z0.map Bg) none])
def Ae7  (z0:(List Ah)):St:=[(2,dO 4 0),(3,dO 5 0),(4,.d (DS Bg [])),(5,dS 6),(6,dS 7)]
def Ahz (x0:Aa) (x1:Ab) (y4:(List Int)) (z0:(List Ah)):List Res:=(zp x1 [.box 30 (d30 x0),.box 39 [.os 0,.os 1,.os 2,.os 3],v0_ y4,.dsl 137 3 8,.gh 3 [(3,1),(3,1),(3,1)] (z0.map Bg) none])
def Py (x0:Aa) (z1:Int×(List Ah)):St:=[(2,dO 4 0),(3,dO 5 0),(4,.d (DS Bg [])),(5,dS 6),(6,dS 7),(47,dI (ln x0.Ac)),(48,dI z1.1)]
def Wc (x0:Aa) (x1:Ab) (y4:(List Int)) (z1:Int×(List Ah)):List Res:=(zp x1 [.box 30 (d30 x0),.box 39 [.os 0,.os 1,.os 2,.os 3],v0_ y4,.dsl 137 3 8,.gh 3 [(3,1),(3,1),(3,1)] (z1.2.map Bg) none])
def Ae6  (z1:Int×(List Ah)):St:=[(2,dO 4 0),(3,dO 5 0),(4,.d (DS Bg [])),(5,dS 6),(6,dS 7)]
def Ahy (x0:Aa) (x1:Ab) (y4:(List Int)) (z1:Int×(List Ah)):List Res:=(zp x1 [.box 30 (d30 x0),.box 39 [.os 0,.os 1,.os 2,.os 3],v0_ y4,.dsl 137 3 8,.gh 3 [(3,1),(3,1),(3,1)] (z1.2.map Bg) none])
def Px (x0:Aa) (z2:Int×(List Ah)):St:=[(2,dO 4 0),(3,dO 5 0),(4,.d (DS Bg [])),(5,dS 6),(6,dS 7),(80,dI (ln x0.Ae)),(81,dI z2.1)]
def Wb (x0:Aa) (x1:Ab) (y4:(List Int)) (z2:Int×(List Ah)):List Res:=(zp x1 [.box 30 (d30 x0),.box 39 [.os 0,.os 1,.os 2,.os 3],v0_ y4,.dsl 137 3 8,.gh 3 [(3,1),(3,1),(3,1)] (z2.2.map Bg) none])
def Ae5  (z2:Int×(List Ah)):St:=[(4,.d (DS Bg [])),(6,dS 4)]
def Ahx (x1:Ab) (z2:Int×(List Ah)):List Res:=(zp x1 [.dsl 137 3 5,.gh 3 [(3,1),(3,1),(3,1)] (z2.2.map Bg) none])
theorem Azo (x0:Aa) (x1:Ab) (r:(List Ah)) (h:Adi x0 x1=some r):CO 67 [.agg (d30 x0),.agg [.os 0,.os 1,.os 2,.os 3]] (zp x1 []) (.d (.os 4)) (zp x1 [v8_ r]):=by
 unfold Adi at h
 refine co 113 Tryz.func67 λ C hC=>?_
 obtain⟨y1,h2,h⟩:=Az h
 refine wn D7 26 [] [pb e65 (k65 x0 x1 _ h2)] [] 4 n6_ [2,3,4,18] hC [] ?_
 rcases cB h with⟨h3,h⟩ | ⟨h3,h⟩
 ·replace h:=sI h
  subst h
  exact wr D7 24 [true] [] [.own 4 137 3] 4 [0,1,2,3,6] hC [pq h3]
 ·obtain⟨y4,h5,y6,h7,h⟩:=Bc h
  refine ws D7 30 [false] [⟨.call 97 [.agg (d30 x0),.agg [.os 0,.os 1,.os 2,.os 3]] (zp x1 []) (dS 4) (zp x1 [v0_ y4]) n4_,⟨e97,((k97 x0 x1 _ h5).lend (by kernel_rfl) (by kernel_rfl) (by kernel_rfl) ⟨Be (λ _=>rfl),trivial⟩ (by kernel_rfl) (by kernel_rfl))⟩⟩,⟨.roomZ (x0.An*(72+1)) (List.replicate (Int.toNat x0.An) (Bg (⟨([]:List Int),([]:List Int),([]:List Int)⟩:Ah))) (y6.map Bg),Kn h7⟩,pl pI y4] [.deep 7 [(3,1),(3,1),(3,1)]] 4 n9_ (Xh y4 0 y6) (yZ x0 x1 y4 0 y6) hC [pq h3] ?_
  obtain⟨w0,hm0,hret0,hnext0⟩:=As h
  clear h
  refine wc w0 (Ae7) (Ahz x0 x1 y4) ?_ λ z0 hs0=>?_
  ·refine wb ?_
   refine Cm 25 6 rfl rfl λ hl0=>?_
   refine wl (Xh y4) (yZ x0 x1 y4) hm0 (λ z0 hn0=>?_) λ n0 a0 z0 w0b hi0 hx0 h hb0 hr0=>?_
   ·clear hm0
    exact wx w0 (Ae7) (Ahz x0 x1 y4) D7 26 [false] [] [] 4 n9_ _ hC [pq (Bf hl0)] hn0
   ·unfold Aiy at h
    obtain⟨y8,h9,y10,h11,y12,h13,h⟩:=B3 h
    exact wx w0b (Xh y4 (n0+1)) (yZ x0 x1 y4 (n0+1)) D7 33 [true] [pr pI (Bp hx0 hl0),pn pI (Bp hx0 hl0),pr Bg h9,pn Bg h9,⟨.appD (z0.map Bg) (Int.toNat a0) (Bg y8) 0 (y8.An.map pI) ([cnt 0 n0].map pI) 1 (((y8.An.map pI).length+([cnt 0 n0].map pI).length)*(8+1)) (y10.map pI),Iq 1 (λ _=>rfl) h9 rfl h11⟩,pr Bg h9,⟨.updD (z0.map Bg) (Int.toNat a0) (Int.toNat a0) (Bg y8) (Bg (⟨y10,y8.Ac,y8.Ae⟩:Ah)) (y12.map Bg),Ij h9 h13⟩] [] 4 [0,1,2,3,4,5,6,7,12] _ hC [pq (A9 hi0 hl0)] (sI h).symm
  ·have h:=hnext0 _ hs0
   refine ws D7 24 [] [pl q72 x0.Ac] [] 4 n9_ (Py x0 (0,z0)) (Wc x0 x1 y4 (0,z0)) hC [] ?_
   obtain⟨w1,hm1,hret1,hnext1⟩:=As h
   clear h
   refine wc w1 (Ae6) (Ahy x0 x1 y4) ?_ λ z1 hs1=>?_
   ·refine wb ?_
    refine ww (Py x0) (Wc x0 x1 y4) hm1 λ z1 w1b h hb1 hr1=>?_
    unfold Aix at h
    rcases cB h with⟨h14,h⟩ | ⟨h14,h⟩
    ·obtain⟨y15,h16,h⟩:=Az h
     refine wn D7 34 [true] [pb e98 (k98 x0 x1 z1.1 _ h16)] [] 4 n9_ [2,3,4,5,6,9,10,47,48,58] hC [pq h14] ?_
     rcases cB h with⟨h17,h⟩ | ⟨h17,h⟩
     ·obtain⟨y18,h19,y20,h21,y22,h23,y24,h25,h⟩:=Cv h
      exact wx w1b (Py x0) (Wc x0 x1 y4) D7 25 [true] [pr pI h19,pn pI h19,pr pI h19,pn pI h19,pr Bg h21,pn Bg h21,⟨.appD (z1.2.map Bg) (Int.toNat y18) (Bg y20) 1 (y20.Ac.map pI) ([z1.1].map pI) 1 (((y20.Ac.map pI).length+([z1.1].map pI).length)*(8+1)) (y22.map pI),Iq 1 (λ _=>rfl) h21 rfl h23⟩,pr Bg h21,⟨.updD (z1.2.map Bg) (Int.toNat y18) (Int.toNat y18) (Bg y20) (Bg (⟨y20.An,y22,y20.Ae⟩:Ah)) (y24.map Bg),Ij h21 h25⟩] [] 4 [0,1,2,3,4,5,6,7,12] _ hC [pq h17] (sI h).symm
     ·exact wx w1b (Py x0) (Wc x0 x1 y4) D7 25 [false] [] [] 4 n9_ _ hC [pq h17] (sI h).symm
    ·exact wx w1 (Ae6) (Ahy x0 x1 y4) D7 26 [false] [] [] 4 n9_ (z1.1,z1.2) hC [pq h14] (hb1 _ (sI h).symm)
   ·have h:=hnext1 _ hs1
    refine ws D7 24 [] [pl q81 x0.Ae] [] 4 n9_ (Px x0 (0,z1.2)) (Wb x0 x1 y4 (0,z1.2)) hC [] ?_
    obtain⟨w2,hm2,hret2,hnext2⟩:=As h
    clear h
    refine wc w2 (Ae5) (Ahx x1) ?_ λ z2 hs2=>?_
    ·refine wb ?_
     refine ww (Px x0) (Wb x0 x1 y4) hm2 λ z2 w2b h hb2 hr2=>?_
     unfold Aiw at h
     rcases cB h with⟨h26,h⟩ | ⟨h26,h⟩
     ·obtain⟨y27,h28,h⟩:=Az h
      refine wn D7 34 [true] [pb e99 (k99 x0 x1 z2.1 _ h28)] [] 4 n9_ [2,3,4,5,6,12,13,80,81,91] hC [pq h26] ?_
      rcases cB h with⟨h29,h⟩ | ⟨h29,h⟩
      ·obtain⟨y30,h31,y32,h33,y34,h35,y36,h37,h⟩:=Cv h
       exact wx w2b (Px x0) (Wb x0 x1 y4) D7 25 [true] [pr pI h31,pn pI h31,pr pI h31,pn pI h31,pr Bg h33,pn Bg h33,⟨.appD (z2.2.map Bg) (Int.toNat y30) (Bg y32) 2 (y32.Ae.map pI) ([z2.1].map pI) 1 (((y32.Ae.map pI).length+([z2.1].map pI).length)*(8+1)) (y34.map pI),Iq 1 (λ _=>rfl) h33 rfl h35⟩,pr Bg h33,⟨.updD (z2.2.map Bg) (Int.toNat y30) (Int.toNat y30) (Bg y32) (Bg (⟨y32.An,y32.Ac,y34⟩:Ah)) (y36.map Bg),Ij h33 h37⟩] [] 4 [0,1,2,3,4,5,6,7,12] _ hC [pq h29] (sI h).symm
      ·exact wx w2b (Px x0) (Wb x0 x1 y4) D7 25 [false] [] [] 4 n9_ _ hC [pq h29] (sI h).symm
     ·exact wx w2 (Ae5) (Ahx x1) D7 26 [false] [] [] 4 [0,1,2,3,7,8] (z2.1,z2.2) hC [pq h26] (hb2 _ (sI h).symm)
    ·have h:=hnext2 _ hs2
     refine wn D7 1 [] [] [.flat 4] 4 n5_ [4,6] hC [] ?_
     obtain⟨y38,h39,h⟩:=Az h
     replace h:=sI h
     subst h
     exact wr D7 22 [] [pc At8 (Ate z2.2 _ h39) [4]] [] 4 [0,1,2,3,5] hC []
theorem Azt:EN 67:=en Tryz.func67
def Mn:List Nat:=[0,1,2,3,4,5,6,7,12,16,31]
def Zb  (z0:Int×(List Ah)):St:=[(2,dO 0 0),(3,dO 1 0),(4,.d (DS Bg [])),(5,dS 2),(6,dI z0.1)]
def Ac8 (x0:Aa) (x1:Ab) (z0:Int×(List Ah)):List Res:=[.box 30 (d30 x0),.box 39 (d39 x1),v8_ z0.2]
def Ark  (z0:Int×(List Ah)):St:=[(4,.d (DS Bg [])),(5,dS 0)]
def Avc  (z0:Int×(List Ah)):List Res:=[v8_ z0.2]
theorem k85 (x0:Aa) (x1:Ab) (r:(List Ah)) (h:F85 x0 x1=some r):CO 85 [.agg (d30 x0),.agg (d39 x1)] [] (.d (.os 0)) [v8_ r]:=by
 unfold F85 at h
 refine co 37 Tryz.func85 λ C hC=>?_
 obtain⟨y1,h2,h⟩:=Az h
 refine wn Mn 26 [] [pc e62 (k62 x0 x1 _ h2) []] [] 0 [0,1] [2,3,4,12] hC [] ?_
 rcases cB h with⟨h3,h⟩ | ⟨h3,h⟩
 ·replace h:=sI h
  subst h
  exact wr Mn 24 [true] [] [.own 4 137 3] 0 [2] hC [pq h3]
 ·refine ws Mn 28 [false] [] [.own 5 137 3] 0 n3_ (Zb (0,([]:List Ah))) (Ac8 x0 x1 (0,([]:List Ah))) hC [pq h3] ?_
  obtain⟨w0,hm0,hret0,hnext0⟩:=As h
  clear h
  refine wc w0 (Ark) (Avc) ?_ λ z0 hs0=>?_
  ·refine wb ?_
   refine ww (Zb) (Ac8 x0 x1) hm0 λ z0 w0b h hb0 hr0=>?_
   unfold Aiu at h
   rcases cB h with⟨h4,h⟩ | ⟨h4,h⟩
   ·obtain⟨y5,h6,y7,h8,h⟩:=Bc h
    refine wn Mn 32 [true] [pc A9x (A8w x0 x1 z0.1 _ h6) [],pr pI h8,pn pI h8] [] 0 n7_ [2,3,4,5,6,7,31] hC [pq h4] ?_
    rcases cB h with⟨h9,h⟩ | ⟨h9,h⟩
    ·refine wn Mn 1 [true] [] [.frz 3] 0 [0,1,2,4,5,6] [2,3,4,5,6,7] hC [pq h9] ?_
     refine wn Mn 0 [] [] [.frz 3] 0 [0,1,2,4,5] [2,3,4,5,6,7] hC [] ?_
     refine wn Mn 0 [] [] [.frz 3] 0 [0,1,2,4] [2,3,4,5,6,7] hC [] ?_
     obtain⟨y10,h11,h⟩:=Az h
     exact wx w0b (Zb) (Ac8 x0 x1) Mn 24 [] [pa Bg 3 h11] [] 0 [0,1,4] _ hC [] (sI h).symm
    ·exact wx w0b (Zb) (Ac8 x0 x1) Mn 25 [false] [] [] 0 n3_ _ hC [pq h9] (sI h).symm
   ·exact wx w0 (Ark) (Avc) Mn 26 [false] [] [] 0 [2] (z0.1,z0.2) hC [pq h4] (hb0 _ (sI h).symm)
  ·have h:=hnext0 _ hs0
   replace h:=sI h
   subst h
   exact wr Mn 23 [] [] [] 0 [0] hC []
theorem e85:EN 85:=en Tryz.func85
def S3:List Nat:=[0,1,2,3,4,5,6,7,9,14,21,22,23,24,30]
def Zg (y6:(List Ah)) (n0:Nat) (z0:(List Af)):St:=[(3,dO 0 0),(4,dO 1 0),(5,dI 0),(7,dO 10 0),(21,dS 11),(22,dI (ln y6)),(23,dI (cnt 0 n0))]
def Add (x1:Ab) (y4:Ab) (y6:(List Ah)) (n0:Nat) (z0:(List Af)):List Res:=(.box 39 (d39 x1) :: .box 39 [.os 2,.os 3,.os 4,.os 5]::ze [v2_ y4.Ag,v4_ z0,v0_ y4.Ap,v3_ y4.Am,.box 39 [.os 6,.os 7,.os 8,.os 9],v8_ y6])
def Asb  (z0:(List Af)):St:=[(4,dO 0 0),(5,dI 0),(7,dO 9 0)]
def Av3 (y4:Ab) (z0:(List Af)):List Res:=(.box 39 [.os 1,.os 2,.os 3,.os 4]::ze [v2_ y4.Ag,v4_ z0,v0_ y4.Ap,v3_ y4.Am,.box 39 [.os 5,.os 6,.os 7,.os 8]])
theorem k47 (x0:Aa) (x1:Ab) (r:Ab×Int) (h:F47 x0 x1=some r):CO 47 [.agg (d30 x0),.agg (d39 x1)] [] (.tup [.agg [.os 0,.os 1,.os 2,.os 3],.d (I r.2)]) (zp r.1 []):=by
 unfold F47 at h
 refine co 45 Tryz.func47 λ C hC=>?_
 obtain⟨y1,h2,h⟩:=Az h
 refine wn S3 28 [] [pc e65 (k65 x0 x1 _ h2) []] [.ownb 2 0 4 1,.ownb 2 1 93 4,.ownb 2 2 3 1,.ownb 2 3 96 2] 0 n7_ [2,3,4,5,6,14] hC [] ?_
 rcases cB h with⟨h3,h⟩ | ⟨h3,h⟩
 ·replace h:=sI h
  subst h
  exact wr S3 24 [true] [] [.ownb 2 0 4 1,.ownb 2 1 93 4,.ownb 2 2 3 1,.ownb 2 3 96 2] 0 [7,8,9,10] hC [pq h3]
 ·obtain⟨y4,h5,y6,h7,h⟩:=Bc h
  refine ws S3 28 [false] [pc e66 (k66 x1 _ h5) [],pc e67 (k67 x0 x1 _ h7) [],pl Bg y6] [] 0 [1,2,3,4,5,6,7,8,9,10,11,12] (Zg y6 0 y4.Ac) (Add x1 y4 y6 0 y4.Ac) hC [pq h3] ?_
  obtain⟨w0,hm0,hret0,hnext0⟩:=As h
  clear h
  refine wc w0 (Asb) (Av3 y4) ?_ λ z0 hs0=>?_
  ·refine wb ?_
   refine Cm 21 11 rfl rfl λ hl0=>?_
   refine wl (Zg y6) (Add x1 y4 y6) hm0 (λ z0 hn0=>?_) λ n0 a0 z0 w0b hi0 hx0 h hb0 hr0=>?_
   ·clear hm0
    exact wx w0 (Asb) (Av3 y4) S3 26 [false] [] [] 0 [1,2,3,4,5,6,7,8,9,10] _ hC [pq (Bf hl0)] hn0
   ·unfold Aji at h
    refine wn S3 32 [true] [pr Bg (Bp hx0 hl0),pn Bg (Bp hx0 hl0),pl pI a0.Ac] [] 0 H7 [3,4,5,7,9,21,22,23,30] hC [pq (A9 hi0 hl0)] ?_
    rcases cB h with⟨h8,h⟩ | ⟨h8,h⟩
    ·obtain⟨y9,h10,y11,h12,y13,h14,h⟩:=B3 h
     exact wx w0b (Zg y6 (n0+1)) (Add x1 y4 y6 (n0+1)) S3 25 [true] [pr pI h10,pr q93 h12,pc Aor (Aob (⟨y4.Ag,z0,y4.Ap,y4.Am⟩:Ab) a0.Ac y11 _ h14) [6,7,8,9]] [] 0 Fo _ hC [pq h8] (sI h).symm
    ·exact wx w0b (Zg y6 (n0+1)) (Add x1 y4 y6 (n0+1)) S3 25 [false] [] [] 0 Fo _ hC [pq h8] (sI h).symm
  ·have h:=hnext0 _ hs0
   replace h:=sI h
   subst h
   exact wr S3 23 [] [] [] 0 [5,6,7,8] hC []
theorem e47:EN 47:=en Tryz.func47
def Zw:List Nat:=[0,1,2,3,4,6,7,9,30,32,33,40]
theorem A77 (x0:Aa) (x1:Ab) (x2:Int) (r:Bool) (h:Ajq x0 x1 x2=some r):CO 199 [.agg (d30 x0),.agg (d39 x1),.d (I x2)] [] (.d (Bo r)) []:=by
 unfold Ajq at h
 refine co 74 Tryz.func199 λ C hC=>?_
 obtain⟨y1,h2,y3,h4,y5,h6,y7,h8,h⟩:=Cv h
 refine wn Zw 28 [] [pr q70 h2,pr pB h4,pw K4 (λ hg=>K2 x1 2 x2 _ (Ba h6 hg)) [],pw K4 (λ hg=>K2 x1 3 y1.A _ (Ba h8 hg)) []] [] 0 n3_ [3,4,6,7,30] hC [] ?_
 rcases cB h with⟨h9,h⟩ | ⟨h9,h⟩
 ·replace h:=sI h
  subst h
  exact wr Zw 24 [true] [] [] 0 [] hC [pq h9]
 ·rcases cB h with⟨h10,h⟩ | ⟨h10,h⟩
  ·obtain⟨y11,h12,h⟩:=Az h
   replace h:=sI h
   subst h
   exact wr Zw 32 [false,true] [pc K4 (K2 x1 3 y1.B _ h12) []] [] 0 [] hC [pq h9,pq h10]
  ·rcases cB h with⟨h13,h⟩ | ⟨h13,h⟩
   ·obtain⟨y14,h15,y16,h17,h⟩:=Bc h
    replace h:=sI h
    subst h
    exact wr Zw 35 [false,false,true] [pc K4 (K2 x1 1 y1.B _ h15) [],pR q93 h17] [] 0 [] hC [pq h9,pq h10,pq h13]
   ·obtain⟨y18,h19,y20,h21,h⟩:=Bc h
    replace h:=sI h
    subst h
    exact wr Zw 39 [false,false,false] [pc A84 (A73 x0 x1 y1.B _ h19) [],pc K4 (K2 x1 4 y1.B _ h21) []] [] 0 [] hC [pq h9,pq h10,pq h13]
theorem A88:EN 199:=en Tryz.func199
def Vq:List Nat:=[0,1,2,3,4,6,7,9,12,13,14,15,21]
def uW (x2:Int) (y1:(List Ah)) (n0:Nat) (z0:Unit):St:=[(2,dI x2),(6,dO 0 0),(7,dB false),(12,dS 1),(13,dI (ln y1)),(14,dI (cnt 0 n0))]
def Aik (y1:(List Ah)) (n0:Nat) (z0:Unit):List Res:=[.box 137 [.os 2,.os 3,.os 4],v8_ y1,v0_ ([]:List Int),v0_ ([]:List Int),v0_ ([]:List Int)]
def Alk  (z0:Unit):St:=[(6,dO 0 0),(7,dB false)]
def Am1  (z0:Unit):List Res:=[.box 137 [.os 1,.os 2,.os 3],v0_ ([]:List Int),v0_ ([]:List Int),v0_ ([]:List Int)]
theorem S5 (x0:Aa) (x1:Ab) (x2:Int) (r:Ah×Bool) (h:Gg x0 x1 x2=some r):CO 127 [.agg (d30 x0),.agg (d39 x1),.d (I x2)] [] (.tup [.agg (H9 r.1),.d (Bo r.2)]) []:=by
 unfold Gg at h
 refine co 25 Tryz.func127 λ C hC=>?_
 obtain⟨y1,h2,h⟩:=Az h
 refine ws Vq 26 [] [pc e67 (k67 x0 x1 _ h2) [],pl Bg y1] [.ownb 2 0 3 1,.ownb 2 1 3 1,.ownb 2 2 3 1] 0 [2,3,4,5,6] (uW x2 y1 0 ()) (Aik y1 0 ()) hC [] ?_
 obtain⟨w0,hm0,hret0,hnext0⟩:=As h
 clear h
 refine wc w0 (Alk) (Am1) ?_ λ z0 hs0=>?_
 ·refine wb ?_
  refine Cm 12 1 rfl rfl λ hl0=>?_
  refine wl (uW x2 y1) (Aik y1) hm0 (λ z0 hn0=>?_) λ n0 a0 z0 w0b hi0 hx0 h hb0 hr0=>?_
  ·clear hm0
   exact wx w0 (Alk) (Am1) Vq 26 [false] [] [] 0 [0,2,3,4] _ hC [pq (Bf hl0)] hn0
  ·unfold L5 at h
   obtain⟨y3,h4,h⟩:=Az h
   refine wn Vq 32 [true] [pr Bg (Bp hx0 hl0),pn Bg (Bp hx0 hl0),pc X7 (X1 a0.An x2 _ h4) []] [] 0 n6_ [2,6,7,9,12,13,14,21] hC [pq (A9 hi0 hl0)] ?_
   rcases cB h with⟨h5,h⟩ | ⟨h5,h⟩
   ·have hq:=hret0 _ (hr0 _ (sI h).symm)
    replace hq:=sI hq
    subst hq
    exact wr Vq 24 [true] [] [] 0 [] hC [pq h5]
   ·exact wx w0b (uW x2 y1 (n0+1)) (Aik y1 (n0+1)) Vq 25 [false] [] [] 0 n5_ _ hC [pq h5] (sI h).symm
 ·have h:=hnext0 _ hs0
  replace h:=sI h
  subst h
  exact wr Vq 23 [] [] [.ownb 0 0 3 1,.frz 4,.ownb 0 1 3 1,.frz 5,.ownb 0 2 3 1,.frz 6] 0 [] hC []
theorem Tp:EN 127:=en Tryz.func127
def Lx:List Nat:=[0,2,3,24,25,26,66]
def Nj (y1:Ab×Int) (z0:Int×(List Af)):St:=[(0,dO 0 0),(24,dI (ln y1.1.Ac)),(25,dI z0.1)]
def Q4 (x0:A1) (y1:Ab×Int) (z0:Int×(List Af)):List Res:=(.box 175 (zb x0.Al [.os 5,.os 6,.os 7,.os 8,I x0.time])::zp x0.Au [v2_ y1.1.Ag,v4_ z0.2,v0_ y1.1.Ap,v3_ y1.1.Am])
def Aa5  (z0:Int×(List Af)):St:=[]
def Aca (x0:A1) (y1:Ab×Int) (z0:Int×(List Af)):List Res:=(.box 175 (zb x0.Al [.os 5,.os 6,.os 7,.os 8,I x0.time])::zp x0.Au [v2_ y1.1.Ag,v4_ z0.2,v0_ y1.1.Ap,v3_ y1.1.Am])
theorem A3x (x0:A1) (r:A1) (h:Kw x0=some r):CO 142 [.d (.o 0 0)] (.box 175 (zb x0.Al [.os 1,.os 2,.os 3,.os 4,I x0.time])::zp x0.Au []) (.tup []) (.box 175 (zb r.Al [.os 5,.os 6,.os 7,.os 8,I r.time]) :: .non :: .non :: .non :: .non::zp r.Au []):=by
 unfold Kw at h
 refine co 71 Tryz.func142 λ C hC=>?_
 obtain⟨y1,h2,h⟩:=Az h
 refine ws Lx 25 [] [⟨.call 176 [.agg (d30 x0.Al),.agg [.os 0,.os 1,.os 2,.os 3]] (zp x0.Au []) (.tup [.agg [.os 4,.os 5,.os 6,.os 7],dI y1.2]) (zp x0.Au (zp y1.1 [])) [1,2,3,4],⟨A9c,((A8b x0.Al x0.Au _ h2).lend (by kernel_rfl) (by kernel_rfl) (by kernel_rfl) ⟨Be (λ _=>rfl),Be (λ _=>rfl),Be (λ _=>rfl),Be (λ _=>rfl),trivial⟩ (by kernel_rfl) (by kernel_rfl))⟩⟩,pl q93 y1.1.Ac] [] 5 n9_ (Nj y1 (0,y1.1.Ac)) (Q4 x0 y1 (0,y1.1.Ac)) hC [] ?_
 obtain⟨w0,hm0,hret0,hnext0⟩:=As h
 clear h
 refine wc w0 (Aa5) (Aca x0 y1) ?_ λ z0 hs0=>?_
 ·refine wb ?_
  refine ww (Nj y1) (Q4 x0 y1) hm0 λ z0 w0b h hb0 hr0=>?_
  unfold N9 at h
  rcases cB h with⟨h3,h⟩ | ⟨h3,h⟩
  ·obtain⟨y4,h5,y6,h7,y8,h9,h⟩:=B3 h
   refine wn Lx 34 [true] [pr q93 h5,pn q93 h5,pv Ag2 (λ hg=>Af9 (⟨x0.Al,(⟨y1.1.Ag,z0.2,y1.1.Ap,y1.1.Am⟩:Ab),x0.time⟩:A1) z0.1 _ (Ba h7 hg)),⟨.when [(((y4.State==1)&&y6),true)] (.row (z0.2.map q93) (((Int.toNat z0.1):Nat):Int) (q93 y4)),λ hg=>Jt h5⟩,pR q72 h9] [] 5 n9_ [0,3,24,25,66] hC [pq h3] ?_
   rcases cB h with⟨h10,h⟩ | ⟨h10,h⟩
   ·obtain⟨y11,h12,h⟩:=Az h
    exact wx w0b (Nj y1) (Q4 x0 y1) Lx 25 [true] [pu q93 h5 h12] [] 5 n9_ _ hC [pq h10] (sI h).symm
   ·exact wx w0b (Nj y1) (Q4 x0 y1) Lx 25 [false] [] [] 5 n9_ _ hC [pq h10] (sI h).symm
  ·exact wx w0 (Aa5) (Aca x0 y1) Lx 26 [false] [] [] 5 n9_ (z0.1,z0.2) hC [pq h3] (hb0 _ (sI h).symm)
 ·have h:=hnext0 _ hs0
  replace h:=sI h
  subst h
  exact wf Lx 20 [] [] [.frz 1,.frz 2,.frz 3,.frz 4] 5 n9_ hC []
theorem A5c:EN 142:=en Tryz.func142
def Xw:List Nat:=[0,1,2,3,4,5,7,9,14,15,16,17,21,22,23,24]
def Ad5 (y3:(List Ah)) (n0:Nat) (z0:(List Af)):St:=[(3,dO 0 0),(4,dO 1 0),(5,dO 6 0),(14,dS 7),(15,dI (ln y3)),(16,dI (cnt 0 n0))]
def Aps (x1:Ab) (y1:Ab) (y3:(List Ah)) (n0:Nat) (z0:(List Af)):List Res:=(.box 39 (d39 x1) :: .box 39 [.os 8,.os 9,.os 10,.os 11]::v2_ y1.Ag::v4_ z0::v0_ y1.Ap::v3_ y1.Am :: .box 39 [.os 2,.os 3,.os 4,.os 5]::v8_ y3::ze [])
def Arv  (z0:(List Af)):St:=[(4,dO 0 0),(5,dO 5 0)]
def Avn (y1:Ab) (z0:(List Af)):List Res:=(.box 39 [.os 6,.os 7,.os 8,.os 9]::v2_ y1.Ag::v4_ z0::v0_ y1.Ap::v3_ y1.Am :: .box 39 [.os 1,.os 2,.os 3,.os 4]::ze [])
def Ad4 (y3:(List Ah)) (n0:Nat) (a0:Ah) (n1:Nat) (z1:(List Af)):St:=[(3,dO 0 0),(4,dO 1 0),(5,dO 6 0),(7,dO 12 0),(14,dS 7),(15,dI (ln y3)),(16,dI (cnt 0 n0)),(21,.d (DS pI a0.Ac)),(22,dI (ln a0.Ac)),(23,dI (cnt 0 n1))]
def Apr (x1:Ab) (y1:Ab) (y3:(List Ah)) (a0:Ah) (n1:Nat) (z1:(List Af)):List Res:=(.box 39 (d39 x1) :: .box 39 [.os 8,.os 9,.os 10,.os 11]::v2_ y1.Ag::v4_ z1::v0_ y1.Ap::v3_ y1.Am :: .box 39 [.os 2,.os 3,.os 4,.os 5]::v8_ y3::ze [.box 137 (H9 a0)])
def Aru (y3:(List Ah)) (n0:Nat) (z1:(List Af)):St:=[(3,dO 0 0),(4,dO 1 0),(5,dO 6 0),(14,dS 7),(15,dI (ln y3)),(16,dI (cnt 0 n0))]
def Avm (x1:Ab) (y1:Ab) (y3:(List Ah)) (z1:(List Af)):List Res:=(.box 39 (d39 x1) :: .box 39 [.os 8,.os 9,.os 10,.os 11]::v2_ y1.Ag::v4_ z1::v0_ y1.Ap::v3_ y1.Am :: .box 39 [.os 2,.os 3,.os 4,.os 5]::v8_ y3::ze [])
theorem k63 (x0:Aa) (x1:Ab) (r:Ab) (h:F63 x0 x1=some r):CO 63 [.agg (d30 x0),.agg (d39 x1)] [] (.agg [.os 0,.os 1,.os 2,.os 3]) (zp r []):=by
 unfold F63 at h
 refine co 58 Tryz.func63 λ C hC=>?_
 obtain⟨y1,h2,y3,h4,h⟩:=Bc h
 refine ws Xw 28 [] [pc e37 (k37 x1 _ h2) [],pc e85 (k85 x0 x1 _ h4) [],pl Bg y3] [.ownb 2 0 4 1,.ownb 2 1 93 4,.ownb 2 2 3 1,.ownb 2 3 96 2] 0 [1,2,3,4,5,6,7,8,9,10,11,12] (Ad5 y3 0 y1.Ac) (Aps x1 y1 y3 0 y1.Ac) hC [] ?_
 obtain⟨w0,hm0,hret0,hnext0⟩:=As h
 clear h
 refine wc w0 (Arv) (Avn y1) ?_ λ z0 hs0=>?_
 ·refine wb ?_
  refine Cm 14 7 rfl rfl λ hl0=>?_
  refine wl (Ad5 y3) (Aps x1 y1 y3) hm0 (λ z0 hn0=>?_) λ n0 a0 z0 w0b hi0 hx0 h hb0 hr0=>?_
  ·clear hm0
   exact wx w0 (Arv) (Avn y1) Xw 26 [false] [] [] 0 [1,2,3,4,5,6,8,9,10,11] _ hC [pq (Bf hl0)] hn0
  ·unfold Ai4 at h
   refine ws Xw 32 [true] [pr Bg (Bp hx0 hl0),pn Bg (Bp hx0 hl0),pl pI a0.Ac] [] 0 H7 (Ad4 y3 n0 a0 0 z0) (Apr x1 y1 y3 a0 0 z0) hC [pq (A9 hi0 hl0)] ?_
   obtain⟨w1,hm1,hret1,hnext1⟩:=As h
   clear h
   refine wc w1 (Aru y3 n0) (Avm x1 y1 y3) ?_ λ z1 hs1=>?_
   ·refine wb ?_
    refine Bt 21 rfl λ hl1=>?_
    refine wl (Ad4 y3 n0 a0) (Apr x1 y1 y3 a0) hm1 (λ z1 hn1=>?_) λ n1 a1 z1 w1b hi1 hx1 h hb1 hr1=>?_
    ·clear hm1
     exact wx w1 (Aru y3 n0) (Avm x1 y1 y3) Xw 26 [false] [] [] 0 Fo _ hC [pq (Bf hl1)] hn1
    ·unfold Ai3 at h
     obtain⟨y5,h6,y7,h8,y9,h10,y11,h12,h⟩:=Cv h
     obtain⟨y13,h14,y15,h16,y17,h18,y19,h20,h⟩:=Cv h
     exact wx w1b (Ad4 y3 n0 a0 (n1+1)) (Apr x1 y1 y3 a0 (n1+1)) Xw 33 [true] [pt hx1 hl1,pr pI h6,pr q93 h8,pr pI h10,pr q93 h12,pr q93 h14,pu q93 h14 h16,pr q93 h18,pu q93 h18 h20] [] 0 H7 _ hC [pq (A9 hi1 hl1)] (sI h).symm
   ·have h:=hnext1 _ hs1
    exact wx w0b (Ad5 y3 (n0+1)) (Aps x1 y1 y3 (n0+1)) Xw 23 [] [] [] 0 Fo _ hC [] (sI h).symm
 ·have h:=hnext0 _ hs0
  replace h:=sI h
  subst h
  exact wr Xw 23 [] [] [] 0 [1,2,3,4] hC []
theorem e63:EN 63:=en Tryz.func63
end Go.Proofs.YtpdbkiafikdgpaaGreatDoor
