import Derived.Test.YtcigbocngfaopaaGreatM1
set_option linter.unusedVariables false
set_option maxHeartbeats 4000000
namespace Go.Proofs.YtcigbocngfaopaaGreat
open Go.SL
def Apb:List Nat:=[0,1,2,3,4,5,6,11]
theorem A8y (x0:Aa) (x1:Ab) (r:Ab×Int) (h:Aa8 x0 x1=some r):CO 119 [.agg (d29 x0),.agg (d34 x1)] [] (.tup [.agg [.os 0,.os 1,.os 2,.os 3],.d (I r.2)]) (zp r.1 []):=by
 unfold Aa8 at h
 refine co 17 Tryz.func119 λ C hC=>?_
 obtain⟨y1,h2,h⟩:=Aw h
 refine wn Apb 28 [] [pc e11 (k11 x0 x1 _ h2) []] [.ownb 2 0 4 1,.ownb 2 1 87 4,.ownb 2 2 3 1,.ownb 2 3 92 2] 0 n7_ [2,3,4,5,6,11] hC [] ?_
 rcases cB h with⟨h3,h⟩ | ⟨h3,h⟩
 ·replace h:=sI h
  subst h
  exact wr Apb 24 [true] [] [.ownb 2 0 4 1,.ownb 2 1 87 4,.ownb 2 2 3 1,.ownb 2 3 92 2] 0 [7,8,9,10] hC [pq h3]
 ·obtain⟨y4,h5,h⟩:=Aw h
  replace h:=sI h
  subst h
  exact wr Apb 25 [false] [pc A9f (A8q x0 x1 _ h5) []] [] 0 [7,8,9,10] hC [pq h3]
theorem A9n:EN 119:=en Tryz.func119
theorem k58 (x0:Aa) (x1:Ab) (x2:Int) (r:Bool) (h:F58 x0 x1 x2=some r):CO 58 [.agg (d29 x0),.agg (d34 x1),.d (I x2)] [] (.d (Bo r)) []:=by
 unfold F58 at h
 refine co 20 Tryz.func58 λ C hC=>?_
 obtain⟨y1,h2,h⟩:=Aw h
 replace h:=sI h
 subst h
 exact wr [0,1,2,3,4,6,7] 27 [] [pc Aae (zT x0 x1 x2 _ h2) [],pl pI y1.1.Ac] [] 0 [] hC []
theorem e58:EN 58:=en Tryz.func58
def Ahr:List Nat:=[0,1,2,3,4,6,7,9,11,20,21,22,23,29]
def jI (y1:Aj×Bool) (n0:Nat) (z0:Int):St:=[(4,dO 0 0),(6,dI 0),(7,dO 1 0),(9,dI z0),(20,.d (DS pI y1.1.Af)),(21,dI (ln y1.1.Af)),(22,dI (cnt 0 n0))]
def Aep (x1:Ab) (y1:Aj×Bool) (n0:Nat) (z0:Int):List Res:=[.box 34 (d34 x1),.box 62 (d62 y1.1)]
def Ass  (z0:Int):St:=[(6,dI 0),(9,dI z0)]
def Awn  (z0:Int):List Res:=[]
theorem k87 (x0:Aa) (x1:Ab) (x2:Int) (r:Int) (h:F87 x0 x1 x2=some r):CO 87 [.agg (d29 x0),.agg (d34 x1),.d (I x2)] [] (.d (I r)) []:=by
 unfold F87 at h
 refine co 39 Tryz.func87 λ C hC=>?_
 obtain⟨y1,h2,h⟩:=Aw h
 refine ws Ahr 30 [] [pc Aae (zT x0 x1 x2 _ h2) [],pl pI y1.1.Af] [] 0 [1,2] (jI y1 0 0) (Aep x1 y1 0 0) hC [] ?_
 obtain⟨w0,hm0,hret0,hnext0⟩:=Av h
 clear h
 refine wc w0 (Ass) (Awn) ?_ λ z0 hs0=>?_
 ·refine wb ?_
  refine Bq 20 rfl λ hl0=>?_
  refine wl (jI y1) (Aep x1 y1) hm0 (λ z0 hn0=>?_) λ n0 a0 z0 w0b hi0 hx0 h hb0 hr0=>?_
  ·clear hm0
   exact wx w0 (Ass) (Awn) Ahr 26 [false] [] [] 0 [] _ hC [pq (A6 hl0)] hn0
  ·unfold vJ at h
   rcases cB h with⟨h3,h⟩ | ⟨h3,h⟩
   ·obtain⟨y4,h5,h⟩:=Aw h
    exact wx w0b (jI y1 (n0+1)) (Aep x1 y1 (n0+1)) Ahr 36 [true,true] [pt hx0 hl0,pl pI y1.1.Ac,pr pI h5] [] 0 [0,1] _ hC [pq (A4 hi0 hl0),pq h3] (sI h).symm
   ·exact wx w0b (jI y1 (n0+1)) (Aep x1 y1 (n0+1)) Ahr 36 [true,false] [pt hx0 hl0,pl pI y1.1.Ac] [] 0 [0,1] _ hC [pq (A4 hi0 hl0),pq h3] (sI h).symm
 ·have h:=hnext0 _ hs0
  replace h:=sI h
  subst h
  exact wr Ahr 23 [] [] [] 0 [] hC []
theorem e87:EN 87:=en Tryz.func87
def Ao5:List Nat:=[0,1,2,3,4,6,7,9,11,20,21,22,23]
def Afo (y1:Aj×Bool) (n0:Nat) (z0:Int):St:=[(3,dO 0 0),(6,dI 0),(9,dI z0),(20,.d (DS pI y1.1.Ac)),(21,dI (ln y1.1.Ac)),(22,dI (cnt 0 n0))]
def Aql (x0:Aa) (n0:Nat) (z0:Int):List Res:=[.box 29 (d29 x0)]
def Asr  (z0:Int):St:=[(6,dI 0),(9,dI z0)]
def Awm  (z0:Int):List Res:=[]
theorem k88 (x0:Aa) (x1:Ab) (x2:Int) (r:Int) (h:F88 x0 x1 x2=some r):CO 88 [.agg (d29 x0),.agg (d34 x1),.d (I x2)] [] (.d (I r)) []:=by
 unfold F88 at h
 refine co 36 Tryz.func88 λ C hC=>?_
 obtain⟨y1,h2,h⟩:=Aw h
 refine ws Ao5 30 [] [pc Aae (zT x0 x1 x2 _ h2) [],pl pI y1.1.Ac] [] 0 [0] (Afo y1 0 0) (Aql x0 0 0) hC [] ?_
 obtain⟨w0,hm0,hret0,hnext0⟩:=Av h
 clear h
 refine wc w0 (Asr) (Awm) ?_ λ z0 hs0=>?_
 ·refine wb ?_
  refine Bq 20 rfl λ hl0=>?_
  refine wl (Afo y1) (Aql x0) hm0 (λ z0 hn0=>?_) λ n0 a0 z0 w0b hi0 hx0 h hb0 hr0=>?_
  ·clear hm0
   exact wx w0 (Asr) (Awm) Ao5 26 [false] [] [] 0 [] _ hC [pq (A6 hl0)] hn0
  ·unfold Akl at h
   obtain⟨y3,h4,h⟩:=Aw h
   exact wx w0b (Afo y1 (n0+1)) (Aql x0 (n0+1)) Ao5 33 [true] [pt hx0 hl0,pr q98 h4] [] 0 [0] _ hC [pq (A4 hi0 hl0)] (sI h).symm
 ·have h:=hnext0 _ hs0
  replace h:=sI h
  subst h
  exact wr Ao5 23 [] [] [] 0 [] hC []
theorem e88:EN 88:=en Tryz.func88
def Apa:List Nat:=[0,1,2,3,4,6,7,8,20]
theorem Azc (x0:Aa) (x1:Ab) (x2:Int) (r:Int×Bool) (h:Mn x0 x1 x2=some r):CO 143 [.agg (d29 x0),.agg (d34 x1),.d (I x2)] [] (.tup [.d (I r.1),.d (Bo r.2)]) []:=by
 unfold Mn at h
 refine co 25 Tryz.func143 λ C hC=>?_
 obtain⟨y1,h2,h⟩:=Aw h
 refine wn Apa 28 [] [pc Aae (zT x0 x1 x2 _ h2) [],pl pI y1.1.Ac] [] 0 [2] [6,7,8,20] hC [] ?_
 rcases cB h with⟨h3,h⟩ | ⟨h3,h⟩
 ·replace h:=sI h
  subst h
  exact wr Apa 24 [true] [] [] 0 [] hC [pq h3]
 ·obtain⟨y4,h5,h⟩:=Aw h
  replace h:=sI h
  subst h
  exact wr Apa 25 [false] [pr pI h5] [] 0 [] hC [pq h3]
theorem Azx:EN 143:=en Tryz.func143
def K4:List Nat:=[0,1,2,3,4,5,6,7,8,9,10,11,12,17,24,25,26,38,50,51,52,53,74]
def jN (x0:Aa) (z0:Int×(List Bool)×(List Ak)):St:=[(2,dO 0 0),(3,dO 1 0),(4,dO 2 0),(5,.d (DS q47 [])),(6,dI 0),(8,dO 11 0),(9,dS 12),(24,dI (ln x0.Ad)),(25,dI z0.1)]
def Aeu (x0:Aa) (x1:Ab) (y4:Ab) (z0:Int×(List Bool)×(List Ak)):List Res:=(.box 29 (d29 x0) :: .box 34 (d34 x1) :: .box 34 [.os 3,.os 4,.os 5,.os 6]::ze [v1_ z0.2.1,v4_ y4.Ac,v0_ y4.Am,v3_ y4.Ai,.box 34 [.os 7,.os 8,.os 9,.os 10],v2_ z0.2.2])
def As7  (z0:Int×(List Bool)×(List Ak)):St:=[(2,dO 0 0),(4,dO 1 0),(5,.d (DS q47 [])),(6,dI 0),(8,dO 10 0),(9,dS 11)]
def Aw2 (x0:Aa) (y4:Ab) (z0:Int×(List Bool)×(List Ak)):List Res:=(.box 29 (d29 x0) :: .box 34 [.os 2,.os 3,.os 4,.os 5]::ze [v1_ z0.2.1,v4_ y4.Ac,v0_ y4.Am,v3_ y4.Ai,.box 34 [.os 6,.os 7,.os 8,.os 9],v2_ z0.2.2])
def jM (x0:Aa) (n1:Nat) (z1:(List Bool)×(List Ak)):St:=[(2,dO 0 0),(4,dO 1 0),(5,.d (DS q47 [])),(6,dI 0),(8,dO 10 0),(9,dS 11),(50,.d (DS q49 x0.Ad)),(51,dI (ln x0.Ad)),(52,dI (cnt 0 n1))]
def Aet (x0:Aa) (y4:Ab) (n1:Nat) (z1:(List Bool)×(List Ak)):List Res:=(.box 29 (d29 x0) :: .box 34 [.os 2,.os 3,.os 4,.os 5]::ze [v1_ z1.1,v4_ y4.Ac,v0_ y4.Am,v3_ y4.Ai,.box 34 [.os 6,.os 7,.os 8,.os 9],v2_ z1.2])
def As6  (z1:(List Bool)×(List Ak)):St:=[(2,dO 0 0),(4,dO 1 0),(5,.d (DS q47 [])),(6,dI 0),(8,dO 10 0),(9,dS 11)]
def Aw1 (x0:Aa) (y4:Ab) (z1:(List Bool)×(List Ak)):List Res:=(.box 29 (d29 x0) :: .box 34 [.os 2,.os 3,.os 4,.os 5]::ze [v1_ z1.1,v4_ y4.Ac,v0_ y4.Am,v3_ y4.Ai,.box 34 [.os 6,.os 7,.os 8,.os 9],v2_ z1.2])
theorem k66 (x0:Aa) (x1:Ab) (r:Ab×(List Ak)×Int) (h:F66 x0 x1=some r):CO 66 [.agg (d29 x0),.agg (d34 x1)] [] (.tup [.agg [.os 0,.os 1,.os 2,.os 3],.d (.os 4),.d (I r.2.2)]) (zp r.1 [v2_ r.2.1]):=by
 unfold F66 at h
 refine co 93 Tryz.func66 λ C hC=>?_
 obtain⟨y1,h2,h⟩:=Aw h
 refine wn K4 28 [] [pc e11 (k11 x0 x1 _ h2) []] [.ownb 2 0 4 1,.ownb 2 1 87 4,.ownb 2 2 3 1,.ownb 2 3 92 2] 0 n7_ [2,3,4,5,6,7,17] hC [] ?_
 rcases cB h with⟨h3,h⟩ | ⟨h3,h⟩
 ·replace h:=sI h
  subst h
  exact wr K4 24 [true] [] [.ownb 2 0 4 1,.ownb 2 1 87 4,.ownb 2 2 3 1,.ownb 2 3 92 2,.own 5 47 3] 0 [7,8,9,10,11] hC [pq h3]
 ·obtain⟨y4,h5,h⟩:=Aw h
  refine ws K4 30 [false] [pc Az1 (Azg x1 _ h5) [],pl q49 x0.Ad] [.own 9 47 3] 0 Df (jN x0 (0,y4.Ae,([]:List Ak))) (Aeu x0 x1 y4 (0,y4.Ae,([]:List Ak))) hC [pq h3] ?_
  obtain⟨w0,hm0,hret0,hnext0⟩:=Av h
  clear h
  refine wc w0 (As7) (Aw2 x0 y4) ?_ λ z0 hs0=>?_
  ·refine wb ?_
   refine ww (jN x0) (Aeu x0 x1 y4) hm0 λ z0 w0b h hb0 hr0=>?_
   unfold Akw at h
   rcases cB h with⟨h6,h⟩ | ⟨h6,h⟩
   ·obtain⟨y7,h8,y9,h10,h⟩:=A9 h
    refine wn K4 32 [true] [pr pB h8,pn pB h8,pw A9o (λ hg=>A8z x0 x1 z0.1 _ (A1 h10 hg)) []] [] 0 Df [2,3,4,5,6,8,9,10,24,25,38] hC [pq h6] ?_
    rcases cB h with⟨h11,h⟩ | ⟨h11,h⟩
    ·obtain⟨y12,h13,y14,h15,h⟩:=A9 h
     exact wx w0b (jN x0) (Aeu x0 x1 y4) K4 27 [true] [pr pB h8,pu pB h8 h13,pa q47 3 h15] [] 0 [0,1,2,3,4,5,6,7,8,9,10,11,13] _ hC [pq h11] (sI h).symm
    ·exact wx w0b (jN x0) (Aeu x0 x1 y4) K4 25 [false] [] [] 0 Df _ hC [pq h11] (sI h).symm
   ·exact wx w0 (As7) (Aw2 x0 y4) K4 26 [false] [] [] 0 [0,2,3,4,5,6,7,8,9,10,11,12] (z0.1,z0.2.1,z0.2.2) hC [pq h6] (hb0 _ (sI h).symm)
  ·have h:=hnext0 _ hs0
   refine ws K4 24 [] [pl q49 x0.Ad] [] 0 E3 (jM x0 0 (z0.2.1,z0.2.2)) (Aet x0 y4 0 (z0.2.1,z0.2.2)) hC [] ?_
   obtain⟨w1,hm1,hret1,hnext1⟩:=Av h
   clear h
   refine wc w1 (As6) (Aw1 x0 y4) ?_ λ z1 hs1=>?_
   ·refine wb ?_
    refine Bq 50 rfl λ hl1=>?_
    refine wl (jM x0) (Aet x0 y4) hm1 (λ z1 hn1=>?_) λ n1 a1 z1 w1b hi1 hx1 h hb1 hr1=>?_
    ·clear hm1
     exact wx w1 (As6) (Aw1 x0 y4) K4 26 [false] [] [] 0 E3 _ hC [pq (A6 hl1)] hn1
    ·unfold Akv at h
     obtain⟨y16,h17,y18,h19,h⟩:=A9 h
     refine wn K4 32 [true] [pt hx1 hl1,pR pB h17,pN pB h17,pv e14 (λ hg=>k14 x0 (⟨z1.1,y4.Ac,y4.Am,y4.Ai⟩:Ab) a1.A _ (A1 h19 hg))] [] 0 E3 [2,4,5,6,8,9,11,50,51,52,74] hC [pq (A4 hi1 hl1)] ?_
     rcases cB h with⟨h20,h⟩ | ⟨h20,h⟩
     ·obtain⟨y21,h22,y23,h24,y25,h26,h⟩:=By h
      exact wx w1b (jM x0 (n1+1)) (Aet x0 y4 (n1+1)) K4 27 [true] [pr pB h22,pu pB h22 h24,pa q47 3 h26] [] 0 [0,1,2,3,4,5,6,7,8,9,10,12] _ hC [pq h20] (sI h).symm
     ·exact wx w1b (jM x0 (n1+1)) (Aet x0 y4 (n1+1)) K4 25 [false] [] [] 0 E3 _ hC [pq h20] (sI h).symm
   ·have h:=hnext1 _ hs1
    obtain⟨y27,h28,h⟩:=Aw h
    replace h:=sI h
    subst h
    exact wr K4 25 [] [⟨.call 119 [.agg (d29 x0),.agg [.os 0,.os 1,.os 2,.os 3]] [v1_ z1.1,v4_ y4.Ac,v0_ y4.Am,v3_ y4.Ai] (.tup [.agg [.os 4,.os 5,.os 6,.os 7],dI y27.2]) (v1_ z1.1::v4_ y4.Ac::v0_ y4.Am::v3_ y4.Ai::zp y27.1 []) [6,7,8,9],⟨A9n,((A8y x0 (⟨z1.1,y4.Ac,y4.Am,y4.Ai⟩:Ab) _ h28).lend (by kernel_rfl) (by kernel_rfl) (by kernel_rfl) ⟨Bh (λ _=>rfl),Bh (λ _=>rfl),Bh (λ _=>rfl),Bh (λ _=>rfl),trivial⟩ (by kernel_rfl) (by kernel_rfl))⟩⟩] [] 0 [12,13,14,15,11] hC []
theorem e66:EN 66:=en Tryz.func66
theorem A41 (x0:Ah) (x1:Ax) (r:Bool×Ax) (h:Wd x0 x1=some r):CO 122 [.agg (d49 x0),.d (.o 0 0)] (.box 112 [.o 1 0] :: .box 147 (zb x1.An [.os 2,.os 3,.os 4,.os 5,.os 6])::zp x1.Aq [v2_ x1.acts]) (.d (Bo r.1)) (.box 112 [.o 1 0] :: .box 147 (zb r.2.An [.os 2,.os 3,.os 4,.os 5,.os 6])::zp r.2.Aq [v2_ r.2.acts]):=by
 unfold Wd at h
 refine co 21 Tryz.func122 λ C hC=>?_
 obtain⟨y1,h2,h⟩:=Aw h
 replace h:=sI h
 subst h
 exact wr n4_ 25 [] [pv e58 (λ hg=>k58 x1.An x1.Aq x0.A _ (A1 h2 hg))] [] 7 n7_ hC []
theorem A59:EN 122:=en Tryz.func122
theorem Aum (x0:Ax) (x1:Int) (r:Int) (h:Q6 x0 x1=some r):CO 160 [.d (.ip [.v (.int .i64 x0.An.Al),.s (x0.An.Ad.map q49),.s (x0.An.Ac.map q98),.s (x0.An.Af.map q90),.v (.int .i64 x0.An.Phase),.v (.int .i64 x0.An.Ar),.s (x0.Aq.Ae.map pB),.s (x0.Aq.Ac.map q87),.s (x0.Aq.Am.map pI),.s (x0.Aq.Ai.map q92),.s (x0.acts.map q47)]),.d (I x1)] [] (.d (I r)) []:=by
 unfold Q6 at h
 refine co 27 Tryz.func160 λ C hC=>?_
 obtain⟨y1,h2,y3,h4,h⟩:=A9 h
 replace h:=sI h
 subst h
 exact wr [0,1,4] 25 [] [pc e87 (k87 x0.An x0.Aq x1 _ h2) [],pc e88 (k88 x0.An x0.Aq x1 _ h4) []] [] 0 [] hC []
theorem Avg:EN 160:=en Tryz.func160
def zO:List Nat:=[0,1,2,3,4,5,6,8,9,10,11,37]
def Af3 (x0:Aa) (n0:Nat) (z0:Unit):St:=[(2,dO 0 0),(3,dO 1 0),(4,dB false),(8,.d (DS q49 x0.Ad)),(9,dI (ln x0.Ad)),(10,dI (cnt 0 n0))]
def Aqz (x0:Aa) (x1:Ab) (n0:Nat) (z0:Unit):List Res:=[.box 29 (d29 x0),.box 34 (d34 x1)]
def Atg  (z0:Unit):St:=[(4,dB false)]
def Axb  (z0:Unit):List Res:=[]
theorem k33 (x0:Aa) (x1:Ab) (r:Bool) (h:F33 x0 x1=some r):CO 33 [.agg (d29 x0),.agg (d34 x1)] [] (.d (Bo r)) []:=by
 unfold F33 at h
 refine co 39 Tryz.func33 λ C hC=>?_
 refine ws zO 26 [] [pl q49 x0.Ad] [] 0 [0,1] (Af3 x0 0 ()) (Aqz x0 x1 0 ()) hC [] ?_
 obtain⟨w0,hm0,hret0,hnext0⟩:=Av h
 clear h
 refine wc w0 (Atg) (Axb) ?_ λ z0 hs0=>?_
 ·refine wb ?_
  refine Bq 8 rfl λ hl0=>?_
  refine wl (Af3 x0) (Aqz x0 x1) hm0 (λ z0 hn0=>?_) λ n0 a0 z0 w0b hi0 hx0 h hb0 hr0=>?_
  ·clear hm0
   exact wx w0 (Atg) (Axb) zO 26 [false] [] [] 0 [] _ hC [pq (A6 hl0)] hn0
  ·unfold Ak4 at h
   obtain⟨y1,h2,y3,h4,y5,h6,h⟩:=By h
   refine wn zO 32 [true] [pt hx0 hl0,pR pB h2,pw e76 (λ hg=>k76 x1 2 (cnt 0 n0) _ (A1 h4 hg)) [],pw e58 (λ hg=>k58 x0 x1 a0.A _ (A1 h6 hg)) []] [] 0 [0,1] [2,3,4,8,9,10,37] hC [pq (A4 hi0 hl0)] ?_
   rcases cB h with⟨h7,h⟩ | ⟨h7,h⟩
   ·have hq:=hret0 _ (hr0 _ (sI h).symm)
    replace hq:=sI hq
    subst hq
    exact wr zO 24 [true] [] [] 0 [] hC [pq h7]
   ·exact wx w0b (Af3 x0 (n0+1)) (Aqz x0 x1 (n0+1)) zO 25 [false] [] [] 0 [0,1] _ hC [pq h7] (sI h).symm
 ·have h:=hnext0 _ hs0
  replace h:=sI h
  subst h
  exact wr zO 23 [] [] [] 0 [] hC []
theorem e33:EN 33:=en Tryz.func33
def zP:List Nat:=[0,1,2,3,4,5,6,9,10,11,12,23]
def Af5 (y1:(List Bool)) (n0:Nat) (z0:Unit):St:=[(2,dO 0 0),(3,dO 1 0),(4,dB false),(9,dS 2),(10,dI (ln y1)),(11,dI (cnt 0 n0))]
def Aq1 (x0:Aa) (x1:Ab) (y1:(List Bool)) (n0:Nat) (z0:Unit):List Res:=[.box 29 (d29 x0),.box 34 (d34 x1),v1_ y1]
def Atk  (z0:Unit):St:=[(2,dO 0 0),(3,dO 1 0),(4,dB false)]
def Axf (x0:Aa) (x1:Ab) (z0:Unit):List Res:=[.box 29 (d29 x0),.box 34 (d34 x1)]
theorem k24 (x0:Aa) (x1:Ab) (r:Bool) (h:F24 x0 x1=some r):CO 24 [.agg (d29 x0),.agg (d34 x1)] [] (.d (Bo r)) []:=by
 unfold F24 at h
 refine co 29 Tryz.func24 λ C hC=>?_
 obtain⟨y1,h2,h⟩:=Aw h
 refine ws zP 26 [] [pc e23 (k23 x0 x1 _ h2) [],pl pB y1] [] 0 n3_ (Af5 y1 0 ()) (Aq1 x0 x1 y1 0 ()) hC [] ?_
 obtain⟨w0,hm0,hret0,hnext0⟩:=Av h
 clear h
 refine wc w0 (Atk) (Axf x0 x1) ?_ λ z0 hs0=>?_
 ·refine wb ?_
  refine B2 9 2 rfl rfl λ hl0=>?_
  refine wl (Af5 y1) (Aq1 x0 x1 y1) hm0 (λ z0 hn0=>?_) λ n0 a0 z0 w0b hi0 hx0 h hb0 hr0=>?_
  ·clear hm0
   exact wx w0 (Atk) (Axf x0 x1) zP 26 [false] [] [] 0 [0,1] _ hC [pq (A6 hl0)] hn0
  ·unfold Ak7 at h
   obtain⟨y3,h4,h⟩:=Aw h
   refine wn zP 32 [true] [pr pB (Bd hx0 hl0),pn pB (Bd hx0 hl0),pw e58 (λ hg=>k58 x0 x1 (cnt 0 n0) _ (A1 h4 hg)) []] [] 0 n3_ [2,3,4,9,10,11,23] hC [pq (A4 hi0 hl0)] ?_
   rcases cB h with⟨h5,h⟩ | ⟨h5,h⟩
   ·have hq:=hret0 _ (hr0 _ (sI h).symm)
    replace hq:=sI hq
    subst hq
    exact wr zP 24 [true] [] [] 0 [] hC [pq h5]
   ·exact wx w0b (Af5 y1 (n0+1)) (Aq1 x0 x1 y1 (n0+1)) zP 25 [false] [] [] 0 n3_ _ hC [pq h5] (sI h).symm
 ·have h:=hnext0 _ hs0
  obtain⟨y6,h7,h⟩:=Aw h
  replace h:=sI h
  subst h
  exact wr zP 23 [] [pc e44 (k44 x0 x1 _ h7) []] [] 0 [] hC []
theorem e24:EN 24:=en Tryz.func24
theorem W8 (x0:Ay) (x1:Int) (r:Bool) (h:Lq x0 x1=some r):CO 82 [.d (.ip [.v (.int .i64 x0.An.Al),.s (x0.An.Ad.map q49),.s (x0.An.Ac.map q98),.s (x0.An.Af.map q90),.v (.int .i64 x0.An.Phase),.v (.int .i64 x0.An.Ar),.s (x0.Aq.Ae.map pB),.s (x0.Aq.Ac.map q87),.s (x0.Aq.Am.map pI),.s (x0.Aq.Ai.map q92),.s (x0.goal.map pB),.s (x0.acts.map q47)]),.d (I x1)] [] (.d (Bo r)) []:=by
 unfold Lq at h
 refine co 15 Tryz.func82 λ C hC=>?_
 obtain⟨y1,h2,h⟩:=Aw h
 replace h:=sI h
 subst h
 exact wr [0,1,4] 25 [] [pc e58 (k58 x0.An x0.Aq x1 _ h2) []] [] 0 [] hC []
theorem Xc:EN 82:=en Tryz.func82
def qL:List Nat:=[0,1,2,3,4,5,6,7,8,9,10,20,22,23,49]
theorem A8m (x0:Aa) (x1:Ab) (x2:Ah) (r:Bool) (h:Jn x0 x1 x2=some r):CO 170 [.agg (d29 x0),.agg (d34 x1),.agg (d49 x2)] [] (.d (Bo r)) []:=by
 unfold Jn at h
 refine co 64 Tryz.func170 λ C hC=>?_
 obtain⟨y1,h2,h⟩:=Aw h
 refine wn qL 28 [] [pc Azx (Azc x0 x1 x2.A _ h2) []] [] 0 n3_ [3,4,5,6,7,20] hC [] ?_
 rcases cB h with⟨h3,h⟩ | ⟨h3,h⟩
 ·replace h:=sI h
  subst h
  exact wr qL 24 [true] [] [] 0 [] hC [pq h3]
 ·rcases cB h with⟨h4,h⟩ | ⟨h4,h⟩
  ·obtain⟨y5,h6,y7,h8,y9,h10,h⟩:=By h
   replace h:=sI h
   subst h
   exact wr qL 34 [false,true] [pc Azx (Azc x0 x1 x2.B _ h6) [],pR q87 h8,pR q87 h10,⟨.when [(!y5.2,false)] (.call 177 [.agg (d29 x0),.agg (d87 y7),.agg (d87 y9)] [] (dB (Tp x0 y7 y9)) [] []),λ hg=>⟨A5n,(A4f x0 y7 y9 _ rfl)⟩⟩] [] 0 [] hC [pq h3,pq h4]
  ·rcases cB h with⟨h11,h⟩ | ⟨h11,h⟩
   ·obtain⟨y12,h13,y14,h15,h⟩:=A9 h
    replace h:=sI h
    subst h
    exact wr qL 35 [false,false,true] [pr q87 h13,pr q87 h15,pc A5n (A4f x0 y12 y14 _ rfl) []] [] 0 [] hC [pq h3,pq h4,pq h11]
   ·replace h:=sI h
    subst h
    exact wr qL 37 [false,false,false] [] [] 0 [] hC [pq h3,pq h4,pq h11]
theorem A9b:EN 170:=en Tryz.func170
def O7:List Nat:=[0,1,2,3,4,5,8,9,10,11,12,13,14,15,16,17,23,44,63,76]
theorem A80 (x0:Aa) (x1:Ab) (x2:Int) (x3:Int) (r:Ab×Int) (h:Z8 x0 x1 x2 x3=some r):CO 111 [.agg (d29 x0),.agg (d34 x1),.d (I x2),.d (I x3)] [] (.tup [.agg [.os 0,.os 1,.os 2,.os 3],.d (I r.2)]) (zp r.1 []):=by
 unfold Z8 at h
 refine co 95 Tryz.func111 λ C hC=>?_
 obtain⟨y1,h2,h⟩:=Aw h
 refine wn O7 28 [] [pc e44 (k44 x0 x1 _ h2) []] [.ownb 2 0 4 1,.ownb 2 1 87 4,.ownb 2 2 3 1,.ownb 2 3 92 2] 0 n7_ [2,3,4,5,8,9,10,23] hC [] ?_
 rcases cB h with⟨h3,h⟩ | ⟨h3,h⟩
 ·replace h:=sI h
  subst h
  exact wr O7 24 [true] [] [.ownb 2 0 4 1,.ownb 2 1 87 4,.ownb 2 2 3 1,.ownb 2 3 92 2] 0 [7,8,9,10] hC [pq h3]
 ·rcases cB h with⟨h4,h⟩ | ⟨h4,h⟩
  ·replace h:=sI h
   subst h
   exact wr O7 29 [false,true] [pL_ [(decide (x2<0),false)] q98 x0.Ac] [.ownb 2 0 4 1,.ownb 2 1 87 4,.ownb 2 2 3 1,.ownb 2 3 92 2] 0 [7,8,9,10] hC [pq h3,pq h4]
  ·obtain⟨y5,h6,y7,h8,h⟩:=A9 h
   refine wn O7 33 [false,false] [pL_ [(decide (x2<0),false)] q98 x0.Ac,pc Azx (Azc x0 x1 x3 _ h6) [],pR q87 h8] [] 0 n7_ [2,4,5,8,9,11,63] hC [pq h3,pq h4] ?_
   rcases cB h with⟨h9,h⟩ | ⟨h9,h⟩
   ·replace h:=sI h
    subst h
    exact wr O7 24 [true] [] [.ownb 2 0 4 1,.ownb 2 1 87 4,.ownb 2 2 3 1,.ownb 2 3 92 2] 0 [7,8,9,10] hC [pq h9]
   ·obtain⟨y10,h11,y12,h13,h⟩:=A9 h
    refine wn O7 32 [false] [pc e35 (k35 x1 _ h11) [],pc A9h (A8s x0 x1 x2 _ h13) []] [] 0 E3 [4,5,8,9,11,13,14,15,76] hC [pq h9] ?_
    rcases cB h with⟨h14,h⟩ | ⟨h14,h⟩
    ·obtain⟨y15,h16,y17,h18,y19,h20,h⟩:=By h
     replace h:=sI h
     subst h
     exact wr O7 29 [true] [pc Aae (zT x0 x1 y12.1 _ h16) [],pr q87 h18,pc Aiu (Ah4 y10 y15.1.Ac y17 _ h20) [7,8,9,10]] [] 0 [7,8,9,10] hC [pq h14]
    ·obtain⟨y21,h22,y23,h24,h⟩:=A9 h
     replace h:=sI h
     subst h
     exact wr O7 27 [false] [pr q87 h22,pc Aiu (Ah4 y10 [x2] y21 _ h24) [7,8,9,10]] [] 0 [7,8,9,10] hC [pq h14]
theorem A9p:EN 111:=en Tryz.func111
def Ay2:List Nat:=[0,1,2,3,4,5,6,7,8,9,10,20]
theorem k29 (x0:Aa) (x1:Ab) (r:Ab×(List Ak)×Int) (h:F29 x0 x1=some r):CO 29 [.agg (d29 x0),.agg (d34 x1)] [] (.tup [.agg [.os 0,.os 1,.os 2,.os 3],.d (.os 4),.d (I r.2.2)]) (zp r.1 [v2_ r.2.1]):=by
 unfold F29 at h
 refine co 34 Tryz.func29 λ C hC=>?_
 obtain⟨y1,h2,h⟩:=Aw h
 refine wn Ay2 28 [] [pc e66 (k66 x0 x1 _ h2) []] [.ownb 2 0 4 1,.ownb 2 1 87 4,.ownb 2 2 3 1,.ownb 2 3 92 2] 0 [0,2,3,4,5,6,7,8,9,10,11,12] [2,4,5,6,7,8,9,20] hC [] ?_
 rcases cB h with⟨h3,h⟩ | ⟨h3,h⟩
 ·replace h:=sI h
  subst h
  exact wr Ay2 24 [true] [] [.ownb 1 0 4 1,.ownb 1 1 87 4,.ownb 1 2 3 1,.ownb 1 3 92 2,.own 5 47 3] 0 [12,13,14,15,16] hC [pq h3]
 ·obtain⟨y4,h5,y6,h7,h⟩:=A9 h
  replace h:=sI h
  subst h
  exact wr Ay2 27 [false] [⟨.call 67 [.agg (d29 x0),.agg [.os 0,.os 1,.os 2,.os 3]] (zp y1.1 []) (.tup [.agg [.os 4,.os 5,.os 6,.os 7],dS 8,dI y4.2.2]) (zp y1.1 (zp y4.1 [v2_ y4.2.1])) [2,3,4,5],⟨e67,((k67 x0 y1.1 _ h5).lend (by kernel_rfl) (by kernel_rfl) (by kernel_rfl) ⟨Bh (λ _=>rfl),Bh (λ _=>rfl),Bh (λ _=>rfl),Bh (λ _=>rfl),Bh (λ _=>rfl),trivial⟩ (by kernel_rfl) (by kernel_rfl))⟩⟩,pa q47 3 h7] [] 0 [12,13,14,15,17] hC [pq h3]
theorem e29:EN 29:=en Tryz.func29
def Ir:List Nat:=[0,1,4,5,6,8,13,14,15,16,32,38,39,40,41]
def Ov (x0:Ax) (n0:Nat) (z0:Sg8):St:=[(0,dO 0 0),(1,.d (.fn (.func 122) [] [.o 6 0])),(4,dS 7),(13,.d (DS q49 x0.An.Ad)),(14,dI (ln x0.An.Ad)),(15,dI (cnt 0 n0))]
def Te  (n0:Nat) (z0:Sg8):List Res:=[.box 147 [I z0.1,DS q49 z0.2.1,DS q98 z0.2.2.1,DS q90 (g3_ z0),I (g4_ z0),I (g5_ z0),.os 8,.os 9,.os 10,.os 11,.os 12],.non,.non,.non,.non,.non,.box 112 [.o 0 0],v0_ (g6_ z0),v1_ (g7_ z0),v4_ (g8_ z0),v0_ (g9_ z0),v3_ (Ct z0),v2_ (Dc z0)]
def Ab7  (z0:Sg8):St:=[(0,dO 0 0),(4,dS 7)]
def Adm  (z0:Sg8):List Res:=[.box 147 [I z0.1,DS q49 z0.2.1,DS q98 z0.2.2.1,DS q90 (g3_ z0),I (g4_ z0),I (g5_ z0),.os 8,.os 9,.os 10,.os 11,.os 12],.non,.non,.non,.non,.non,.box 112 [.o 0 0],v0_ (g6_ z0),v1_ (g7_ z0),v4_ (g8_ z0),v0_ (g9_ z0),v3_ (Ct z0),v2_ (Dc z0)]
def Ug (z0:Sg8) (n1:Nat) (z1:Sg7):St:=[(0,dO 0 0),(38,dS 7),(39,dI (ln (g6_ z0))),(40,dI (cnt 0 n1))]
def Zq (z0:Sg8) (n1:Nat) (z1:Sg7):List Res:=[.box 147 [I z1.1,DS q49 z1.2.1,DS q98 z1.2.2.1,DS q90 (g3_ z1),I (g4_ z1),I (g5_ z1),.os 8,.os 9,.os 10,.os 11,.os 12],.non,.non,.non,.non,.non,.box 112 [.o 0 0],v0_ (g6_ z0),v1_ (g6_ z1),v4_ (g7_ z1),v0_ (g8_ z1),v3_ (g9_ z1),v2_ (Gu z1)]
def Ab6  (z1:Sg7):St:=[]
def Adl  (z1:Sg7):List Res:=[.box 147 [I z1.1,DS q49 z1.2.1,DS q98 z1.2.2.1,DS q90 (g3_ z1),I (g4_ z1),I (g5_ z1),.os 7,.os 8,.os 9,.os 10,.os 11],.non,.non,.non,.non,.non,.box 112 [.o 0 0],v1_ (g6_ z1),v4_ (g7_ z1),v0_ (g8_ z1),v3_ (g9_ z1),v2_ (Gu z1)]
theorem A44 (x0:Ax) (r:Ax) (h:Wi x0=some r):CO 120 [.d (.o 0 0),.d (.fn (.func 122) [] [.o 6 0])] (.box 147 (zb x0.An [.os 1,.os 2,.os 3,.os 4,.os 5])::zp x0.Aq [v2_ x0.acts,.box 112 [.o 0 0]]) (.tup []) (.box 147 (zb r.An [.os 7,.os 8,.os 9,.os 10,.os 11]) :: .non :: .non :: .non :: .non :: .non :: .box 112 [.o 0 0]::zp r.Aq [v2_ r.acts]):=by
 unfold Wi at h
 refine co 48 Tryz.func120 λ C hC=>?_
 refine ws Ir 26 [] [pl q49 x0.An.Ad] [.own 4 3 1,.mv 1,.mv 2,.mv 3,.mv 4,.mv 5] 7 Df (Ov x0 0 (zt x0.An (([]:List Int),zu x0.Aq x0.acts))) (Te 0 (zt x0.An (([]:List Int),zu x0.Aq x0.acts))) hC [] ?_
 obtain⟨w0,hm0,hret0,hnext0⟩:=Av h
 clear h
 refine wc w0 (Ab7) (Adm) ?_ λ z0 hs0=>?_
 ·refine wb ?_
  refine Bq 13 rfl λ hl0=>?_
  refine wl (Ov x0) (Te) hm0 (λ z0 hn0=>?_) λ n0 a0 z0 w0b hi0 hx0 h hb0 hr0=>?_
  ·clear hm0
   exact wx w0 (Ab7) (Adm) Ir 26 [false] [] [] 7 Df _ hC [pq (A6 hl0)] hn0
  ·unfold Wh at h
   obtain⟨y1,h2,y3,h4,h⟩:=A9 h
   refine wn Ir 32 [true] [pt hx0 hl0,pr pB h2,pn pB h2,⟨.whenR [(y1,true)] (.call 122 [.agg (d49 a0),dO 0 0] [.box 112 [.o 1 0],.box 147 [I z0.1,DS q49 z0.2.1,DS q98 z0.2.2.1,DS q90 (g3_ z0),I (g4_ z0),I (g5_ z0),.os 2,.os 3,.os 4,.os 5,.os 6],v1_ (g7_ z0),v4_ (g8_ z0),v0_ (g9_ z0),v3_ (Ct z0),v2_ (Dc z0)] (dB y3.1) (.box 112 [.o 1 0] :: .box 147 (zb y3.2.An [.os 2,.os 3,.os 4,.os 5,.os 6])::zp y3.2.Aq [v2_ y3.2.acts]) [6,0,8,9,10,11,12]),⟨λ hg=>⟨A59,(A41 a0 (⟨(⟨z0.1,z0.2.1,z0.2.2.1,(g3_ z0),(g4_ z0),(g5_ z0)⟩:Aa),(⟨(g7_ z0),(g8_ z0),(g9_ z0),(Ct z0)⟩:Ab),(Dc z0)⟩:Ax) _ (A1 h4 hg))⟩,λ hg=>by have e:=Kg h4 hg;subst e;rfl⟩⟩] [] 7 Df [0,1,4,5,13,14,15,32] hC [pq (A4 hi0 hl0)] ?_
   rcases cB h with⟨h5,h⟩ | ⟨h5,h⟩
   ·obtain⟨y6,h7,h⟩:=Aw h
    exact wx w0b (Ov x0 (n0+1)) (Te (n0+1)) Ir 25 [true] [pa pI 1 h7] [] 7 [0,1,2,3,4,5,6,13,8,9,10,11,12] _ hC [pq h5] (sI h).symm
   ·exact wx w0b (Ov x0 (n0+1)) (Te (n0+1)) Ir 25 [false] [] [] 7 Df _ hC [pq h5] (sI h).symm
 ·have h:=hnext0 _ hs0
  refine ws Ir 23 [] [pl pI (g6_ z0)] [] 7 Df (Ug z0 0 (z0.1,z0.2.1,z0.2.2.1,(g3_ z0),(g4_ z0),(g5_ z0),(g7_ z0),(g8_ z0),(g9_ z0),(Ct z0),(Dc z0))) (Zq z0 0 (z0.1,z0.2.1,z0.2.2.1,(g3_ z0),(g4_ z0),(g5_ z0),(g7_ z0),(g8_ z0),(g9_ z0),(Ct z0),(Dc z0))) hC [] ?_
  obtain⟨w1,hm1,hret1,hnext1⟩:=Av h
  clear h
  refine wc w1 (Ab6) (Adl) ?_ λ z1 hs1=>?_
  ·refine wb ?_
   refine B2 38 7 rfl rfl λ hl1=>?_
   refine wl (Ug z0) (Zq z0) hm1 (λ z1 hn1=>?_) λ n1 a1 z1 w1b hi1 hx1 h hb1 hr1=>?_
   ·clear hm1
    exact wx w1 (Ab6) (Adl) Ir 26 [false] [] [] 7 [0,1,2,3,4,5,6,8,9,10,11,12] _ hC [pq (A6 hl1)] hn1
   ·unfold Ady at h
    obtain⟨y8,h9,h⟩:=Aw h
    exact wx w1b (Ug z0 (n1+1)) (Zq z0 (n1+1)) Ir 33 [true] [pr pI (Bd hx1 hl1),pn pI (Bd hx1 hl1),pc Ais (Ah2 (⟨(⟨z1.1,z1.2.1,z1.2.2.1,(g3_ z1),(g4_ z1),(g5_ z1)⟩:Aa),(⟨(g6_ z1),(g7_ z1),(g8_ z1),(g9_ z1)⟩:Ab),(Gu z1)⟩:Ax) a1 _ h9) [0,8,9,10,11,12]] [] 7 [0,1,2,3,4,5,6,7,8,9,10,11,13] _ hC [pq (A4 hi1 hl1)] (sI h).symm
  ·have h:=hnext1 _ hs1
   replace h:=sI h
   subst h
   exact wf Ir 20 [] [] [] 7 E3 hC []
theorem A6c:EN 120:=en Tryz.func120
def Nc:List Nat:=[0,1,2,7,8,9,10,11,12,38]
def On (x1:List Int) (x2:Int) (n0:Nat) (z0:(List Int)×(List Ak)):St:=[(0,dO 0 0),(2,dI x2),(9,dS 6),(10,dI (ln x1)),(11,dI (cnt 0 n0))]
def S_ (x0:Ax) (x1:List Int) (n0:Nat) (z0:(List Int)×(List Ak)):List Res:=[.box 147 (zb x0.An [.os 7,.os 8,.os 9,.os 10,.os 11]),.non,.non,.non,.non,.non,v0_ x1,v1_ x0.Aq.Ae,v4_ x0.Aq.Ac,v0_ z0.1,v3_ x0.Aq.Ai,v2_ z0.2]
def Abz  (z0:(List Int)×(List Ak)):St:=[]
def Add (x0:Ax) (x1:List Int) (z0:(List Int)×(List Ak)):List Res:=[.box 147 (zb x0.An [.os 7,.os 8,.os 9,.os 10,.os 11]),.non,.non,.non,.non,.non,v0_ x1,v1_ x0.Aq.Ae,v4_ x0.Aq.Ac,v0_ z0.1,v3_ x0.Aq.Ai,v2_ z0.2]
theorem A4w (x0:Ax) (x1:List Int) (x2:Int) (r:Ax) (h:Q_ x0 x1 x2=some r):CO 127 [.d (.o 0 0),.d (.os 6),.d (I x2)] (.box 147 (zb x0.An [.os 1,.os 2,.os 3,.os 4,.os 5])::zp x0.Aq [v2_ x0.acts,v0_ x1]) (.tup []) (.box 147 (zb r.An [.os 7,.os 8,.os 9,.os 10,.os 11]) :: .non :: .non :: .non :: .non :: .non::v0_ x1::zp r.Aq [v2_ r.acts]):=by
 unfold Q_ at h
 refine co 70 Tryz.func127 λ C hC=>?_
 refine ws Nc 23 [] [pl pI x1] [.mv 1,.mv 2,.mv 3,.mv 4,.mv 5] 7 E3 (On x1 x2 0 (x0.Aq.Am,x0.acts)) (S_ x0 x1 0 (x0.Aq.Am,x0.acts)) hC [] ?_
 obtain⟨w0,hm0,hret0,hnext0⟩:=Av h
 clear h
 refine wc w0 (Abz) (Add x0 x1) ?_ λ z0 hs0=>?_
 ·refine wb ?_
  refine B2 9 6 rfl rfl λ hl0=>?_
  refine wl (On x1 x2) (S_ x0 x1) hm0 (λ z0 hn0=>?_) λ n0 a0 z0 w0b hi0 hx0 h hb0 hr0=>?_
  ·clear hm0
   exact wx w0 (Abz) (Add x0 x1) Nc 26 [false] [] [] 7 E3 _ hC [pq (A6 hl0)] hn0
  ·unfold Wa at h
   obtain⟨y1,h2,y3,h4,y5,h6,h⟩:=By h
   refine wn Nc 34 [true] [pr pI (Bd hx0 hl0),pn pI (Bd hx0 hl0),pb Avg (Aum (⟨x0.An,(⟨x0.Aq.Ae,x0.Aq.Ac,z0.1,x0.Aq.Ai⟩:Ab),z0.2⟩:Ax) x2 _ h2),pr pI h4,pn pI h4,pr q90 h6] [] 7 E3 [0,2,7,8,9,10,11,38] hC [pq (A4 hi0 hl0)] ?_
   rcases cB h with⟨h7,h⟩ | ⟨h7,h⟩
   ·obtain⟨y8,h9,y10,h11,y12,h13,h⟩:=By h
    exact wx w0b (On x1 x2 (n0+1)) (S_ x0 x1 (n0+1)) Nc 27 [true] [pr pI h4,pn pI h4,pr pI h4,pu pI h4 h9,pr pI h11,pn pI h11,pa q47 3 h13] [] 7 [0,1,2,3,4,5,6,7,8,9,10,12] _ hC [pq h7] (sI h).symm
   ·exact wx w0b (On x1 x2 (n0+1)) (S_ x0 x1 (n0+1)) Nc 25 [false] [] [] 7 E3 _ hC [pq h7] (sI h).symm
 ·have h:=hnext0 _ hs0
  replace h:=sI h
  subst h
  exact wf Nc 20 [] [] [] 7 E3 hC []
theorem A54:EN 127:=en Tryz.func127
def Nb:List Nat:=[0,1,2,7,8,9,10,11,28]
def Om (x1:List Int) (x2:Int) (n0:Nat) (z0:Sg7):St:=[(0,dO 0 0),(2,dI x2),(8,dS 6),(9,dI (ln x1)),(10,dI (cnt 0 n0))]
def S9 (x1:List Int) (n0:Nat) (z0:Sg7):List Res:=[.box 147 [I z0.1,DS q49 z0.2.1,DS q98 z0.2.2.1,DS q90 (g3_ z0),I (g4_ z0),I (g5_ z0),.os 7,.os 8,.os 9,.os 10,.os 11],.non,.non,.non,.non,.non,v0_ x1,v1_ (g6_ z0),v4_ (g7_ z0),v0_ (g8_ z0),v3_ (g9_ z0),v2_ (Gu z0)]
def Aby  (z0:Sg7):St:=[]
def Adc (x1:List Int) (z0:Sg7):List Res:=[.box 147 [I z0.1,DS q49 z0.2.1,DS q98 z0.2.2.1,DS q90 (g3_ z0),I (g4_ z0),I (g5_ z0),.os 7,.os 8,.os 9,.os 10,.os 11],.non,.non,.non,.non,.non,v0_ x1,v1_ (g6_ z0),v4_ (g7_ z0),v0_ (g8_ z0),v3_ (g9_ z0),v2_ (Gu z0)]
theorem A4v (x0:Ax) (x1:List Int) (x2:Int) (r:Ax) (h:Q9 x0 x1 x2=some r):CO 128 [.d (.o 0 0),.d (.os 6),.d (I x2)] (.box 147 (zb x0.An [.os 1,.os 2,.os 3,.os 4,.os 5])::zp x0.Aq [v2_ x0.acts,v0_ x1]) (.tup []) (.box 147 (zb r.An [.os 7,.os 8,.os 9,.os 10,.os 11]) :: .non :: .non :: .non :: .non :: .non::v0_ x1::zp r.Aq [v2_ r.acts]):=by
 unfold Q9 at h
 refine co 33 Tryz.func128 λ C hC=>?_
 refine ws Nb 23 [] [pl pI x1] [.mv 1,.mv 2,.mv 3,.mv 4,.mv 5] 7 E3 (Om x1 x2 0 (zt x0.An (zu x0.Aq x0.acts))) (S9 x1 0 (zt x0.An (zu x0.Aq x0.acts))) hC [] ?_
 obtain⟨w0,hm0,hret0,hnext0⟩:=Av h
 clear h
 refine wc w0 (Aby) (Adc x1) ?_ λ z0 hs0=>?_
 ·refine wb ?_
  refine B2 8 6 rfl rfl λ hl0=>?_
  refine wl (Om x1 x2) (S9 x1) hm0 (λ z0 hn0=>?_) λ n0 a0 z0 w0b hi0 hx0 h hb0 hr0=>?_
  ·clear hm0
   exact wx w0 (Aby) (Adc x1) Nb 26 [false] [] [] 7 E3 _ hC [pq (A6 hl0)] hn0
  ·unfold V_ at h
   obtain⟨y1,h2,y3,h4,h⟩:=A9 h
   refine wn Nb 32 [true] [pr pI (Bd hx0 hl0),pn pI (Bd hx0 hl0),pr pI h2,pn pI h2,pv Avg (λ hg=>Aum (⟨(⟨z0.1,z0.2.1,z0.2.2.1,(g3_ z0),(g4_ z0),(g5_ z0)⟩:Aa),(⟨(g6_ z0),(g7_ z0),(g8_ z0),(g9_ z0)⟩:Ab),(Gu z0)⟩:Ax) x2 _ (A1 h4 hg))] [] 7 Df [0,2,7,8,9,10,28] hC [pq (A4 hi0 hl0)] ?_
   rcases cB h with⟨h5,h⟩ | ⟨h5,h⟩
   ·obtain⟨y6,h7,h⟩:=Aw h
    exact wx w0b (Om x1 x2 (n0+1)) (S9 x1 (n0+1)) Nb 25 [true] [pc A6b (A43 (⟨(⟨z0.1,z0.2.1,z0.2.2.1,(g3_ z0),(g4_ z0),(g5_ z0)⟩:Aa),(⟨(g6_ z0),(g7_ z0),(g8_ z0),(g9_ z0)⟩:Ab),(Gu z0)⟩:Ax) a0 _ h7) [0,7,8,9,10,11,12]] [] 7 [0,1,2,3,4,5,6,13,14,15,16,17] _ hC [pq h5] (sI h).symm
   ·exact wx w0b (Om x1 x2 (n0+1)) (S9 x1 (n0+1)) Nb 25 [false] [] [] 7 E3 _ hC [pq h5] (sI h).symm
 ·have h:=hnext0 _ hs0
  replace h:=sI h
  subst h
  exact wf Nb 20 [] [] [] 7 E3 hC []
theorem A53:EN 128:=en Tryz.func128
def Ka:List Nat:=[0,2,3,4,6,11,12,13,14,46,52,53,54,55]
def Rh (x0:Ay) (n0:Nat) (z0:(List Int)):St:=[(0,dO 0 0),(2,dS 7),(11,.d (DS q49 x0.An.Ad)),(12,dI (ln x0.An.Ad)),(13,dI (cnt 0 n0))]
def Xm (x0:Ay) (n0:Nat) (z0:(List Int)):List Res:=(.box 80 (zb x0.An [.os 8,.os 9,.os 10,.os 11,.os 12,.os 13]) :: .non :: .non :: .non :: .non :: .non :: .non::v0_ z0::zp x0.Aq [v1_ x0.goal,v2_ x0.acts])
def Agw  (z0:(List Int)):St:=[(0,dO 0 0),(2,dS 7)]
def Ajm (x0:Ay) (z0:(List Int)):List Res:=(.box 80 (zb x0.An [.os 8,.os 9,.os 10,.os 11,.os 12,.os 13]) :: .non :: .non :: .non :: .non :: .non :: .non::v0_ z0::zp x0.Aq [v1_ x0.goal,v2_ x0.acts])
def Yk (z0:(List Int)) (n1:Nat) (z1:Sg6):St:=[(0,dO 0 0),(52,dS 7),(53,dI (ln z0)),(54,dI (cnt 0 n1))]
def Aaq (z0:(List Int)) (n1:Nat) (z1:Sg6):List Res:=[.box 80 [I z1.1,DS q49 z1.2.1,DS q98 z1.2.2.1,DS q90 (g3_ z1),I (g4_ z1),I (g5_ z1),.os 8,.os 9,.os 10,.os 11,.os 12,.os 13],.non,.non,.non,.non,.non,.non,v0_ z0,v1_ (g6_ z1),v4_ (g7_ z1),v0_ (g8_ z1),v3_ (g9_ z1),v1_ (Ct z1),v2_ (Dc z1)]
def Agv  (z1:Sg6):St:=[]
def Ajl  (z1:Sg6):List Res:=[.box 80 [I z1.1,DS q49 z1.2.1,DS q98 z1.2.2.1,DS q90 (g3_ z1),I (g4_ z1),I (g5_ z1),.os 7,.os 8,.os 9,.os 10,.os 11,.os 12],.non,.non,.non,.non,.non,.non,v1_ (g6_ z1),v4_ (g7_ z1),v0_ (g8_ z1),v3_ (g9_ z1),v1_ (Ct z1),v2_ (Dc z1)]
theorem A7r (x0:Ay) (r:Ay) (h:Xs x0=some r):CO 36 [.d (.o 0 0)] (.box 80 (zb x0.An [.os 1,.os 2,.os 3,.os 4,.os 5,.os 6])::zp x0.Aq [v1_ x0.goal,v2_ x0.acts]) (.tup []) (.box 80 (zb r.An [.os 7,.os 8,.os 9,.os 10,.os 11,.os 12]) :: .non :: .non :: .non :: .non :: .non :: .non::zp r.Aq [v1_ r.goal,v2_ r.acts]):=by
 unfold Xs at h
 refine co 62 Tryz.func36 λ C hC=>?_
 refine ws Ka 26 [] [pl q49 x0.An.Ad] [.own 2 3 1,.mv 1,.mv 2,.mv 3,.mv 4,.mv 5,.mv 6] 7 Yy (Rh x0 0 ([]:List Int)) (Xm x0 0 ([]:List Int)) hC [] ?_
 obtain⟨w0,hm0,hret0,hnext0⟩:=Av h
 clear h
 refine wc w0 (Agw) (Ajm x0) ?_ λ z0 hs0=>?_
 ·refine wb ?_
  refine Bq 11 rfl λ hl0=>?_
  refine wl (Rh x0) (Xm x0) hm0 (λ z0 hn0=>?_) λ n0 a0 z0 w0b hi0 hx0 h hb0 hr0=>?_
  ·clear hm0
   exact wx w0 (Agw) (Ajm x0) Ka 26 [false] [] [] 7 Yy _ hC [pq (A6 hl0)] hn0
  ·unfold Z0 at h
   obtain⟨y1,h2,y3,h4,y5,h6,h⟩:=By h
   refine wn Ka 32 [true] [pt hx0 hl0,pR pB h2,pN pB h2,pv e76 (λ hg=>k76 x0.Aq 2 (cnt 0 n0) _ (A1 h4 hg)),pv Xc (λ hg=>W8 x0 a0.A _ (A1 h6 hg))] [] 7 Yy [0,2,3,11,12,13,46] hC [pq (A4 hi0 hl0)] ?_
   rcases cB h with⟨h7,h⟩ | ⟨h7,h⟩
   ·obtain⟨y8,h9,h⟩:=Aw h
    exact wx w0b (Rh x0 (n0+1)) (Xm x0 (n0+1)) Ka 25 [true] [pa pI 1 h9] [] 7 [0,1,2,3,4,5,6,14,8,9,10,11,12,13] _ hC [pq h7] (sI h).symm
   ·exact wx w0b (Rh x0 (n0+1)) (Xm x0 (n0+1)) Ka 25 [false] [] [] 7 Yy _ hC [pq h7] (sI h).symm
 ·have h:=hnext0 _ hs0
  refine ws Ka 23 [] [pl pI z0] [] 7 Yy (Yk z0 0 (zt x0.An (zu x0.Aq (x0.goal,x0.acts)))) (Aaq z0 0 (zt x0.An (zu x0.Aq (x0.goal,x0.acts)))) hC [] ?_
  obtain⟨w1,hm1,hret1,hnext1⟩:=Av h
  clear h
  refine wc w1 (Agv) (Ajl) ?_ λ z1 hs1=>?_
  ·refine wb ?_
   refine B2 52 7 rfl rfl λ hl1=>?_
   refine wl (Yk z0) (Aaq z0) hm1 (λ z1 hn1=>?_) λ n1 a1 z1 w1b hi1 hx1 h hb1 hr1=>?_
   ·clear hm1
    exact wx w1 (Agv) (Ajl) Ka 26 [false] [] [] 7 [0,1,2,3,4,5,6,8,9,10,11,12,13] _ hC [pq (A6 hl1)] hn1
   ·unfold Zz at h
    obtain⟨y10,h11,h⟩:=Aw h
    exact wx w1b (Yk z0 (n1+1)) (Aaq z0 (n1+1)) Ka 33 [true] [pr pI (Bd hx1 hl1),pn pI (Bd hx1 hl1),pc Aed (Aec (⟨(⟨z1.1,z1.2.1,z1.2.2.1,(g3_ z1),(g4_ z1),(g5_ z1)⟩:Aa),(⟨(g6_ z1),(g7_ z1),(g8_ z1),(g9_ z1)⟩:Ab),(Ct z1),(Dc z1)⟩:Ay) 2 a1 _ h11) [0,8,9,10,11,12,13]] [] 7 [0,1,2,3,4,5,6,7,8,9,10,11,12,14] _ hC [pq (A4 hi1 hl1)] (sI h).symm
  ·have h:=hnext1 _ hs1
   replace h:=sI h
   subst h
   exact wf Ka 20 [] [] [] 7 Df hC []
theorem A77:EN 36:=en Tryz.func36
def L3:List Nat:=[0,2,3,4,9,10,11,12,44,46,47,71]
def Kr (x0:Ay) (n0:Nat) (z0:Sg9):St:=[(0,dO 0 0),(2,dI z0.1),(9,dS 8),(10,dI (ln x0.Aq.Ac)),(11,dI (cnt 0 n0))]
def Ni (x0:Ay) (n0:Nat) (z0:Sg9):List Res:=[.box 80 (zb x0.An [.os 7,.os 8,.os 9,.os 10,.os 11,.os 12]),.non,.non,.non,.non,.non,.non,v1_ x0.Aq.Ae,v4_ z0.2.1,v0_ x0.Aq.Am,v3_ x0.Aq.Ai,v1_ x0.goal,v2_ z0.2.2]
def Agu  (z0:Sg9):St:=[(0,dO 0 0),(2,dI z0.1)]
def Ajk (x0:Ay) (z0:Sg9):List Res:=[.box 80 (zb x0.An [.os 7,.os 8,.os 9,.os 10,.os 11,.os 12]),.non,.non,.non,.non,.non,.non,v1_ x0.Aq.Ae,v4_ z0.2.1,v0_ x0.Aq.Am,v3_ x0.Aq.Ai,v1_ x0.goal,v2_ z0.2.2]
theorem A7q (x0:Ay) (r:Ay) (h:vT x0=some r):CO 37 [.d (.o 0 0)] (.box 80 (zb x0.An [.os 1,.os 2,.os 3,.os 4,.os 5,.os 6])::zp x0.Aq [v1_ x0.goal,v2_ x0.acts]) (.tup []) (.box 80 (zb r.An [.os 7,.os 8,.os 9,.os 10,.os 11,.os 12]) :: .non :: .non :: .non :: .non :: .non :: .non::zp r.Aq [v1_ r.goal,v2_ r.acts]):=by
 unfold vT at h
 refine co 105 Tryz.func37 λ C hC=>?_
 refine ws L3 26 [] [pl q87 x0.Aq.Ac] [.mv 1,.mv 2,.mv 3,.mv 4,.mv 5,.mv 6] 7 Df (Kr x0 0 (0,x0.Aq.Ac,x0.acts)) (Ni x0 0 (0,x0.Aq.Ac,x0.acts)) hC [] ?_
 obtain⟨w0,hm0,hret0,hnext0⟩:=Av h
 clear h
 refine wc w0 (Agu) (Ajk x0) ?_ λ z0 hs0=>?_
 ·refine wb ?_
  refine B2 9 8 rfl rfl λ hl0=>?_
  refine wl (Kr x0) (Ni x0) hm0 (λ z0 hn0=>?_) λ n0 a0 z0 w0b hi0 hx0 h hb0 hr0=>?_
  ·clear hm0
   exact wx w0 (Agu) (Ajk x0) L3 26 [false] [] [] 7 Df _ hC [pq (A6 hl0)] hn0
  ·unfold Zy at h
   obtain⟨y1,h2,y3,h4,y5,h6,h⟩:=By h
   obtain⟨y7,h8,y9,h10,h⟩:=A9 h
   refine wn L3 33 [true] [pr q87 h2,pn q87 h2,pb e55 (k55 x0.An (⟨x0.Aq.Ae,z0.2.1,x0.Aq.Am,x0.Aq.Ai⟩:Ab) (cnt 0 n0) _ h4),pw e56 (λ hg=>k56 x0.An (cnt 0 n0) _ (A1 h6 hg)) [],pR q49 h8,pv Xc (λ hg=>W8 (⟨x0.An,(⟨x0.Aq.Ae,z0.2.1,x0.Aq.Am,x0.Aq.Ai⟩:Ab),x0.goal,z0.2.2⟩:Ay) y7.A _ (A1 h10 hg))] [] 7 Yy [0,2,3,4,9,10,11,44] hC [pq (A4 hi0 hl0)] ?_
   rcases cB h with⟨h11,h⟩ | ⟨h11,h⟩
   ·exact wx w0b (Kr x0 (n0+1)) (Ni x0 (n0+1)) L3 24 [true] [] [] 7 Df _ hC [pq h11] (sI h).symm
   ·rcases cB h with⟨h12,h⟩ | ⟨h12,h⟩
    ·obtain⟨y13,h14,y15,h16,y17,h18,h⟩:=By h
     exact wx w0b (Kr x0 (n0+1)) (Ni x0 (n0+1)) L3 37 [false,true] [pa q47 3 h14,pr q98 h16,pr q87 h2,pu q87 h2 h18] [] 7 [0,1,2,3,4,5,6,7,8,9,10,11,14] _ hC [pq h11,pq h12] (sI h).symm
    ·rcases cB h with⟨h19,h⟩ | ⟨h19,h⟩
     ·obtain⟨y20,h21,y22,h23,h⟩:=A9 h
      exact wx w0b (Kr x0 (n0+1)) (Ni x0 (n0+1)) L3 38 [false,false,true] [pr q98 h21,pr q87 h2,pu q87 h2 h23] [] 7 Df _ hC [pq h11,pq h12,pq h19] (sI h).symm
     ·obtain⟨y24,h25,h⟩:=Aw h
      exact wx w0b (Kr x0 (n0+1)) (Ni x0 (n0+1)) L3 38 [false,false,false] [pr q87 h2,pu q87 h2 h25] [] 7 Df _ hC [pq h11,pq h12,pq h19] (sI h).symm
 ·have h:=hnext0 _ hs0
  obtain⟨y26,h27,y28,h29,h⟩:=A9 h
  replace h:=sI h
  subst h
  exact wf L3 21 [] [pc e83 (k83 [(⟨7,0,0⟩:Ak)] z0.1 _ h27) [],pa q47 3 h29] [] 7 [0,1,2,3,4,5,6,7,8,9,10,11,14] hC []
theorem A76:EN 37:=en Tryz.func37
def J_:List Nat:=[0,2,3,4,9,10,11,18,19,20,56]
def Yj (x0:Ay) (z0:Il):St:=[(0,dO 0 0),(9,dI x0.An.Al),(10,dI z0.1)]
def Aap  (z0:Il):List Res:=[.box 80 [I z0.2.1,DS q49 z0.2.2.1,DS q98 (g3_ z0),DS q90 (g4_ z0),I (g5_ z0),I (g6_ z0),.os 7,.os 8,.os 9,.os 10,.os 11,.os 12],.non,.non,.non,.non,.non,.non,v1_ (g7_ z0),v4_ (g8_ z0),v0_ (g9_ z0),v3_ (Ct z0),v1_ (Pv z0),v2_ (Ll z0)]
def Agt  (z0:Il):St:=[]
def Ajj  (z0:Il):List Res:=[.box 80 [I z0.2.1,DS q49 z0.2.2.1,DS q98 (g3_ z0),DS q90 (g4_ z0),I (g5_ z0),I (g6_ z0),.os 7,.os 8,.os 9,.os 10,.os 11,.os 12],.non,.non,.non,.non,.non,.non,v1_ (g7_ z0),v4_ (g8_ z0),v0_ (g9_ z0),v3_ (Ct z0),v1_ (Pv z0),v2_ (Ll z0)]
def Rg (x0:Ay) (z0:Il) (z1:Il):St:=[(0,dO 0 0),(2,dI z0.1),(9,dI x0.An.Al),(10,dI z0.1),(18,dI (ln (g3_ z0))),(19,dI z1.1)]
def Xl  (z1:Il):List Res:=[.box 80 [I z1.2.1,DS q49 z1.2.2.1,DS q98 (g3_ z1),DS q90 (g4_ z1),I (g5_ z1),I (g6_ z1),.os 7,.os 8,.os 9,.os 10,.os 11,.os 12],.non,.non,.non,.non,.non,.non,v1_ (g7_ z1),v4_ (g8_ z1),v0_ (g9_ z1),v3_ (Ct z1),v1_ (Pv z1),v2_ (Ll z1)]
def Ags (x0:Ay) (z0:Il) (z1:Il):St:=[(0,dO 0 0),(9,dI x0.An.Al),(10,dI z0.1)]
def Aji  (z1:Il):List Res:=[.box 80 [I z1.2.1,DS q49 z1.2.2.1,DS q98 (g3_ z1),DS q90 (g4_ z1),I (g5_ z1),I (g6_ z1),.os 7,.os 8,.os 9,.os 10,.os 11,.os 12],.non,.non,.non,.non,.non,.non,v1_ (g7_ z1),v4_ (g8_ z1),v0_ (g9_ z1),v3_ (Ct z1),v1_ (Pv z1),v2_ (Ll z1)]
theorem A7p (x0:Ay) (r:Ay) (h:vS x0=some r):CO 38 [.d (.o 0 0)] (.box 80 (zb x0.An [.os 1,.os 2,.os 3,.os 4,.os 5,.os 6])::zp x0.Aq [v1_ x0.goal,v2_ x0.acts]) (.tup []) (.box 80 (zb r.An [.os 7,.os 8,.os 9,.os 10,.os 11,.os 12]) :: .non :: .non :: .non :: .non :: .non :: .non::zp r.Aq [v1_ r.goal,v2_ r.acts]):=by
 unfold vS at h
 refine co 62 Tryz.func38 λ C hC=>?_
 refine ws J_ 23 [] [] [.mv 1,.mv 2,.mv 3,.mv 4,.mv 5,.mv 6] 7 Df (Yj x0 (0,zt x0.An (zu x0.Aq (x0.goal,x0.acts)))) (Aap (0,zt x0.An (zu x0.Aq (x0.goal,x0.acts)))) hC [] ?_
 obtain⟨w0,hm0,hret0,hnext0⟩:=Av h
 clear h
 refine wc w0 (Agt) (Ajj) ?_ λ z0 hs0=>?_
 ·refine wb ?_
  refine ww (Yj x0) (Aap) hm0 λ z0 w0b h hb0 hr0=>?_
  unfold Zx at h
  rcases cB h with⟨h1,h⟩ | ⟨h1,h⟩
  ·refine ws J_ 32 [true] [pl q98 (g3_ z0)] [] 7 Df (Rg x0 z0 (0,z0.2.1,z0.2.2.1,(g3_ z0),(g4_ z0),(g5_ z0),(g6_ z0),(g7_ z0),(g8_ z0),(g9_ z0),(Ct z0),(Pv z0),(Ll z0))) (Xl (0,z0.2.1,z0.2.2.1,(g3_ z0),(g4_ z0),(g5_ z0),(g6_ z0),(g7_ z0),(g8_ z0),(g9_ z0),(Ct z0),(Pv z0),(Ll z0))) hC [pq h1] ?_
   obtain⟨w1,hm1,hret1,hnext1⟩:=Av h
   clear h
   refine wc w1 (Ags x0 z0) (Aji) ?_ λ z1 hs1=>?_
   ·refine wb ?_
    refine ww (Rg x0 z0) (Xl) hm1 λ z1 w1b h hb1 hr1=>?_
    unfold Zw at h
    rcases cB h with⟨h2,h⟩ | ⟨h2,h⟩
    ·obtain⟨y3,h4,y5,h6,y7,h8,y9,h10,h⟩:=Dd h
     refine wn J_ 34 [true] [pc e56 (k56 (⟨z1.2.1,z1.2.2.1,(g3_ z1),(g4_ z1),(g5_ z1),(g6_ z1)⟩:Aa) z1.1 _ h4) [],pr q49 h6,pv e55 (λ hg=>k55 (⟨z1.2.1,z1.2.2.1,(g3_ z1),(g4_ z1),(g5_ z1),(g6_ z1)⟩:Aa) (⟨(g7_ z1),(g8_ z1),(g9_ z1),(Ct z1)⟩:Ab) z1.1 _ (A1 h8 hg)),pv Xc (λ hg=>W8 (⟨(⟨z1.2.1,z1.2.2.1,(g3_ z1),(g4_ z1),(g5_ z1),(g6_ z1)⟩:Aa),(⟨(g7_ z1),(g8_ z1),(g9_ z1),(Ct z1)⟩:Ab),(Pv z1),(Ll z1)⟩:Ay) z0.1 _ (A1 h10 hg))] [] 7 Df [0,2,4,9,10,18,19,56] hC [pq h2] ?_
     rcases cB h with⟨h11,h⟩ | ⟨h11,h⟩
     ·obtain⟨y12,h13,h⟩:=Aw h
      exact wx w1b (Rg x0 z0) (Xl) J_ 25 [true] [pc Aed (Aec (⟨(⟨z1.2.1,z1.2.2.1,(g3_ z1),(g4_ z1),(g5_ z1),(g6_ z1)⟩:Aa),(⟨(g7_ z1),(g8_ z1),(g9_ z1),(Ct z1)⟩:Ab),(Pv z1),(Ll z1)⟩:Ay) 1 y3 _ h13) [0,7,8,9,10,11,12]] [] 7 [0,1,2,3,4,5,6,7,8,9,10,11,13] _ hC [pq h11] (sI h).symm
     ·exact wx w1b (Rg x0 z0) (Xl) J_ 25 [false] [] [] 7 Df _ hC [pq h11] (sI h).symm
    ·exact wx w1 (Ags x0 z0) (Aji) J_ 26 [false] [] [] 7 Df (z1.1,z1.2.1,z1.2.2.1,(g3_ z1),(g4_ z1),(g5_ z1),(g6_ z1),(g7_ z1),(g8_ z1),(g9_ z1),(Ct z1),(Pv z1),(Ll z1)) hC [pq h2] (hb1 _ (sI h).symm)
   ·have h:=hnext1 _ hs1
    exact wx w0b (Yj x0) (Aap) J_ 23 [] [] [] 7 Df _ hC [] (sI h).symm
  ·exact wx w0 (Agt) (Ajj) J_ 26 [false] [] [] 7 Df (z0.1,z0.2.1,z0.2.2.1,(g3_ z0),(g4_ z0),(g5_ z0),(g6_ z0),(g7_ z0),(g8_ z0),(g9_ z0),(Ct z0),(Pv z0),(Ll z0)) hC [pq h1] (hb0 _ (sI h).symm)
 ·have h:=hnext0 _ hs0
  replace h:=sI h
  subst h
  exact wf J_ 20 [] [] [] 7 Df hC []
theorem A75:EN 38:=en Tryz.func38
def Qg:List Nat:=[0,2,3,4,5,10,11,12,13,63]
def Yi (x0:Ay) (n0:Nat) (z0:Unit):St:=[(0,.d (.ip [.v (.int .i64 x0.An.Al),.s (x0.An.Ad.map q49),.s (x0.An.Ac.map q98),.s (x0.An.Af.map q90),.v (.int .i64 x0.An.Phase),.v (.int .i64 x0.An.Ar),.s (x0.Aq.Ae.map pB),.s (x0.Aq.Ac.map q87),.s (x0.Aq.Am.map pI),.s (x0.Aq.Ai.map q92),.s (x0.goal.map pB),.s (x0.acts.map q47)])),(2,dI 0),(3,dB false),(10,.d (DS q49 x0.An.Ad)),(11,dI (ln x0.An.Ad)),(12,dI (cnt 0 n0))]
def Aao  (n0:Nat) (z0:Unit):List Res:=[]
def Agr  (z0:Unit):St:=[(2,dI 0),(3,dB false)]
def Ajh  (z0:Unit):List Res:=[]
theorem A7o (x0:Ay) (r:Int×Bool) (h:vR x0=some r):CO 39 [.d (.ip [.v (.int .i64 x0.An.Al),.s (x0.An.Ad.map q49),.s (x0.An.Ac.map q98),.s (x0.An.Af.map q90),.v (.int .i64 x0.An.Phase),.v (.int .i64 x0.An.Ar),.s (x0.Aq.Ae.map pB),.s (x0.Aq.Ac.map q87),.s (x0.Aq.Am.map pI),.s (x0.Aq.Ai.map q92),.s (x0.goal.map pB),.s (x0.acts.map q47)])] [] (.tup [.d (I r.1),.d (Bo r.2)]) []:=by
 unfold vR at h
 refine co 66 Tryz.func39 λ C hC=>?_
 refine ws Qg 26 [] [pl q49 x0.An.Ad] [] 0 [] (Yi x0 0 ()) (Aao 0 ()) hC [] ?_
 obtain⟨w0,hm0,hret0,hnext0⟩:=Av h
 clear h
 refine wc w0 (Agr) (Ajh) ?_ λ z0 hs0=>?_
 ·refine wb ?_
  refine Bq 10 rfl λ hl0=>?_
  refine wl (Yi x0) (Aao) hm0 (λ z0 hn0=>?_) λ n0 a0 z0 w0b hi0 hx0 h hb0 hr0=>?_
  ·clear hm0
   exact wx w0 (Agr) (Ajh) Qg 26 [false] [] [] 0 [] _ hC [pq (A6 hl0)] hn0
  ·unfold Zv at h
   obtain⟨y1,h2,y3,h4,y5,h6,h⟩:=By h
   obtain⟨y7,h8,y9,h10,h⟩:=A9 h
   refine wn Qg 32 [true] [pt hx0 hl0,pR pB h2,pw e57 (λ hg=>k57 x0.An x0.Aq (cnt 0 n0) _ (A1 h4 hg)) [],pR pB h6,pw Xc (λ hg=>W8 x0 a0.A _ (A1 h8 hg)) [],pw Xc (λ hg=>W8 x0 a0.B _ (A1 h10 hg)) []] [] 0 [] [0,2,3,4,10,11,12,63] hC [pq (A4 hi0 hl0)] ?_
   rcases cB h with⟨h11,h⟩ | ⟨h11,h⟩
   ·have hq:=hret0 _ (hr0 _ (sI h).symm)
    replace hq:=sI hq
    subst hq
    exact wr Qg 24 [true] [] [] 0 [] hC [pq h11]
   ·exact wx w0b (Yi x0 (n0+1)) (Aao (n0+1)) Qg 25 [false] [] [] 0 [] _ hC [pq h11] (sI h).symm
 ·have h:=hnext0 _ hs0
  replace h:=sI h
  subst h
  exact wr Qg 23 [] [] [] 0 [] hC []
theorem A74:EN 39:=en Tryz.func39
def Hn:List Nat:=[0,1,3,5,6,7,13,14,15,37,42,43,44,45,77,109]
def Aan  (z0:Sg6):List Res:=[.box 80 [I z0.1,DS q49 z0.2.1,DS q98 z0.2.2.1,DS q90 (g3_ z0),I (g4_ z0),I (g5_ z0),.os 9,.os 10,.os 11,.os 12,.os 13,.os 14],.non,.non,.non,.non,.non,.non,.box 77 [.o 0 0],.non,v1_ (g6_ z0),v4_ (g7_ z0),v0_ (g8_ z0),v3_ (g9_ z0),v1_ (Ct z0),v2_ (Dc z0)]
def Yh (z0:Sg6) (a0:(Int×Int)) (n1:Nat) (z1:Sg6):St:=[(1,dO 7 0),(3,dI a0.2),(42,.d (DS q49 z0.2.1)),(43,dI (ln z0.2.1)),(44,dI (cnt 0 n1))]
def Aam  (n1:Nat) (z1:Sg6):List Res:=[.box 80 [I z1.1,DS q49 z1.2.1,DS q98 z1.2.2.1,DS q90 (g3_ z1),I (g4_ z1),I (g5_ z1),.os 9,.os 10,.os 11,.os 12,.os 13,.os 14],.non,.non,.non,.non,.non,.non,.box 77 [.o 0 0],.non,v1_ (g6_ z1),v4_ (g7_ z1),v0_ (g8_ z1),v3_ (g9_ z1),v1_ (Ct z1),v2_ (Dc z1)]
def Ru  (z1:Sg6):St:=[]
def S5  (z1:Sg6):List Res:=[.box 80 [I z1.1,DS q49 z1.2.1,DS q98 z1.2.2.1,DS q90 (g3_ z1),I (g4_ z1),I (g5_ z1),.os 9,.os 10,.os 11,.os 12,.os 13,.os 14],.non,.non,.non,.non,.non,.non,.box 77 [.o 0 0],.non,v1_ (g6_ z1),v4_ (g7_ z1),v0_ (g8_ z1),v3_ (g9_ z1),v1_ (Ct z1),v2_ (Dc z1)]
theorem A7n (x0:Ay) (r:Ay) (h:vQ x0=some r):CO 41 [.d (.o 0 0)] (.box 80 (zb x0.An [.os 1,.os 2,.os 3,.os 4,.os 5,.os 6])::zp x0.Aq [v1_ x0.goal,v2_ x0.acts]) (.tup []) (.box 80 (zb r.An [.os 7,.os 8,.os 9,.os 10,.os 11,.os 12]) :: .non :: .non :: .non :: .non :: .non :: .non::zp r.Aq [v1_ r.goal,v2_ r.acts]):=by
 unfold vQ at h
 refine co 114 Tryz.func41 λ C hC=>?_
 obtain⟨y3,h4,h⟩:=Aw h
 refine ws Hn 26 [] [⟨.call 85 [.agg (d29 x0.An)] [] (.d (DS pI y3)) [.non] [],⟨e85,(CallOk.frzAll [0] (show CO 85 [.agg (d29 x0.An)] [] (dS 0) [v0_ y3] from (k85 x0.An _ h4)) (by kernel_rfl))⟩⟩,pc e84 (k84 y3) []] [.mv 1,.mv 2,.mv 3,.mv 4,.mv 5,.mv 6] 7 [0,1,2,3,4,5,6,7,9,10,11,12,13,14,15] [(1,dO 7 0),(13,.d (.fn (.func 131) [] [.o 8 0]))] (.box 80 (zb x0.An [.os 9,.os 10,.os 11,.os 12,.os 13,.os 14]) :: .non :: .non :: .non :: .non :: .non :: .non :: .box 77 [.o 0 0] :: .box 22 [DS pI y3]::zp x0.Aq [v1_ x0.goal,v2_ x0.acts]) hC [] ?_
 obtain⟨w0,hm0,hret0,hnext0⟩:=Av h
 clear h
 refine A0o (by kernel_rfl) (t:=13) (d:=3) (p:=15) (gf:=131) (j:=8) (ty:=22) Xg (bw y3) Ti (Aan) (λ _=>[]) w0 (zt x0.An (zu x0.Aq (x0.goal,x0.acts))) (λ a0=>dI a0.2) hm0 (A3n y3) (by kernel_rfl) (by kernel_rfl) (by kernel_rfl) (by kernel_rfl) (by kernel_rfl) [(1,dO 7 0)] (by kernel_rfl) (by kernel_rfl) (A8c (a:=14) (b:=15) (by kernel_rfl)) (A6u 14 15 (by kernel_rfl) (by decide) (by decide)) (by decide) rfl (dn rfl) 9 (by kernel_rfl) (aC hC (bx rfl)) (λ C2 z0 hh hup2 hs0=>?_) (λ C2 v41s1_0 hh hup2 hr0 a w hsR=>?_) (λ l C' a0 z0 w0b hlen hdf h hkr=>?_)
 ·have hC:C2.h.length<=7:=by rw [hh];exact hC
  have h:=hnext0 _ hs0
  replace h:=sI h
  subst h
  exact Ant (bs:=[]) Jg Hn 21 [] [] [] [] 7 [0,1,2,3,4,5,6,9,10,11,12,13,14] rfl hC trivial trivial (by kernel_rfl) (by kernel_rfl) hup2
 ·exact absurd (hret0 _ hr0) (by simp)
 ·have hC : C'.h.length <= 9 := hlen
  unfold Ti at h
  obtain⟨y5,h6,y7,h8,h⟩:=A9 h
  refine wn Hn 27 [] [pb e86 (k86 (⟨z0.1,z0.2.1,z0.2.2.1,(g3_ z0),(g4_ z0),(g5_ z0)⟩:Aa) (⟨(g6_ z0),(g7_ z0),(g8_ z0),(g9_ z0)⟩:Ab) a0.2 _ h6),pv e76 (λ hg=>k76 (⟨(g6_ z0),(g7_ z0),(g8_ z0),(g9_ z0)⟩:Ab) 4 a0.2 _ (A1 h8 hg))] [] 9 Eo [1,3,37] hC [] ?_
  rcases cB h with⟨h9,h⟩ | ⟨h9,h⟩
  ·exact wx w0b (λ _=>[]) (Aan) Hn 23 [true] [] [] 9 Eo _ hC [pq h9] (sI h).symm
  ·refine ws Hn 25 [false] [pl q49 z0.2.1] [] 9 Eo (Yh z0 a0 0 (z0.1,z0.2.1,z0.2.2.1,(g3_ z0),(g4_ z0),(g5_ z0),(g6_ z0),(g7_ z0),(g8_ z0),(g9_ z0),(Ct z0),(Dc z0))) (Aam 0 (z0.1,z0.2.1,z0.2.2.1,(g3_ z0),(g4_ z0),(g5_ z0),(g6_ z0),(g7_ z0),(g8_ z0),(g9_ z0),(Ct z0),(Dc z0))) hC [pq h9] ?_
   obtain⟨w1,hm1,hret1,hnext1⟩:=Av h
   clear h
   refine wc w1 (Ru) (S5) ?_ λ z1 hs1=>?_
   ·refine wb ?_
    refine Bq 42 rfl λ hl1=>?_
    refine wl (Yh z0 a0) (Aam) hm1 (λ z1 hn1=>?_) λ n1 a1 z1 w1b hi1 hx1 h hb1 hr1=>?_
    ·clear hm1
     exact wx w1 (Ru) (S5) Hn 26 [false] [] [] 9 Eo _ hC [pq (A6 hl1)] hn1
    ·unfold Zu at h
     obtain⟨y10,h11,y12,h13,h⟩:=A9 h
     refine wn Hn 33 [true] [pt hx1 hl1,pv e57 (λ hg=>k57 (⟨z1.1,z1.2.1,z1.2.2.1,(g3_ z1),(g4_ z1),(g5_ z1)⟩:Aa) (⟨(g6_ z1),(g7_ z1),(g8_ z1),(g9_ z1)⟩:Ab) (cnt 0 n1) _ (A1 h11 hg)),pv Xc (λ hg=>W8 (⟨(⟨z1.1,z1.2.1,z1.2.2.1,(g3_ z1),(g4_ z1),(g5_ z1)⟩:Aa),(⟨(g6_ z1),(g7_ z1),(g8_ z1),(g9_ z1)⟩:Ab),(Ct z1),(Dc z1)⟩:Ay) a1.A _ (A1 h13 hg))] [] 9 Nw [1,3,6,7,42,43,44,77] hC [pq (A4 hi1 hl1)] ?_
     rcases cB h with⟨h14,h⟩ | ⟨h14,h⟩
     ·exact wx w1b (Yh z0 a0 (n1+1)) (Aam (n1+1)) Hn 24 [true] [] [] 9 Eo _ hC [pq h14] (sI h).symm
     ·obtain⟨y15,h16,y17,h18,y19,h20,h⟩:=By h
      refine wn Hn 26 [false] [pb e87 (k87 (⟨z1.1,z1.2.1,z1.2.2.1,(g3_ z1),(g4_ z1),(g5_ z1)⟩:Aa) (⟨(g6_ z1),(g7_ z1),(g8_ z1),(g9_ z1)⟩:Ab) a1.A _ h16),pr pI h18,pn pI h18,pb e88 (k88 (⟨z1.1,z1.2.1,z1.2.2.1,(g3_ z1),(g4_ z1),(g5_ z1)⟩:Aa) (⟨(g6_ z1),(g7_ z1),(g8_ z1),(g9_ z1)⟩:Ab) a1.A _ h20)] [] 9 Eo [1,3,6,42,43,44,109] hC [pq h14] ?_
      rcases cB h with⟨h21,h⟩ | ⟨h21,h⟩
      ·obtain⟨y22,h23,h⟩:=Aw h
       exact wx w1 (Ru) (S5) Hn 24 [true] [pc Aed (Aec (⟨(⟨z1.1,z1.2.1,z1.2.2.1,(g3_ z1),(g4_ z1),(g5_ z1)⟩:Aa),(⟨(g6_ z1),(g7_ z1),(g8_ z1),(g9_ z1)⟩:Ab),(Ct z1),(Dc z1)⟩:Ay) 1 (cnt 0 n1) _ h23) [0,9,10,11,12,13,14]] [] 9 [0,1,2,3,4,5,6,7,8,9,10,11,12,13,15] (zt y22.An (zu y22.Aq (y22.goal,y22.acts))) hC [pq h21] (hb1 _ (sI h).symm)
      ·exact wx w1 (Ru) (S5) Hn 24 [false] [] [] 9 Eo (z1.1,z1.2.1,z1.2.2.1,(g3_ z1),(g4_ z1),(g5_ z1),(g6_ z1),(g7_ z1),(g8_ z1),(g9_ z1),(Ct z1),(Dc z1)) hC [pq h21] (hb1 _ (sI h).symm)
   ·have h:=hnext1 _ hs1
    exact wx w0b (λ _=>[]) (Aan) Hn 22 [] [] [] 9 Eo _ hC [] (sI h).symm
theorem A73:EN 41:=en Tryz.func41
def O5:List Nat:=[0,1,2,3,4,6,7,8,9,11,15,19,29,66]
theorem A8t (x0:Aa) (x1:Ab) (x2:Int) (r:Int) (h:Tr x0 x1 x2=some r):CO 142 [.agg (d29 x0),.agg (d34 x1),.d (I x2)] [] (.d (I r)) []:=by
 unfold Tr at h
 refine co 67 Tryz.func142 λ C hC=>?_
 obtain⟨y1,h2,h⟩:=Aw h
 refine wn O5 29 [] [pc e44 (k44 x0 x1 _ h2) []] [] 0 [0,1] [2,3,4,6,7,15] hC [] ?_
 rcases cB h with⟨h3,h⟩ | ⟨h3,h⟩
 ·replace h:=sI h
  subst h
  exact wr O5 24 [true] [] [] 0 [] hC [pq h3]
 ·rcases cB h with⟨h4,h⟩ | ⟨h4,h⟩
  ·replace h:=sI h
   subst h
   exact wr O5 27 [false,true] [pL_ [(decide (x2<0),false)] q49 x0.Ad] [] 0 [] hC [pq h3,pq h4]
  ·obtain⟨y5,h6,h⟩:=Aw h
   refine wn O5 27 [false,false] [pL_ [(decide (x2<0),false)] q49 x0.Ad,pc A9c (A8n x0 x1 x2 _ h6) []] [] 0 [0,1] [2,3,4,6,29] hC [pq h3,pq h4] ?_
   rcases cB h with⟨h7,h⟩ | ⟨h7,h⟩
   ·replace h:=sI h
    subst h
    exact wr O5 24 [true] [] [] 0 [] hC [pq h7]
   ·obtain⟨y8,h9,y10,h11,y12,h13,y14,h15,h⟩:=Dd h
    refine wn O5 33 [false] [pr q49 h9,pc Aae (zT x0 x1 y8.A _ h11) [],pw e59 (λ hg=>k59 y10.1.Al y8.B _ (A1 h13 hg)) [],pw A9b (λ hg=>A8m x0 x1 y8 _ (A1 h15 hg)) []] [] 0 [] [6,66] hC [pq h7] ?_
    rcases cB h with⟨h16,h⟩ | ⟨h16,h⟩
    ·replace h:=sI h
     subst h
     exact wr O5 24 [true] [] [] 0 [] hC [pq h16]
    ·replace h:=sI h
     subst h
     exact wr O5 25 [false] [] [] 0 [] hC [pq h16]
theorem A9i:EN 142:=en Tryz.func142
theorem k7 (x0:Au) (r:Aa×Ab×Au) (h:F7 x0=some r):CO 7 [.d (.o 0 0)] [.box 70 (d70 x0)] (.tup [.agg [I r.1.Al,.os 1,.os 2,.os 3,I r.1.Phase,I r.1.Ar],.agg [.os 4,.os 5,.os 6,.os 7]]) (.box 70 (d70 r.2.2)::zs r.1 (zp r.2.1 [])):=by
 unfold F7 at h
 refine co 21 Tryz.func7 λ C hC=>?_
 obtain⟨y1,h2,y3,h4,y5,h6,h⟩:=By h
 replace h:=sI h
 subst h
 exact wr [0,2,3,4,5] 29 [] [pc e28 (k28 x0 _ h2) [0],⟨.flts [.box 34 [.p (.v (.slice none 0 0)),.p (.v (.slice none 0 0)),.p (.v (.slice none 0 0)),.p (.v (.slice none 0 0))]],trivial⟩,pc A78 (A7s y1.2 y1.1 _ h4) [0,3,4,5],⟨.call 29 [.agg [I y1.1.Al,.os 0,.os 1,.os 2,I y1.1.Phase,I y1.1.Ar],.agg [.os 3,.os 4,.os 5,.os 6]] (zs y1.1 (zp y3.1 [])) (.tup [.agg [.os 7,.os 8,.os 9,.os 10],dS 11,dI y5.2.2]) (zs y1.1 (zp y3.1 (zp y5.1 [v2_ y5.2.1]))) [3,4,5,8,9,10,11],⟨e29,((k29 y1.1 y3.1 _ h6).lend (by kernel_rfl) (by kernel_rfl) (by kernel_rfl) ⟨Bh (λ _=>rfl),Bh (λ _=>rfl),Bh (λ _=>rfl),Bh (λ _=>rfl),Bh (λ _=>rfl),trivial⟩ (by kernel_rfl) (by kernel_rfl))⟩⟩,⟨.flt 7 (.box 34 [.p (.v (.slice none 0 0)),.p (.v (.slice none 0 0)),.p (.v (.slice none 0 0)),.p (.v (.slice none 0 0))]) (.box 34 [.p (.v (.slice none 0 0)),.p (.v (.slice none 0 0)),.p (.v (.slice none 0 0)),.p (.v (.slice none 0 0))]),rfl⟩] [] 1 [0,3,4,5,12,13,14,15] hC []
theorem e7:EN 7:=en Tryz.func7
theorem A7j (x0:Ax) (r:Ax) (h:vO x0=some r):CO 70 [.d (.o 0 0)] (.box 147 (zb x0.An [.os 1,.os 2,.os 3,.os 4,.os 5])::zp x0.Aq [v2_ x0.acts]) (.tup []) (.box 147 (zb r.An [.os 6,.os 7,.os 8,.os 9,.os 10]) :: .non :: .non :: .non :: .non :: .non::zp r.Aq [v2_ r.acts]):=by
 unfold vO at h
 refine co 24 Tryz.func70 λ C hC=>?_
 obtain⟨y1,h2,y3,h4,y5,h6,h⟩:=By h
 replace h:=sI h
 subst h
 exact wf [0,1] 27 [] [pc A6d (A45 x0 _ h2) n6_,pc A6c (A44 y1 _ h4) [0,7,8,9,10,11,6],⟨.call 123 [.agg (d29 y3.An),.agg [.os 0,.os 1,.os 2,.os 3]] (zp y3.Aq []) (.tup [.agg [.os 4,.os 5,.os 6,.os 7],dI y5.2]) (zp y3.Aq (zp y5.1 [])) [12,13,14,15],⟨A58,((A40 y3.An y3.Aq _ h6).lend (by kernel_rfl) (by kernel_rfl) (by kernel_rfl) ⟨Bh (λ _=>rfl),Bh (λ _=>rfl),Bh (λ _=>rfl),Bh (λ _=>rfl),trivial⟩ (by kernel_rfl) (by kernel_rfl))⟩⟩] [] 6 [0,1,2,3,4,5,17,18,19,20,16] hC []
theorem A7z:EN 70:=en Tryz.func70
def Qf:List Nat:=[0,2,4,5,19,20,21,22,32]
def Rf (y3:(List Aj)) (n0:Nat) (z0:Sg7):St:=[(0,dO 0 0),(2,dS 6),(19,dS 7),(20,dI (ln y3)),(21,dI (cnt 0 n0))]
def Xk (y1:(List Int)) (y3:(List Aj)) (n0:Nat) (z0:Sg7):List Res:=[.box 147 [I z0.1,DS q49 z0.2.1,DS q98 z0.2.2.1,DS q90 (g3_ z0),I (g4_ z0),I (g5_ z0),.os 8,.os 9,.os 10,.os 11,.os 12],.non,.non,.non,.non,.non,v0_ y1,v5_ y3,v1_ (g6_ z0),v4_ (g7_ z0),v0_ (g8_ z0),v3_ (g9_ z0),v2_ (Gu z0)]
def Ago  (z0:Sg7):St:=[]
def Aje  (z0:Sg7):List Res:=[.box 147 [I z0.1,DS q49 z0.2.1,DS q98 z0.2.2.1,DS q90 (g3_ z0),I (g4_ z0),I (g5_ z0),.os 6,.os 7,.os 8,.os 9,.os 10],.non,.non,.non,.non,.non,v1_ (g6_ z0),v4_ (g7_ z0),v0_ (g8_ z0),v3_ (g9_ z0),v2_ (Gu z0)]
theorem A7i (x0:Ax) (r:Ax) (h:Xr x0=some r):CO 71 [.d (.o 0 0)] (.box 147 (zb x0.An [.os 1,.os 2,.os 3,.os 4,.os 5])::zp x0.Aq [v2_ x0.acts]) (.tup []) (.box 147 (zb r.An [.os 6,.os 7,.os 8,.os 9,.os 10]) :: .non :: .non :: .non :: .non :: .non::zp r.Aq [v2_ r.acts]):=by
 unfold Xr at h
 refine co 48 Tryz.func71 λ C hC=>?_
 obtain⟨y1,h2,y3,h4,h⟩:=A9 h
 refine ws Qf 25 [] [pc e85 (k85 x0.An _ h2) [],pc A56 (A4y x0.An x0.Aq _ h4) [1,2,3,4],pl q62 y3] [.mv 1,.mv 2,.mv 3,.mv 4,.mv 5] 6 Df (Rf y3 0 (zt x0.An (zu x0.Aq x0.acts))) (Xk y1 y3 0 (zt x0.An (zu x0.Aq x0.acts))) hC [] ?_
 obtain⟨w0,hm0,hret0,hnext0⟩:=Av h
 clear h
 refine wc w0 (Ago) (Aje) ?_ λ z0 hs0=>?_
 ·refine wb ?_
  refine B2 19 7 rfl rfl λ hl0=>?_
  refine wl (Rf y3) (Xk y1 y3) hm0 (λ z0 hn0=>?_) λ n0 a0 z0 w0b hi0 hx0 h hb0 hr0=>?_
  ·clear hm0
   exact wx w0 (Ago) (Aje) Qf 26 [false] [] [] 6 [0,1,2,3,4,5,8,9,10,11,12] _ hC [pq (A6 hl0)] hn0
  ·unfold Zt at h
   obtain⟨y5,h6,y7,h8,h⟩:=A9 h
   refine wn Qf 34 [true] [pr q62 (Bd hx0 hl0),pn q62 (Bd hx0 hl0),⟨.call 80 [dS 0] [v0_ y1] (dS 1) [v0_ y1,v0_ y5] [6],⟨e80,((k80 y1 _ h6).lend (by kernel_rfl) (by kernel_rfl) (by kernel_rfl) ⟨Bh (λ _=>rfl),trivial⟩ (by kernel_rfl) (by kernel_rfl))⟩⟩,pc A55 (A4x y5 a0 _ h8) [14,13],pl pI y7.2.Ac] [] 6 [0,1,2,3,4,5,6,7,8,9,10,11,12,13,15] [0,2,4,5,19,20,21,32] hC [pq (A4 hi0 hl0)] ?_
   rcases cB h with⟨h9,h⟩ | ⟨h9,h⟩
   ·obtain⟨y10,h11,y12,h13,y14,h15,y16,h17,h⟩:=Dd h
    exact wx w0b (Rf y3 (n0+1)) (Xk y1 y3 (n0+1)) Qf 27 [true] [pr pI h11,pc A54 (A4w (⟨(⟨z0.1,z0.2.1,z0.2.2.1,(g3_ z0),(g4_ z0),(g5_ z0)⟩:Aa),(⟨(g6_ z0),(g7_ z0),(g8_ z0),(g9_ z0)⟩:Ab),(Gu z0)⟩:Ax) y7.1 y10 _ h13) [0,8,9,10,11,12,14],pr pI h15,pc A53 (A4v y12 y7.1 y14 _ h17) [0,15,16,17,18,19,14]] [] 6 [0,1,2,3,4,5,6,7,20,21,22,23,24] _ hC [pq h9] (sI h).symm
   ·exact wx w0b (Rf y3 (n0+1)) (Xk y1 y3 (n0+1)) Qf 25 [false] [] [] 6 Df _ hC [pq h9] (sI h).symm
 ·have h:=hnext0 _ hs0
  replace h:=sI h
  subst h
  exact wf Qf 20 [] [] [] 6 Ao4 hC []
theorem A7y:EN 71:=en Tryz.func71
def Apc:List Nat:=[0,1,2,3,4,6,7,8,9,15]
theorem A82 (x0:Aa) (x1:Ab) (x2:Int) (r:Ab×Int) (h:P3 x0 x1 x2=some r):CO 109 [.agg (d29 x0),.agg (d34 x1),.d (I x2)] [] (.tup [.agg [.os 0,.os 1,.os 2,.os 3],.d (I r.2)]) (zp r.1 []):=by
 unfold P3 at h
 refine co 29 Tryz.func109 λ C hC=>?_
 obtain⟨y1,h2,h⟩:=Aw h
 refine wn Apc 28 [] [pc A9i (A8t x0 x1 x2 _ h2) []] [.ownb 2 0 4 1,.ownb 2 1 87 4,.ownb 2 2 3 1,.ownb 2 3 92 2] 0 n7_ [2,3,4,6,7,8,15] hC [] ?_
 rcases cB h with⟨h3,h⟩ | ⟨h3,h⟩
 ·replace h:=sI h
  subst h
  exact wr Apc 24 [true] [] [.ownb 2 0 4 1,.ownb 2 1 87 4,.ownb 2 2 3 1,.ownb 2 3 92 2] 0 [7,8,9,10] hC [pq h3]
 ·obtain⟨y4,h5,y6,h7,y8,h9,y10,h11,h⟩:=Dd h
  replace h:=sI h
  subst h
  exact wr Apc 29 [false] [pc e35 (k35 x1 _ h5) [],pr pB h7,pu pB h7 h9,⟨.call 123 [.agg (d29 x0),.agg [.os 0,.os 1,.os 2,.os 3]] [v1_ y8,v4_ y4.Ac,v0_ y4.Am,v3_ y4.Ai] (.tup [.agg [.os 4,.os 5,.os 6,.os 7],dI y10.2]) (v1_ y8::v4_ y4.Ac::v0_ y4.Am::v3_ y4.Ai::zp y10.1 []) [7,8,9,10],⟨A58,((A40 x0 (⟨y8,y4.Ac,y4.Am,y4.Ai⟩:Ab) _ h11).lend (by kernel_rfl) (by kernel_rfl) (by kernel_rfl) ⟨Bh (λ _=>rfl),Bh (λ _=>rfl),Bh (λ _=>rfl),Bh (λ _=>rfl),trivial⟩ (by kernel_rfl) (by kernel_rfl))⟩⟩] [] 0 [12,13,14,15] hC [pq h3]
theorem A9r:EN 109:=en Tryz.func109
theorem A7k (x0:Ax) (r:Ax) (h:Ae6 x0=some r):CO 69 [.d (.o 0 0)] (.box 147 (zb x0.An [.os 1,.os 2,.os 3,.os 4,.os 5])::zp x0.Aq [v2_ x0.acts]) (.tup []) (.box 147 (zb r.An [.os 6,.os 7,.os 8,.os 9,.os 10]) :: .non :: .non :: .non :: .non :: .non::zp r.Aq [v2_ r.acts]):=by
 unfold Ae6 at h
 refine co 6 Tryz.func69 λ C hC=>?_
 obtain⟨y1,h2,y3,h4,h⟩:=A9 h
 replace h:=sI h
 subst h
 exact wf [0] 23 [] [pc A7z (A7j x0 _ h2) n6_,pc A7y (A7i y1 _ h4) [0,6,7,8,9,10]] [] 6 [0,1,2,3,4,5,11,12,13,14,15] hC []
theorem A70:EN 69:=en Tryz.func69
def Lz:List Nat:=[0,1,3,4,6,17,36,55,76,82,88,96]
theorem A7m (x0 : A0) (x1 : Ak) (r : Int × A0) (h : Kn x0 x1 = some r) : CO 63 [.d (.o 0 0), .agg (d47 x1)] (.box 107 (zb x0.An [.os 1, .os 2, .os 3, .os 4, I x0.time]) :: zp x0.Aq []) (.d (I r.1)) (.box 107 (zb r.2.An [.os 5, .os 6, .os 7, .os 8, I r.2.time]) :: .non :: .non :: .non :: .non :: zp r.2.Aq []) := by
 unfold Kn at h
 refine co 101 Tryz.func63 λ C hC=>?_
 rcases cB h with⟨h1,h⟩ | ⟨h1,h⟩
 ·obtain⟨y2,h3,h⟩:=Aw h
  replace h:=sI h
  subst h
  exact wr Lz 34 [true] [⟨.call 109 [.agg (d29 x0.An),.agg [.os 0,.os 1,.os 2,.os 3],dI x1.Unit] (zp x0.Aq []) (.tup [.agg [.os 4,.os 5,.os 6,.os 7],dI y2.2]) (zp x0.Aq (zp y2.1 [])) [1,2,3,4],⟨A9r,((A82 x0.An x0.Aq x1.Unit _ h3).lend (by kernel_rfl) (by kernel_rfl) (by kernel_rfl) ⟨Bh (λ _=>rfl),Bh (λ _=>rfl),Bh (λ _=>rfl),Bh (λ _=>rfl),trivial⟩ (by kernel_rfl) (by kernel_rfl))⟩⟩] [.frz 1,.frz 2,.frz 3,.frz 4] 5 [0,1,2,3,4,6,7,8,9] hC [pq h1]
 ·rcases cB h with⟨h4,h⟩ | ⟨h4,h⟩
  ·obtain⟨y5,h6,h⟩:=Aw h
   replace h:=sI h
   subst h
   exact wr Lz 37 [false,true] [⟨.call 110 [.agg (d29 x0.An),.agg [.os 0,.os 1,.os 2,.os 3],dI x1.Unit] (zp x0.Aq []) (.tup [.agg [.os 4,.os 5,.os 6,.os 7],dI y5.2]) (zp x0.Aq (zp y5.1 [])) [1,2,3,4],⟨A9q,((A81 x0.An x0.Aq x1.Unit _ h6).lend (by kernel_rfl) (by kernel_rfl) (by kernel_rfl) ⟨Bh (λ _=>rfl),Bh (λ _=>rfl),Bh (λ _=>rfl),Bh (λ _=>rfl),trivial⟩ (by kernel_rfl) (by kernel_rfl))⟩⟩] [.frz 1,.frz 2,.frz 3,.frz 4] 5 [0,1,2,3,4,6,7,8,9] hC [pq h1,pq h4]
  ·rcases cB h with⟨h7,h⟩ | ⟨h7,h⟩
   ·obtain⟨y8,h9,h⟩:=Aw h
    replace h:=sI h
    subst h
    exact wr Lz 40 [false,false,true] [⟨.call 111 [.agg (d29 x0.An),.agg [.os 0,.os 1,.os 2,.os 3],dI x1.Unit,dI x1.Value] (zp x0.Aq []) (.tup [.agg [.os 4,.os 5,.os 6,.os 7],dI y8.2]) (zp x0.Aq (zp y8.1 [])) [1,2,3,4],⟨A9p,((A80 x0.An x0.Aq x1.Unit x1.Value _ h9).lend (by kernel_rfl) (by kernel_rfl) (by kernel_rfl) ⟨Bh (λ _=>rfl),Bh (λ _=>rfl),Bh (λ _=>rfl),Bh (λ _=>rfl),trivial⟩ (by kernel_rfl) (by kernel_rfl))⟩⟩] [.frz 1,.frz 2,.frz 3,.frz 4] 5 [0,1,2,3,4,6,7,8,9] hC [pq h1,pq h4,pq h7]
   ·rcases cB h with⟨h10,h⟩ | ⟨h10,h⟩
    ·obtain⟨y11,h12,h⟩:=Aw h
     replace h:=sI h
     subst h
     exact wr Lz 43 [false,false,false,true] [pc A6i (A5a x0 x1.Unit _ h12) n5_] [.mv 1,.mv 2,.mv 3,.mv 4] 5 [0,1,2,3,4,6,7,8,9] hC [pq h1,pq h4,pq h7,pq h10]
    ·rcases cB h with⟨h13,h⟩ | ⟨h13,h⟩
     ·obtain⟨y14,h15,h⟩:=Aw h
      replace h:=sI h
      subst h
      exact wr Lz 46 [false,false,false,false,true] [pc A6h (A49 x0 x1.Unit _ h15) n5_] [.mv 1,.mv 2,.mv 3,.mv 4] 5 [0,1,2,3,4,6,7,8,9] hC [pq h1,pq h4,pq h7,pq h10,pq h13]
     ·rcases cB h with⟨h16,h⟩ | ⟨h16,h⟩
      ·obtain⟨y17,h18,h⟩:=Aw h
       replace h:=sI h
       subst h
       exact wr Lz 49 [false,false,false,false,false,true] [pc A6g (A48 x0 x1.Unit x1.Value _ h18) n5_] [.mv 1,.mv 2,.mv 3,.mv 4] 5 [0,1,2,3,4,6,7,8,9] hC [pq h1,pq h4,pq h7,pq h10,pq h13,pq h16]
      ·rcases cB h with⟨h19,h⟩ | ⟨h19,h⟩
       ·obtain⟨y20,h21,h⟩:=Aw h
        replace h:=sI h
        subst h
        exact wr Lz 52 [false,false,false,false,false,false,true] [pc A6f (A47 x0 _ h21) n5_] [] 5 [0,1,2,3,4,6,7,8,9] hC [pq h1,pq h4,pq h7,pq h10,pq h13,pq h16,pq h19]
       ·obtain⟨y22,h23,h⟩:=Aw h
        replace h:=sI h
        subst h
        exact wr Lz 52 [false,false,false,false,false,false,false] [pc A6e (A46 x0 (⟨x1.Value,x1.Unit⟩:As) (x1.Kind==8) _ h23) n5_] [] 5 [0,1,2,3,4,6,7,8,9] hC [pq h1,pq h4,pq h7,pq h10,pq h13,pq h16,pq h19]
theorem A72:EN 63:=en Tryz.func63
def qK:List Nat:=[0,1,2,3,4,6,7,8,9,10,15]
theorem A7l (x0:Aa) (x1:Ab) (r:Ab×(List Ak)×Int) (h:Ae7 x0 x1=some r):CO 68 [.agg (d29 x0),.agg (d34 x1),.d (.fn (.func 69) [] [])] [] (.tup [.agg [.os 0,.os 1,.os 2,.os 3],.d (.os 4),.d (I r.2.2)]) (zp r.1 [v2_ r.2.1]):=by
 unfold Ae7 at h
 refine co 34 Tryz.func68 λ C hC=>?_
 obtain⟨y1,h2,h⟩:=Aw h
 refine wn qK 28 [] [pc e44 (k44 x0 x1 _ h2) []] [.ownb 2 0 4 1,.ownb 2 1 87 4,.ownb 2 2 3 1,.ownb 2 3 92 2] 0 n7_ [2,3,4,6,7,8,9,15] hC [] ?_
 rcases cB h with⟨h3,h⟩ | ⟨h3,h⟩
 ·replace h:=sI h
  subst h
  exact wr qK 24 [true] [] [.ownb 2 0 4 1,.ownb 2 1 87 4,.ownb 2 2 3 1,.ownb 2 3 92 2,.own 7 47 3] 0 [7,8,9,10,11] hC [pq h3]
 ·obtain⟨y4,h5,h⟩:=Aw h
  refine wn qK 5 [false] [pc e35 (k35 x1 _ h5) []] [.ownb 11 10 47 3] 0 [2,3,4,5,6,7,8,9,10,11,12] [2,6,7,8,10] hC [pq h3] ?_
  obtain⟨y6,h7,h⟩:=Aw h
  replace h:=sI h
  subst h
  exact wr qK 24 [] [pc A70 (A7k (⟨x0,y4,([]:List Ak)⟩:Ax) _ h7) [9,5,6,7,8,10]] [] 0 [11,12,13,14,15] hC []
theorem A71:EN 68:=en Tryz.func68
def Yz:List Nat:=[0,1,2,3,4,5,7,8,9,10,11,12,16,21,39,55]
theorem k27 (x0:Aa) (x1:Ab) (x2:Int) (x3:Ak) (r:Ab×Int) (h:F27 x0 x1 x2 x3=some r):CO 27 [.agg (d29 x0),.agg (d34 x1),.d (I x2),.agg (d47 x3)] [] (.tup [.agg [.os 0,.os 1,.os 2,.os 3],.d (I r.2)]) (zp r.1 []):=by
 unfold F27 at h
 refine co 62 Tryz.func27 λ C hC=>?_
 obtain⟨y1,h2,h⟩:=Aw h
 refine wn Yz 29 [] [pc e44 (k44 x0 x1 _ h2) []] [.ownb 3 0 4 1,.ownb 3 1 87 4,.ownb 3 2 3 1,.ownb 3 3 92 2] 0 n8_ [2,4,5,7,8,9,10,16] hC [] ?_
 rcases cB h with⟨h3,h⟩ | ⟨h3,h⟩
 ·replace h:=sI h
  subst h
  exact wr Yz 24 [true] [] [.ownb 3 0 4 1,.ownb 3 1 87 4,.ownb 3 2 3 1,.ownb 3 3 92 2] 0 [8,9,10,11] hC [pq h3]
 ·rcases cB h with⟨h4,h⟩ | ⟨h4,h⟩
  ·replace h:=sI h
   subst h
   exact wr Yz 27 [false,true] [] [.ownb 3 0 4 1,.ownb 3 1 87 4,.ownb 3 2 3 1,.ownb 3 3 92 2] 0 [8,9,10,11] hC [pq h3,pq h4]
  ·obtain⟨y5,h6,h⟩:=Aw h
   rcases cB h with⟨h7,h⟩ | ⟨h7,h⟩
   ·replace h:=sI h
    subst h
    exact wr Yz 30 [false,false,true] [pc e62 (k62 x0 x3 _ h6) []] [.ownb 3 0 4 1,.ownb 3 1 87 4,.ownb 3 2 3 1,.ownb 3 3 92 2] 0 [8,9,10,11] hC [pq h3,pq h4,pq h7]
   ·obtain⟨y8,h9,y10,h11,h⟩:=A9 h
    refine wn Yz 37 [false,false,false] [pc e62 (k62 x0 x3 _ h6) [],pc e35 (k35 x1 _ h9) [],pc A72 (A7m (⟨x0,y8,x2⟩:A0) x3 _ h11) [12,8,9,10,11]] [] 0 [3,4,5,6,7,12,13,14,15,16] [8,9,11,12,55] hC [pq h3,pq h4,pq h7] ?_
    rcases cB h with⟨h12,h⟩ | ⟨h12,h⟩
    ·replace h:=sI h
     subst h
     exact wr Yz 24 [true] [] [.ownb 0 0 4 1,.ownb 0 1 87 4,.ownb 0 2 3 1,.ownb 0 3 92 2] 0 [10,11,12,13] hC [pq h12]
    ·replace h:=sI h
     subst h
     exact wr Yz 25 [false] [] [] 0 [6,7,8,9] hC [pq h12]
theorem e27:EN 27:=en Tryz.func27
theorem k31 (x0:Aa) (x1:Ab) (r:Ab×(List Ak)×Int) (h:F31 x0 x1=some r):CO 31 [.agg (d29 x0),.agg (d34 x1)] [] (.tup [.agg [.os 0,.os 1,.os 2,.os 3],.d (.os 4),.d (I r.2.2)]) (zp r.1 [v2_ r.2.1]):=by
 unfold F31 at h
 refine co 13 Tryz.func31 λ C hC=>?_
 obtain⟨y1,h2,h⟩:=Aw h
 replace h:=sI h
 subst h
 exact wr n7_ 25 [] [pc A71 (A7l x0 x1 _ h2) []] [] 0 [3,4,5,6,7] hC []
theorem e31:EN 31:=en Tryz.func31
def R_:List Nat:=[0,1,2,3,4,5,8,9,10,11,12,13,14,15,16,21,26,27,28,29,42,49]
def jY (x3:List Ak) (n0:Nat) (z0:Sg1):St:=[(2,dI z0.1),(3,.d (DS q47 x3)),(4,dO 0 0),(5,dO 1 0),(8,dO 2 0),(9,dI 0),(10,dI 0),(11,dI 0),(26,.d (DS q47 x3)),(27,dI (ln x3)),(28,dI (cnt 0 n0))]
def Ae5 (x0:Aa) (n0:Nat) (z0:Sg1):List Res:=(.box 29 (d29 x0) :: .box 34 [.os 7,.os 8,.os 9,.os 10] :: .box 34 [.os 3,.os 4,.os 5,.os 6]::ze [v1_ z0.2.1,v4_ z0.2.2.1,v0_ (g3_ z0),v3_ (Ds z0)])
def At3 (x3:List Ak) (z0:Sg1):St:=[(2,dI z0.1),(3,.d (DS q47 x3)),(5,dO 0 0),(8,dO 1 0),(9,dI 0),(10,dI 0),(11,dI 0)]
def Axy  (z0:Sg1):List Res:=(.box 34 [.os 6,.os 7,.os 8,.os 9] :: .box 34 [.os 2,.os 3,.os 4,.os 5]::ze [v1_ z0.2.1,v4_ z0.2.2.1,v0_ (g3_ z0),v3_ (Ds z0)])
theorem k10 (x0:Aa) (x1:Ab) (x2:Int) (x3:List Ak) (r:Ab×Int×Int×Int) (h:F10 x0 x1 x2 x3=some r):CO 10 [.agg (d29 x0),.agg (d34 x1),.d (I x2),.d (DS q47 x3)] [] (.tup [.agg [.os 0,.os 1,.os 2,.os 3],.d (I r.2.1),.d (I r.2.2.1),.d (I (Gq r))]) (zp r.1 []):=by
 unfold F10 at h
 refine co 58 Tryz.func10 λ C hC=>?_
 obtain⟨y1,h2,h⟩:=Aw h
 refine wn R_ 28 [] [pc e44 (k44 x0 x1 _ h2) []] [.ownb 2 0 4 1,.ownb 2 1 87 4,.ownb 2 2 3 1,.ownb 2 3 92 2] 0 n7_ [2,3,4,5,8,9,10,11,12,21] hC [] ?_
 rcases cB h with⟨h3,h⟩ | ⟨h3,h⟩
 ·replace h:=sI h
  subst h
  exact wr R_ 24 [true] [] [.ownb 2 0 4 1,.ownb 2 1 87 4,.ownb 2 2 3 1,.ownb 2 3 92 2] 0 [7,8,9,10] hC [pq h3]
 ·obtain⟨y4,h5,h⟩:=Aw h
  refine ws R_ 28 [false] [pc e35 (k35 x1 _ h5) [],pl q47 x3] [] 0 Ao4 (jY x3 0 (x2,y4.Ae,y4.Ac,y4.Am,y4.Ai)) (Ae5 x0 0 (x2,y4.Ae,y4.Ac,y4.Am,y4.Ai)) hC [pq h3] ?_
  obtain⟨w0,hm0,hret0,hnext0⟩:=Av h
  clear h
  refine wc w0 (At3 x3) (Axy) ?_ λ z0 hs0=>?_
  ·refine wb ?_
   refine Bq 26 rfl λ hl0=>?_
   refine wl (jY x3) (Ae5 x0) hm0 (λ z0 hn0=>?_) λ n0 a0 z0 w0b hi0 hx0 h hb0 hr0=>?_
   ·clear hm0
    exact wx w0 (At3 x3) (Axy) R_ 26 [false] [] [] 0 [1,2,3,4,5,6,7,8,9,10] _ hC [pq (A6 hl0)] hn0
   ·unfold Alq at h
    obtain⟨y6,h7,h⟩:=Aw h
    refine wn R_ 35 [true] [pt hx0 hl0,⟨.call 27 [.agg (d29 x0),.agg [.os 0,.os 1,.os 2,.os 3],dI z0.1,.agg (d47 a0)] [v1_ z0.2.1,v4_ z0.2.2.1,v0_ (g3_ z0),v3_ (Ds z0)] (.tup [.agg [.os 4,.os 5,.os 6,.os 7],dI y6.2]) (v1_ z0.2.1::v4_ z0.2.2.1::v0_ (g3_ z0)::v3_ (Ds z0)::zp y6.1 []) [7,8,9,10],⟨e27,((k27 x0 (⟨z0.2.1,z0.2.2.1,(g3_ z0),(Ds z0)⟩:Ab) z0.1 a0 _ h7).lend (by kernel_rfl) (by kernel_rfl) (by kernel_rfl) ⟨Bh (λ _=>rfl),Bh (λ _=>rfl),Bh (λ _=>rfl),Bh (λ _=>rfl),trivial⟩ (by kernel_rfl) (by kernel_rfl))⟩⟩] [] 0 Ao3 [2,3,4,5,8,9,10,11,13,14,15,16,26,27,28,42] hC [pq (A4 hi0 hl0)] ?_
    rcases cB h with⟨h8,h⟩ | ⟨h8,h⟩
    ·have hq:=hret0 _ (hr0 _ (sI h).symm)
     replace hq:=sI hq
     subst hq
     exact wr R_ 24 [true] [] [] 0 [7,8,9,10] hC [pq h8]
    ·rcases cB h with⟨h9,h⟩ | ⟨h9,h⟩
     ·exact wx w0b (jY x3 (n0+1)) (Ae5 x0 (n0+1)) R_ 31 [false,true] [] [] 0 [0,1,2,3,4,5,6,12,13,14,15] _ hC [pq h8,pq h9] (sI h).symm
     ·exact wx w0b (jY x3 (n0+1)) (Ae5 x0 (n0+1)) R_ 31 [false,false] [] [] 0 [0,1,2,3,4,5,6,12,13,14,15] _ hC [pq h8,pq h9] (sI h).symm
  ·have h:=hnext0 _ hs0
   replace h:=sI h
   subst h
   exact wr R_ 23 [] [pl q47 x3] [] 0 [6,7,8,9] hC []
theorem e10:EN 10:=en Tryz.func10
def lv8:List Nat:=[0,1,2,3,4,5,6,8,9,10,11,19,23,33,64]
def Aoe  (z0:Sg6):St:=[(4,.d (DS q47 [])),(5,dI 0),(9,dO 0 0)]
def A0q  (z0:Sg6):List Res:=[.box 80 [I z0.1,DS q49 z0.2.1,DS q98 z0.2.2.1,DS q90 (g3_ z0),I (g4_ z0),I (g5_ z0),.os 1,.os 2,.os 3,.os 4,.os 5,.os 6],v1_ (g6_ z0),v4_ (g7_ z0),v0_ (g8_ z0),v3_ (g9_ z0),v1_ (Ct z0),v2_ (Dc z0)]
def A00  (z0:Sg6):St:=[(4,.d (DS q47 [])),(5,dI 0),(9,dO 0 0)]
def A14  (z0:Sg6):List Res:=[.box 80 [I z0.1,DS q49 z0.2.1,DS q98 z0.2.2.1,DS q90 (g3_ z0),I (g4_ z0),I (g5_ z0),.os 1,.os 2,.os 3,.os 4,.os 5,.os 6],v1_ (g6_ z0),v4_ (g7_ z0),v0_ (g8_ z0),v3_ (g9_ z0),v1_ (Ct z0),v2_ (Dc z0)]
theorem k8 (x0:Aa) (x1:Ab) (r:(List Ak)×Int) (h:F8 x0 x1=some r):CO 8 [.agg (d29 x0),.agg (d34 x1)] [] (.tup [.d (.os 0),.d (I r.2)]) [v2_ r.1]:=by
 unfold F8 at h
 refine co 74 Tryz.func8 λ C hC=>?_
 obtain⟨y1,h2,h⟩:=Aw h
 refine wn lv8 29 [] [pc e31 (k31 x0 x1 _ h2) []] [] 0 [0,1,2,3,4,5,7] [2,3,4,5,6,8,19] hC [] ?_
 rcases cB h with⟨h3,h⟩ | ⟨h3,h⟩
 ·replace h:=sI h
  subst h
  exact wr lv8 24 [true] [] [.own 4 47 3] 0 [7] hC [pq h3]
 ·obtain⟨y4,h5,y6,h7,h⟩:=A9 h
  refine wn lv8 24 [false] [pb e32 (k32 x1 y1.1 _ h5),pw e33 (λ hg=>k33 x0 x1 _ (A1 h7 hg)) []] [] 0 [0,1] [2,3,4,5,23] hC [pq h3] ?_
  rcases cB h with⟨h8,h⟩ | ⟨h8,h⟩
  ·replace h:=sI h
   subst h
   exact wr lv8 24 [true] [] [.own 4 47 3] 0 [2] hC [pq h8]
  ·obtain⟨y9,h10,y11,h12,y13,h14,h⟩:=By h
   refine wn lv8 24 [false] [pc e23 (k23 x0 x1 _ h10) [],pb e34 (k34 y9 true _ h12),pw e24 (λ hg=>k24 x0 x1 _ (A1 h14 hg)) []] [] 0 [0,1] [2,3,4,5,33] hC [pq h8] ?_
   rcases cB h with⟨h15,h⟩ | ⟨h15,h⟩
   ·replace h:=sI h
    subst h
    exact wr lv8 24 [true] [] [.own 4 47 3] 0 [2] hC [pq h15]
   ·obtain⟨y16,h17,y18,h19,h⟩:=A9 h
    refine wn lv8 6 [false] [pc e35 (k35 x1 _ h17) [],pc e23 (k23 x0 x1 _ h19) []] [.ownb 7 11 47 3] 0 [2,3,4,5,6,7,8] [4,5,9] hC [pq h15] ?_
    obtain⟨y20,h21,y22,h23,y24,h25,h⟩:=By h
    refine ws lv8 27 [] [pc A77 (A7r (⟨x0,y16,y18,([]:List Ak)⟩:Ay) _ h21) [5,0,1,2,3,4,6],pc A76 (A7q y20 _ h23) [5,7,8,9,10,11,12],pc A75 (A7p y22 _ h25) [5,13,14,15,16,17,18]] [] 0 [5,19,20,21,22,23,24] (Aoe (zt y24.An (zu y24.Aq (y24.goal,y24.acts)))) (A0q (zt y24.An (zu y24.Aq (y24.goal,y24.acts)))) hC [] ?_
    obtain⟨w0,hm0,hret0,hnext0⟩:=Av h
    clear h
    refine wc w0 (A00) (A14) ?_ λ z0 hs0=>?_
    ·refine wb ?_
     refine ww (Aoe) (A0q) hm0 λ z0 w0b h hb0 hr0=>?_
     unfold Arg at h
     obtain⟨y26,h27,h⟩:=Aw h
     refine wn lv8 27 [] [pb A74 (A7o (⟨(⟨z0.1,z0.2.1,z0.2.2.1,(g3_ z0),(g4_ z0),(g5_ z0)⟩:Aa),(⟨(g6_ z0),(g7_ z0),(g8_ z0),(g9_ z0)⟩:Ab),(Ct z0),(Dc z0)⟩:Ay) _ h27)] [] 0 n7_ [4,5,9,10,64] hC [] ?_
     rcases cB h with⟨h28,h⟩ | ⟨h28,h⟩
     ·exact wx w0 (A00) (A14) lv8 23 [true] [] [] 0 n7_ (z0.1,z0.2.1,z0.2.2.1,(g3_ z0),(g4_ z0),(g5_ z0),(g6_ z0),(g7_ z0),(g8_ z0),(g9_ z0),(Ct z0),(Dc z0)) hC [pq h28] (hb0 _ (sI h).symm)
     ·obtain⟨y29,h30,h⟩:=Aw h
      exact wx w0b (Aoe) (A0q) lv8 25 [false] [pc Aed (Aec (⟨(⟨z0.1,z0.2.1,z0.2.2.1,(g3_ z0),(g4_ z0),(g5_ z0)⟩:Aa),(⟨(g6_ z0),(g7_ z0),(g8_ z0),(g9_ z0)⟩:Ab),(Ct z0),(Dc z0)⟩:Ay) 1 y26.1 _ h30) n7_] [] 0 [0,1,2,3,4,5,7] _ hC [pq h28] (sI h).symm
    ·have h:=hnext0 _ hs0
     obtain⟨y31,h32,h⟩:=Aw h
     replace h:=sI h
     subst h
     exact wr lv8 25 [] [pc A73 (A7n (⟨(⟨z0.1,z0.2.1,z0.2.2.1,(g3_ z0),(g4_ z0),(g5_ z0)⟩:Aa),(⟨(g6_ z0),(g7_ z0),(g8_ z0),(g9_ z0)⟩:Ab),(Ct z0),(Dc z0)⟩:Ay) _ h32) n7_] [] 0 [12] hC []
theorem e8:EN 8:=en Tryz.func8
theorem k9  (r:Bool) (h:F9  = some r):CO 9 [] [] (.d (Bo r)) []:=by
 unfold F9 at h
 refine co 64 Tryz.func9 λ C hC=>?_
 obtain⟨y1,h2,y3,h4,y5,h6,h⟩:=By h
 obtain⟨y7,h8,y9,h10,h⟩:=A9 h
 replace h:=sI h
 subst h
 exact wr n9_ 31 [] [pc e42 (k42  _ rfl) [],pc e8 (k8 F42.1 F42.2 _ h2) [],⟨.call 10 [.agg (d29 F42.1),.agg (d34 F42.2),dI 7,dS 0] [v2_ y1.1] (.tup [.agg [.os 1,.os 2,.os 3,.os 4],dI y3.2.1,dI y3.2.2.1,dI (Gq y3)]) (v2_ y1.1::zp y3.1 []) [2],⟨e10,((k10 F42.1 F42.2 7 y1.1 _ h4).lend (by kernel_rfl) (by kernel_rfl) (by kernel_rfl) ⟨Bh (λ _=>rfl),Bh (λ _=>rfl),Bh (λ _=>rfl),Bh (λ _=>rfl),trivial⟩ (by kernel_rfl) (by kernel_rfl))⟩⟩,pv e43 (λ hg=>k43 y1.1 [(⟨3,0,0⟩:Ak),(⟨7,0,0⟩:Ak),(⟨7,0,0⟩:Ak),(⟨7,0,0⟩:Ak),(⟨1,1,0⟩:Ak),(⟨1,0,0⟩:Ak)] _ (A1 h6 hg)),pv e24 (λ hg=>k24 F42.1 y3.1 _ (A1 h8 hg)),pw e24 (λ hg=>k24 F42.1 F42.2 _ (A1 h10 hg)) []] [] 0 [] hC []
theorem e9:EN 9:=en Tryz.func9
def lv4:List Nat:=[0,2,3,4,5,6,7,8,9,11,12,13,14,15,17,18,19,20,21,36,50,52,53,54,55,80,83,84,85,86,95,106,125]
def Aoh (y5:(List Ak)×Int) (n0:Nat) (z0:Sg1):St:=[(2,dB false),(4,dO 3 0),(5,dO 4 0),(8,dO 6 0),(9,dI z0.1),(52,dS 5),(53,dI (ln y5.1)),(54,dI (cnt 0 n0))]
def A0t (y3:Aa×Ab×Au) (y5:(List Ak)×Int) (n0:Nat) (z0:Sg1):List Res:=(zs y3.1 [.box 29 [I y3.1.Al,.os 0,.os 1,.os 2,I y3.1.Phase,I y3.1.Ar],.box 34 (d34 y3.2.1),v2_ y5.1,.box 34 [DS pB z0.2.1,DS q87 z0.2.2.1,DS pI (g3_ z0),DS q92 (Ds z0)]])
def A03  (z0:Sg1):St:=[(2,dB false),(4,dO 3 0),(5,dO 4 0),(8,dO 5 0)]
def A17 (y3:Aa×Ab×Au) (z0:Sg1):List Res:=(zs y3.1 [.box 29 [I y3.1.Al,.os 0,.os 1,.os 2,I y3.1.Phase,I y3.1.Ar],.box 34 (d34 y3.2.1),.box 34 [DS pB z0.2.1,DS q87 z0.2.2.1,DS pI (g3_ z0),DS q92 (Ds z0)]])
def Aog (y5:(List Ak)×Int) (z0:Sg1) (n0:Nat) (y13:Ab×Int×Int×Int) (y18:(List Aj)) (n1:Nat) (z1:Unit):St:=[(2,dB false),(4,dO 3 0),(5,dO 4 0),(8,dO 6 0),(9,dI z0.1),(12,dO 11 0),(13,dI y13.2.1),(52,dS 5),(53,dI (ln y5.1)),(54,dI (cnt 0 n0)),(83,dS 12),(84,dI (ln y18)),(85,dI (cnt 0 n1))]
def A0s (y3:Aa×Ab×Au) (y5:(List Ak)×Int) (z0:Sg1) (y13:Ab×Int×Int×Int) (y18:(List Aj)) (n1:Nat) (z1:Unit):List Res:=(zs y3.1 (.box 29 [I y3.1.Al,.os 0,.os 1,.os 2,I y3.1.Phase,I y3.1.Ar] :: .box 34 (d34 y3.2.1)::v2_ y5.1 :: .box 34 [DS pB z0.2.1,DS q87 z0.2.2.1,DS pI (g3_ z0),DS q92 (Ds z0)]::zp y13.1 [.box 34 [.os 7,.os 8,.os 9,.os 10],v5_ y18]))
def A02 (y5:(List Ak)×Int) (z0:Sg1) (n0:Nat) (y13:Ab×Int×Int×Int) (z1:Unit):St:=[(2,dB false),(4,dO 3 0),(5,dO 4 0),(8,dO 6 0),(9,dI z0.1),(12,dO 11 0),(13,dI y13.2.1),(52,dS 5),(53,dI (ln y5.1)),(54,dI (cnt 0 n0))]
def A16 (y3:Aa×Ab×Au) (y5:(List Ak)×Int) (z0:Sg1) (y13:Ab×Int×Int×Int) (z1:Unit):List Res:=(zs y3.1 (.box 29 [I y3.1.Al,.os 0,.os 1,.os 2,I y3.1.Phase,I y3.1.Ar] :: .box 34 (d34 y3.2.1)::v2_ y5.1 :: .box 34 [DS pB z0.2.1,DS q87 z0.2.2.1,DS pI (g3_ z0),DS q92 (Ds z0)]::zp y13.1 [.box 34 [.os 7,.os 8,.os 9,.os 10]]))
def Aof  (z2:Int):St:=[(2,dB false),(4,dO 3 0),(8,dO 4 0),(18,dS 5),(19,dI z2)]
def A0r (y3:Aa×Ab×Au) (z0:Sg1) (y25:(List Bool)) (z2:Int):List Res:=(zs y3.1 [.box 29 [I y3.1.Al,.os 0,.os 1,.os 2,I y3.1.Phase,I y3.1.Ar],.box 34 [DS pB z0.2.1,DS q87 z0.2.2.1,DS pI (g3_ z0),DS q92 (Ds z0)],v1_ y25])
def A01  (z2:Int):St:=[(2,dB false),(4,dO 3 0),(8,dO 4 0),(18,dS 5)]
def A15 (y3:Aa×Ab×Au) (z0:Sg1) (y25:(List Bool)) (z2:Int):List Res:=(zs y3.1 [.box 29 [I y3.1.Al,.os 0,.os 1,.os 2,I y3.1.Phase,I y3.1.Ar],.box 34 [DS pB z0.2.1,DS q87 z0.2.2.1,DS pI (g3_ z0),DS q92 (Ds z0)],v1_ y25])
set_option maxHeartbeats 4000000 in
theorem k4 (x0 : List Int) (r : Bool) (h : F4 x0 = some r) : CO 4 [.d (DS pI x0)] [] (.d (Bo r)) [] := by
 unfold F4 at h
 refine co 154 Tryz.func4 λ C hC=>?_
 obtain⟨y1,h2,y3,h4,y5,h6,h⟩:=By h
 refine wn lv4 32 [] [pc e6 (k6 x0 _ h2) [],pc e7 (k7 y1 _ h4) [0],⟨.call 8 [.agg [I y3.1.Al,.os 0,.os 1,.os 2,I y3.1.Phase,I y3.1.Ar],.agg [.os 3,.os 4,.os 5,.os 6]] (zs y3.1 (zp y3.2.1 [])) (.tup [dS 7,dI y5.2]) (zs y3.1 (zp y3.2.1 [v2_ y5.1])) [1,2,3,4,5,6,7],⟨e8,((k8 y3.1 y3.2.1 _ h6).lend (by kernel_rfl) (by kernel_rfl) (by kernel_rfl) ⟨Bh (λ _=>rfl),trivial⟩ (by kernel_rfl) (by kernel_rfl))⟩⟩] [] 0 [1,2,3,4,5,6,7,8,9,10] [2,4,5,6,7,36] hC [] ?_
 rcases cB h with⟨h7,h⟩ | ⟨h7,h⟩
 ·obtain⟨y8,h9,h⟩:=Aw h
  replace h:=sI h
  subst h
  exact wr lv4 24 [true] [pw e9 (λ hg=>k9  _ (A1 h9 hg)) []] [] 0 [] hC [pq h7]
 ·obtain ⟨y10, h11, h⟩ := Aw h
  refine wn lv4 26 [false] [pl q47 y5.1,pb e19 (k19 y3.1 _ h11)] [] 0 Ia [2,4,5,6,50] hC [pq h7] ?_
  rcases cB h with⟨h12,h⟩ | ⟨h12,h⟩
  ·replace h:=sI h
   subst h
   exact wr lv4 24 [true] [] [] 0 [] hC [pq h12]
  ·refine ws lv4 28 [false] [pl q47 y5.1] [.frz 3,.frz 4,.frz 5,.frz 6] 0 [0,1,2,7,8,9,10] (Aoh y5 0 (20,y3.2.1.Ae,y3.2.1.Ac,y3.2.1.Am,y3.2.1.Ai)) (A0t y3 y5 0 (20,y3.2.1.Ae,y3.2.1.Ac,y3.2.1.Am,y3.2.1.Ai)) hC [pq h12] ?_
   obtain⟨w0,hm0,hret0,hnext0⟩:=Av h
   clear h
   refine wc w0 (A03) (A17 y3) ?_ λ z0 hs0=>?_
   ·refine wb ?_
    refine B2 52 5 rfl rfl λ hl0=>?_
    refine wl (Aoh y5) (A0t y3 y5) hm0 (λ z0 hn0=>?_) λ n0 a0 z0 w0b hi0 hx0 h hb0 hr0=>?_
    ·clear hm0
     exact wx w0 (A03) (A17 y3) lv4 26 [false] [] [] 0 [0,1,2,3,4,6] _ hC [pq (A6 hl0)] hn0
    ·unfold Arj at h
     obtain⟨y13,h14,y15,h16,h⟩:=A9 h
     refine wn lv4 35 [true] [pr q47 (Bd hx0 hl0),pn q47 (Bd hx0 hl0),⟨.call 10 [.agg [I y3.1.Al,.os 0,.os 1,.os 2,I y3.1.Phase,I y3.1.Ar],.agg [DS pB z0.2.1,DS q87 z0.2.2.1,DS pI (g3_ z0),DS q92 (Ds z0)],dI z0.1,.d (DS q47 [a0])] (zs y3.1 []) (.tup [.agg [.os 3,.os 4,.os 5,.os 6],dI y13.2.1,dI y13.2.2.1,dI (Gq y13)]) (zs y3.1 (zp y13.1 [])) n3_,⟨e10,((k10 y3.1 (⟨z0.2.1,z0.2.2.1,(g3_ z0),(Ds z0)⟩:Ab) z0.1 [a0] _ h14).lend (by kernel_rfl) (by kernel_rfl) (by kernel_rfl) ⟨Bh (λ _=>rfl),Bh (λ _=>rfl),Bh (λ _=>rfl),Bh (λ _=>rfl),trivial⟩ (by kernel_rfl) (by kernel_rfl))⟩⟩,pv e20 (λ hg=>k20 y3.1 (⟨z0.2.1,z0.2.2.1,(g3_ z0),(Ds z0)⟩:Ab) y13.1 _ (A1 h16 hg))] [] 0 [0,1,2,3,4,5,6,8,9,10,11,12] [2,4,5,8,9,12,13,52,53,54,80] hC [pq (A4 hi0 hl0)] ?_
     rcases cB h with⟨h17,h⟩ | ⟨h17,h⟩
     ·have hq:=hret0 _ (hr0 _ (sI h).symm)
      replace hq:=sI hq
      subst hq
      exact wr lv4 24 [true] [] [] 0 [] hC [pq h17]
     ·obtain⟨y18,h19,h⟩:=Aw h
      refine ws lv4 26 [false] [pc A79 (A7t y3.1 y13.1 _ h19) [0,1,2,7,8,9,10],pl q62 y18] [] 0 Df (Aog y5 z0 n0 y13 y18 0 ()) (A0s y3 y5 z0 y13 y18 0 ()) hC [pq h17] ?_
      obtain⟨w1,hm1,hret1,hnext1⟩:=Av h
      clear h
      refine wc w1 (A02 y5 z0 n0 y13) (A16 y3 y5 z0 y13) ?_ λ z1 hs1=>?_
      ·refine wb ?_
       refine B2 83 12 rfl rfl λ hl1=>?_
       refine wl (Aog y5 z0 n0 y13 y18) (A0s y3 y5 z0 y13 y18) hm1 (λ z1 hn1=>?_) λ n1 a1 z1 w1b hi1 hx1 h hb1 hr1=>?_
       ·clear hm1
        exact wx w1 (A02 y5 z0 n0 y13) (A16 y3 y5 z0 y13) lv4 26 [false] [] [] 0 E3 _ hC [pq (A6 hl1)] hn1
       ·unfold Ari at h
        obtain⟨y20,h21,y22,h23,h⟩:=A9 h
        refine wn lv4 32 [true] [pr q62 (Bd hx1 hl1),pn q62 (Bd hx1 hl1),pr pI h21,pb e22 (k22 y3.1 y13.1 y20 _ h23)] [] 0 Df [2,4,5,8,9,12,13,52,53,54,83,84,85,95] hC [pq (A4 hi1 hl1)] ?_
        rcases cB h with⟨h24,h⟩ | ⟨h24,h⟩
        ·have hq:=hret1 _ (hr1 _ (sI h).symm)
         replace hq:=hret0 _ (hr0 _ (sI hq).symm)
         replace hq:=sI hq
         subst hq
         exact wr lv4 24 [true] [] [] 0 [] hC [pq h24]
        ·exact wx w1b (Aog y5 z0 n0 y13 y18 (n1+1)) (A0s y3 y5 z0 y13 y18 (n1+1)) lv4 25 [false] [] [] 0 Df _ hC [pq h24] (sI h).symm
      ·have h:=hnext1 _ hs1
       exact wx w0b (Aoh y5 (n0+1)) (A0t y3 y5 (n0+1)) lv4 24 [] [] [.frz 7,.frz 8,.frz 9,.frz 10] 0 n7_ _ hC [] (sI h).symm
   ·have h:=hnext0 _ hs0
    obtain⟨y25,h26,h⟩:=Aw h
    refine ws lv4 26 [] [⟨.call 23 [.agg [I y3.1.Al,.os 0,.os 1,.os 2,I y3.1.Phase,I y3.1.Ar],.agg (d34 y3.2.1)] (zs y3.1 []) (dS 3) (zs y3.1 [v1_ y25]) n3_,⟨e23,((k23 y3.1 y3.2.1 _ h26).lend (by kernel_rfl) (by kernel_rfl) (by kernel_rfl) ⟨Bh (λ _=>rfl),trivial⟩ (by kernel_rfl) (by kernel_rfl))⟩⟩] [] 0 [0,1,2,3,5,6] (Aof 0) (A0r y3 z0 y25 0) hC [] ?_
    obtain⟨w2,hm2,hret2,hnext2⟩:=Av h
    clear h
    refine wc w2 (A01) (A15 y3 z0 y25) ?_ λ z2 hs2=>?_
    ·refine wb ?_
     refine ww (Aof) (A0r y3 z0 y25) hm2 λ z2 w2b h hb2 hr2=>?_
     unfold Arh at h
     rcases cB h with⟨h27,h⟩ | ⟨h27,h⟩
     ·obtain⟨y28,h29,y30,h31,h⟩:=A9 h
      refine wn lv4 30 [true] [pl pB y25,pR pB h29,pN pB h29,pv e14 (λ hg=>k14 y3.1 (⟨z0.2.1,z0.2.2.1,(g3_ z0),(Ds z0)⟩:Ab) z2 _ (A1 h31 hg))] [] 0 n6_ [2,4,8,18,19,125] hC [pq h27] ?_
      rcases cB h with⟨h32,h⟩ | ⟨h32,h⟩
      ·have hq:=hret2 _ (hr2 _ (sI h).symm)
       replace hq:=sI hq
       subst hq
       exact wr lv4 24 [true] [] [] 0 [] hC [pq h32]
      ·exact wx w2b (Aof) (A0r y3 z0 y25) lv4 25 [false] [] [] 0 n6_ _ hC [pq h32] (sI h).symm
     ·exact wx w2 (A01) (A15 y3 z0 y25) lv4 26 [false] [] [] 0 n6_ z2 hC [pq h27] (hb2 _ (sI h).symm)
    ·have h:=hnext2 _ hs2
     obtain⟨y33,h34,y35,h36,y37,h38,h⟩:=By h
     replace h:=sI h
     subst h
     exact wr lv4 25 [] [⟨.call 8 [.agg [I y3.1.Al,.os 0,.os 1,.os 2,I y3.1.Phase,I y3.1.Ar],.agg [DS pB z0.2.1,DS q87 z0.2.2.1,DS pI (g3_ z0),DS q92 (Ds z0)]] (zs y3.1 []) (.tup [dS 3,dI y33.2]) (zs y3.1 [v2_ y33.1]) n3_,⟨e8,((k8 y3.1 (⟨z0.2.1,z0.2.2.1,(g3_ z0),(Ds z0)⟩:Ab) _ h34).lend (by kernel_rfl) (by kernel_rfl) (by kernel_rfl) ⟨Bh (λ _=>rfl),trivial⟩ (by kernel_rfl) (by kernel_rfl))⟩⟩,pb e24 (k24 y3.1 (⟨z0.2.1,z0.2.2.1,(g3_ z0),(Ds z0)⟩:Ab) _ h36),pL_ [(y35,true)] pB y25,pL_ [(((y35&&((ln y25)==y3.1.Al))&&(y33.2==9)),true)] q47 y33.1,pw e9 (λ hg=>k9  _ (A1 h38 hg)) []] [] 0 [] hC []
end Go.Proofs.YtcigbocngfaopaaGreat
