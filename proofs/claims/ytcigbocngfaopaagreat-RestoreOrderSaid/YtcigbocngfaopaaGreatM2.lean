import Derived.Test.YtcigbocngfaopaaGreatM1
set_option linter.unusedVariables false
set_option maxHeartbeats 4000000
namespace Go.Proofs.YtcigbocngfaopaaGreat
open Go.SL
def Kr:List Nat:=[0,1,2,3,4,5,6,7,8,9,10,11,12,17,24,25,26,38,50,51,52,53,74]
def Zt (x0:Aa) (z0:Int×(List Bool)×(List Ak)):St:=[(2,dO 0 0),(3,dO 1 0),(4,dO 2 0),(5,.d (DS q47 [])),(6,dI 0),(8,dO 11 0),(9,dS 12),(24,dI (ln x0.Ad)),(25,dI z0.1)]
def Adz (x0:Aa) (x1:Ab) (y4:Ab) (z0:Int×(List Bool)×(List Ak)):List Res:=(.box 29 (d29 x0) :: .box 34 (d34 x1) :: .box 34 [.os 3,.os 4,.os 5,.os 6]::ze [v1_ z0.2.1,v4_ y4.Ac,v0_ y4.Al,v3_ y4.Ah,.box 34 [.os 7,.os 8,.os 9,.os 10],v2_ z0.2.2])
def Ar5  (z0:Int×(List Bool)×(List Ak)):St:=[(2,dO 0 0),(4,dO 1 0),(5,.d (DS q47 [])),(6,dI 0),(8,dO 10 0),(9,dS 11)]
def Avs (x0:Aa) (y4:Ab) (z0:Int×(List Bool)×(List Ak)):List Res:=(.box 29 (d29 x0) :: .box 34 [.os 2,.os 3,.os 4,.os 5]::ze [v1_ z0.2.1,v4_ y4.Ac,v0_ y4.Al,v3_ y4.Ah,.box 34 [.os 6,.os 7,.os 8,.os 9],v2_ z0.2.2])
def Zs (x0:Aa) (n1:Nat) (z1:(List Bool)×(List Ak)):St:=[(2,dO 0 0),(4,dO 1 0),(5,.d (DS q47 [])),(6,dI 0),(8,dO 10 0),(9,dS 11),(50,.d (DS q49 x0.Ad)),(51,dI (ln x0.Ad)),(52,dI (cnt 0 n1))]
def Ady (x0:Aa) (y4:Ab) (n1:Nat) (z1:(List Bool)×(List Ak)):List Res:=(.box 29 (d29 x0) :: .box 34 [.os 2,.os 3,.os 4,.os 5]::ze [v1_ z1.1,v4_ y4.Ac,v0_ y4.Al,v3_ y4.Ah,.box 34 [.os 6,.os 7,.os 8,.os 9],v2_ z1.2])
def Ar4  (z1:(List Bool)×(List Ak)):St:=[(2,dO 0 0),(4,dO 1 0),(5,.d (DS q47 [])),(6,dI 0),(8,dO 10 0),(9,dS 11)]
def Avr (x0:Aa) (y4:Ab) (z1:(List Bool)×(List Ak)):List Res:=(.box 29 (d29 x0) :: .box 34 [.os 2,.os 3,.os 4,.os 5]::ze [v1_ z1.1,v4_ y4.Ac,v0_ y4.Al,v3_ y4.Ah,.box 34 [.os 6,.os 7,.os 8,.os 9],v2_ z1.2])
theorem k66 (x0:Aa) (x1:Ab) (r:Ab×(List Ak)×Int) (h:F66 x0 x1=some r):CO 66 [.agg (d29 x0),.agg (d34 x1)] [] (.tup [.agg [.os 0,.os 1,.os 2,.os 3],.d (.os 4),.d (I r.2.2)]) (zp r.1 [v2_ r.2.1]):=by
 unfold F66 at h
 refine co 93 Tryz.func66 λ C hC=>?_
 obtain⟨y1,h2,h⟩:=Aw h
 refine wn Kr 28 [] [pc e11 (k11 x0 x1 _ h2) []] [.ownb 2 0 4 1,.ownb 2 1 87 4,.ownb 2 2 3 1,.ownb 2 3 92 2] 0 n7_ [2,3,4,5,6,7,17] hC [] ?_
 rcases cB h with⟨h3,h⟩ | ⟨h3,h⟩
 ·replace h:=sI h
  subst h
  exact wr Kr 24 [true] [] [.ownb 2 0 4 1,.ownb 2 1 87 4,.ownb 2 2 3 1,.ownb 2 3 92 2,.own 5 47 3] 0 [7,8,9,10,11] hC [pq h3]
 ·obtain⟨y4,h5,h⟩:=Aw h
  refine ws Kr 30 [false] [pc Ayh (Axz x1 _ h5) [],pl q49 x0.Ad] [.own 9 47 3] 0 Dm (Zt x0 (0,y4.Ae,([]:List Ak))) (Adz x0 x1 y4 (0,y4.Ae,([]:List Ak))) hC [pq h3] ?_
  obtain⟨w0,hm0,hret0,hnext0⟩:=Av h
  clear h
  refine wc w0 (Ar5) (Avs x0 y4) ?_ λ z0 hs0=>?_
  ·refine wb ?_
   refine ww (Zt x0) (Adz x0 x1 y4) hm0 λ z0 w0b h hb0 hr0=>?_
   unfold Ajz at h
   rcases cB h with⟨h6,h⟩ | ⟨h6,h⟩
   ·obtain⟨y7,h8,y9,h10,h⟩:=A_ h
    refine wn Kr 32 [true] [pr pB h8,pn pB h8,pw A7v (λ hg=>A67 x0 x1 z0.1 _ (A1 h10 hg)) []] [] 0 Dm [2,3,4,5,6,8,9,10,24,25,38] hC [pq h6] ?_
    rcases cB h with⟨h11,h⟩ | ⟨h11,h⟩
    ·obtain⟨y12,h13,y14,h15,h⟩:=A_ h
     exact wx w0b (Zt x0) (Adz x0 x1 y4) Kr 27 [true] [pr pB h8,pu pB h8 h13,pa q47 3 h15] [] 0 [0,1,2,3,4,5,6,7,8,9,10,11,13] _ hC [pq h11] (sI h).symm
    ·exact wx w0b (Zt x0) (Adz x0 x1 y4) Kr 25 [false] [] [] 0 Dm _ hC [pq h11] (sI h).symm
   ·exact wx w0 (Ar5) (Avs x0 y4) Kr 26 [false] [] [] 0 [0,2,3,4,5,6,7,8,9,10,11,12] (z0.1,z0.2.1,z0.2.2) hC [pq h6] (hb0 _ (sI h).symm)
  ·have h:=hnext0 _ hs0
   refine ws Kr 24 [] [pl q49 x0.Ad] [] 0 E0 (Zs x0 0 (z0.2.1,z0.2.2)) (Ady x0 y4 0 (z0.2.1,z0.2.2)) hC [] ?_
   obtain⟨w1,hm1,hret1,hnext1⟩:=Av h
   clear h
   refine wc w1 (Ar4) (Avr x0 y4) ?_ λ z1 hs1=>?_
   ·refine wb ?_
    refine Bq 50 rfl λ hl1=>?_
    refine wl (Zs x0) (Ady x0 y4) hm1 (λ z1 hn1=>?_) λ n1 a1 z1 w1b hi1 hx1 h hb1 hr1=>?_
    ·clear hm1
     exact wx w1 (Ar4) (Avr x0 y4) Kr 26 [false] [] [] 0 E0 _ hC [pq (A5 hl1)] hn1
    ·unfold Ajy at h
     obtain⟨y16,h17,y18,h19,h⟩:=A_ h
     refine wn Kr 32 [true] [pt hx1 hl1,pR pB h17,pN pB h17,pv e14 (λ hg=>k14 x0 (⟨z1.1,y4.Ac,y4.Al,y4.Ah⟩:Ab) a1.A _ (A1 h19 hg))] [] 0 E0 [2,4,5,6,8,9,11,50,51,52,74] hC [pq (A4 hi1 hl1)] ?_
     rcases cB h with⟨h20,h⟩ | ⟨h20,h⟩
     ·obtain⟨y21,h22,y23,h24,y25,h26,h⟩:=Bw h
      exact wx w1b (Zs x0 (n1+1)) (Ady x0 y4 (n1+1)) Kr 27 [true] [pr pB h22,pu pB h22 h24,pa q47 3 h26] [] 0 [0,1,2,3,4,5,6,7,8,9,10,12] _ hC [pq h20] (sI h).symm
     ·exact wx w1b (Zs x0 (n1+1)) (Ady x0 y4 (n1+1)) Kr 25 [false] [] [] 0 E0 _ hC [pq h20] (sI h).symm
   ·have h:=hnext1 _ hs1
    obtain⟨y27,h28,h⟩:=Aw h
    replace h:=sI h
    subst h
    exact wr Kr 25 [] [⟨.call 119 [.agg (d29 x0),.agg [.os 0,.os 1,.os 2,.os 3]] [v1_ z1.1,v4_ y4.Ac,v0_ y4.Al,v3_ y4.Ah] (.tup [.agg [.os 4,.os 5,.os 6,.os 7],dI y27.2]) (v1_ z1.1::v4_ y4.Ac::v0_ y4.Al::v3_ y4.Ah::zp y27.1 []) [6,7,8,9],⟨A7u,((A66 x0 (⟨z1.1,y4.Ac,y4.Al,y4.Ah⟩:Ab) _ h28).lend (by kernel_rfl) (by kernel_rfl) (by kernel_rfl) ⟨Bf (λ _=>rfl),Bf (λ _=>rfl),Bf (λ _=>rfl),Bf (λ _=>rfl),trivial⟩ (by kernel_rfl) (by kernel_rfl))⟩⟩] [] 0 [12,13,14,15,11] hC []
theorem e66:EN 66:=en Tryz.func66
theorem A28 (x0:Ag) (x1:Ax) (r:Bool×Ax) (h:Vg x0 x1=some r):CO 122 [.agg (d49 x0),.d (.o 0 0)] (.box 112 [.o 1 0] :: .box 147 (zb x1.An [.os 2,.os 3,.os 4,.os 5,.os 6])::zp x1.Ao [v2_ x1.acts]) (.d (Bo r.1)) (.box 112 [.o 1 0] :: .box 147 (zb r.2.An [.os 2,.os 3,.os 4,.os 5,.os 6])::zp r.2.Ao [v2_ r.2.acts]):=by
 unfold Vg at h
 refine co 21 Tryz.func122 λ C hC=>?_
 obtain⟨y1,h2,h⟩:=Aw h
 replace h:=sI h
 subst h
 exact wr n4_ 25 [] [pv e58 (λ hg=>k58 x1.An x1.Ao x0.A _ (A1 h2 hg))] [] 7 n7_ hC []
theorem A4g:EN 122:=en Tryz.func122
theorem Ate (x0:Ax) (x1:Int) (r:Int) (h:Qa x0 x1=some r):CO 160 [.d (.ip [.v (.int .i64 x0.An.Am),.s (x0.An.Ad.map q49),.s (x0.An.Ac.map q98),.s (x0.An.Af.map q90),.v (.int .i64 x0.An.Phase),.v (.int .i64 x0.An.Au),.s (x0.Ao.Ae.map pB),.s (x0.Ao.Ac.map q87),.s (x0.Ao.Al.map pI),.s (x0.Ao.Ah.map q92),.s (x0.acts.map q47)]),.d (I x1)] [] (.d (I r)) []:=by
 unfold Qa at h
 refine co 27 Tryz.func160 λ C hC=>?_
 obtain⟨y1,h2,y3,h4,h⟩:=A_ h
 replace h:=sI h
 subst h
 exact wr [0,1,4] 25 [] [pc e87 (k87 x0.An x0.Ao x1 _ h2) [],pc e88 (k88 x0.An x0.Ao x1 _ h4) []] [] 0 [] hC []
theorem At6:EN 160:=en Tryz.func160
def yJ:List Nat:=[0,1,2,3,4,5,6,8,9,10,11,37]
def Ae7 (x0:Aa) (n0:Nat) (z0:Unit):St:=[(2,dO 0 0),(3,dO 1 0),(4,dB false),(8,.d (DS q49 x0.Ad)),(9,dI (ln x0.Ad)),(10,dI (cnt 0 n0))]
def Apy (x0:Aa) (x1:Ab) (n0:Nat) (z0:Unit):List Res:=[.box 29 (d29 x0),.box 34 (d34 x1)]
def Ase  (z0:Unit):St:=[(4,dB false)]
def Av1  (z0:Unit):List Res:=[]
theorem k33 (x0:Aa) (x1:Ab) (r:Bool) (h:F33 x0 x1=some r):CO 33 [.agg (d29 x0),.agg (d34 x1)] [] (.d (Bo r)) []:=by
 unfold F33 at h
 refine co 39 Tryz.func33 λ C hC=>?_
 refine ws yJ 26 [] [pl q49 x0.Ad] [] 0 [0,1] (Ae7 x0 0 ()) (Apy x0 x1 0 ()) hC [] ?_
 obtain⟨w0,hm0,hret0,hnext0⟩:=Av h
 clear h
 refine wc w0 (Ase) (Av1) ?_ λ z0 hs0=>?_
 ·refine wb ?_
  refine Bq 8 rfl λ hl0=>?_
  refine wl (Ae7 x0) (Apy x0 x1) hm0 (λ z0 hn0=>?_) λ n0 a0 z0 w0b hi0 hx0 h hb0 hr0=>?_
  ·clear hm0
   exact wx w0 (Ase) (Av1) yJ 26 [false] [] [] 0 [] _ hC [pq (A5 hl0)] hn0
  ·unfold Aj7 at h
   obtain⟨y1,h2,y3,h4,y5,h6,h⟩:=Bw h
   refine wn yJ 32 [true] [pt hx0 hl0,pR pB h2,pw e76 (λ hg=>k76 x1 2 (cnt 0 n0) _ (A1 h4 hg)) [],pw e58 (λ hg=>k58 x0 x1 a0.A _ (A1 h6 hg)) []] [] 0 [0,1] [2,3,4,8,9,10,37] hC [pq (A4 hi0 hl0)] ?_
   rcases cB h with⟨h7,h⟩ | ⟨h7,h⟩
   ·have hq:=hret0 _ (hr0 _ (sI h).symm)
    replace hq:=sI hq
    subst hq
    exact wr yJ 24 [true] [] [] 0 [] hC [pq h7]
   ·exact wx w0b (Ae7 x0 (n0+1)) (Apy x0 x1 (n0+1)) yJ 25 [false] [] [] 0 [0,1] _ hC [pq h7] (sI h).symm
 ·have h:=hnext0 _ hs0
  replace h:=sI h
  subst h
  exact wr yJ 23 [] [] [] 0 [] hC []
theorem e33:EN 33:=en Tryz.func33
def yK:List Nat:=[0,1,2,3,4,5,6,9,10,11,12,23]
def Ae9 (y1:(List Bool)) (n0:Nat) (z0:Unit):St:=[(2,dO 0 0),(3,dO 1 0),(4,dB false),(9,dS 2),(10,dI (ln y1)),(11,dI (cnt 0 n0))]
def Ap0 (x0:Aa) (x1:Ab) (y1:(List Bool)) (n0:Nat) (z0:Unit):List Res:=[.box 29 (d29 x0),.box 34 (d34 x1),v1_ y1]
def Asi  (z0:Unit):St:=[(2,dO 0 0),(3,dO 1 0),(4,dB false)]
def Av5 (x0:Aa) (x1:Ab) (z0:Unit):List Res:=[.box 29 (d29 x0),.box 34 (d34 x1)]
theorem k24 (x0:Aa) (x1:Ab) (r:Bool) (h:F24 x0 x1=some r):CO 24 [.agg (d29 x0),.agg (d34 x1)] [] (.d (Bo r)) []:=by
 unfold F24 at h
 refine co 29 Tryz.func24 λ C hC=>?_
 obtain⟨y1,h2,h⟩:=Aw h
 refine ws yK 26 [] [pc e23 (k23 x0 x1 _ h2) [],pl pB y1] [] 0 n3_ (Ae9 y1 0 ()) (Ap0 x0 x1 y1 0 ()) hC [] ?_
 obtain⟨w0,hm0,hret0,hnext0⟩:=Av h
 clear h
 refine wc w0 (Asi) (Av5 x0 x1) ?_ λ z0 hs0=>?_
 ·refine wb ?_
  refine B1 9 2 rfl rfl λ hl0=>?_
  refine wl (Ae9 y1) (Ap0 x0 x1 y1) hm0 (λ z0 hn0=>?_) λ n0 a0 z0 w0b hi0 hx0 h hb0 hr0=>?_
  ·clear hm0
   exact wx w0 (Asi) (Av5 x0 x1) yK 26 [false] [] [] 0 [0,1] _ hC [pq (A5 hl0)] hn0
  ·unfold Aka at h
   obtain⟨y3,h4,h⟩:=Aw h
   refine wn yK 32 [true] [pr pB (Bb hx0 hl0),pn pB (Bb hx0 hl0),pw e58 (λ hg=>k58 x0 x1 (cnt 0 n0) _ (A1 h4 hg)) []] [] 0 n3_ [2,3,4,9,10,11,23] hC [pq (A4 hi0 hl0)] ?_
   rcases cB h with⟨h5,h⟩ | ⟨h5,h⟩
   ·have hq:=hret0 _ (hr0 _ (sI h).symm)
    replace hq:=sI hq
    subst hq
    exact wr yK 24 [true] [] [] 0 [] hC [pq h5]
   ·exact wx w0b (Ae9 y1 (n0+1)) (Ap0 x0 x1 y1 (n0+1)) yK 25 [false] [] [] 0 n3_ _ hC [pq h5] (sI h).symm
 ·have h:=hnext0 _ hs0
  obtain⟨y6,h7,h⟩:=Aw h
  replace h:=sI h
  subst h
  exact wr yK 23 [] [pc e44 (k44 x0 x1 _ h7) []] [] 0 [] hC []
theorem e24:EN 24:=en Tryz.func24
theorem Wc (x0:Ay) (x1:Int) (r:Bool) (h:Le x0 x1=some r):CO 82 [.d (.ip [.v (.int .i64 x0.An.Am),.s (x0.An.Ad.map q49),.s (x0.An.Ac.map q98),.s (x0.An.Af.map q90),.v (.int .i64 x0.An.Phase),.v (.int .i64 x0.An.Au),.s (x0.Ao.Ae.map pB),.s (x0.Ao.Ac.map q87),.s (x0.Ao.Al.map pI),.s (x0.Ao.Ah.map q92),.s (x0.goal.map pB),.s (x0.acts.map q47)]),.d (I x1)] [] (.d (Bo r)) []:=by
 unfold Le at h
 refine co 15 Tryz.func82 λ C hC=>?_
 obtain⟨y1,h2,h⟩:=Aw h
 replace h:=sI h
 subst h
 exact wr [0,1,4] 25 [] [pc e58 (k58 x0.An x0.Ao x1 _ h2) []] [] 0 [] hC []
theorem Wh:EN 82:=en Tryz.func82
def jI:List Nat:=[0,1,2,3,4,5,6,7,8,9,10,20,22,23,49]
theorem A6u (x0:Aa) (x1:Ab) (x2:Ag) (r:Bool) (h:Y7 x0 x1 x2=some r):CO 170 [.agg (d29 x0),.agg (d34 x1),.agg (d49 x2)] [] (.d (Bo r)) []:=by
 unfold Y7 at h
 refine co 64 Tryz.func170 λ C hC=>?_
 obtain⟨y1,h2,h⟩:=Aw h
 refine wn jI 28 [] [pc Aye (Axw x0 x1 x2.A _ h2) []] [] 0 n3_ [3,4,5,6,7,20] hC [] ?_
 rcases cB h with⟨h3,h⟩ | ⟨h3,h⟩
 ·replace h:=sI h
  subst h
  exact wr jI 24 [true] [] [] 0 [] hC [pq h3]
 ·rcases cB h with⟨h4,h⟩ | ⟨h4,h⟩
  ·obtain⟨y5,h6,y7,h8,y9,h10,h⟩:=Bw h
   replace h:=sI h
   subst h
   exact wr jI 34 [false,true] [pc Aye (Axw x0 x1 x2.B _ h6) [],pR q87 h8,pR q87 h10,⟨.when [(!y5.2,false)] (.call 177 [.agg (d29 x0),.agg (d87 y7),.agg (d87 y9)] [] (dB (Akf x0 y7 y9)) [] []),λ hg=>⟨A3u,(A2m x0 y7 y9 _ rfl)⟩⟩] [] 0 [] hC [pq h3,pq h4]
  ·rcases cB h with⟨h11,h⟩ | ⟨h11,h⟩
   ·obtain⟨y12,h13,y14,h15,h⟩:=A_ h
    replace h:=sI h
    subst h
    exact wr jI 35 [false,false,true] [pr q87 h13,pr q87 h15,pc A3u (A2m x0 y12 y14 _ rfl) []] [] 0 [] hC [pq h3,pq h4,pq h11]
   ·replace h:=sI h
    subst h
    exact wr jI 37 [false,false,false] [] [] 0 [] hC [pq h3,pq h4,pq h11]
theorem A7i:EN 170:=en Tryz.func170
def Of:List Nat:=[0,1,2,3,4,5,8,9,10,11,12,13,14,15,16,17,23,44,63,76]
theorem A68 (x0:Aa) (x1:Ab) (x2:Int) (x3:Int) (r:Ab×Int) (h:Akn x0 x1 x2 x3=some r):CO 111 [.agg (d29 x0),.agg (d34 x1),.d (I x2),.d (I x3)] [] (.tup [.agg [.os 0,.os 1,.os 2,.os 3],.d (I r.2)]) (zp r.1 []):=by
 unfold Akn at h
 refine co 95 Tryz.func111 λ C hC=>?_
 obtain⟨y1,h2,h⟩:=Aw h
 refine wn Of 28 [] [pc e44 (k44 x0 x1 _ h2) []] [.ownb 2 0 4 1,.ownb 2 1 87 4,.ownb 2 2 3 1,.ownb 2 3 92 2] 0 n7_ [2,3,4,5,8,9,10,23] hC [] ?_
 rcases cB h with⟨h3,h⟩ | ⟨h3,h⟩
 ·replace h:=sI h
  subst h
  exact wr Of 24 [true] [] [.ownb 2 0 4 1,.ownb 2 1 87 4,.ownb 2 2 3 1,.ownb 2 3 92 2] 0 [7,8,9,10] hC [pq h3]
 ·rcases cB h with⟨h4,h⟩ | ⟨h4,h⟩
  ·replace h:=sI h
   subst h
   exact wr Of 29 [false,true] [pL_ [(decide (x2<0),false)] q98 x0.Ac] [.ownb 2 0 4 1,.ownb 2 1 87 4,.ownb 2 2 3 1,.ownb 2 3 92 2] 0 [7,8,9,10] hC [pq h3,pq h4]
  ·obtain⟨y5,h6,y7,h8,h⟩:=A_ h
   refine wn Of 33 [false,false] [pL_ [(decide (x2<0),false)] q98 x0.Ac,pc Aye (Axw x0 x1 x3 _ h6) [],pR q87 h8] [] 0 n7_ [2,4,5,8,9,11,63] hC [pq h3,pq h4] ?_
   rcases cB h with⟨h9,h⟩ | ⟨h9,h⟩
   ·replace h:=sI h
    subst h
    exact wr Of 24 [true] [] [.ownb 2 0 4 1,.ownb 2 1 87 4,.ownb 2 2 3 1,.ownb 2 3 92 2] 0 [7,8,9,10] hC [pq h9]
   ·obtain⟨y10,h11,y12,h13,h⟩:=A_ h
    refine wn Of 32 [false] [pc e35 (k35 x1 _ h11) [],pc A7o (A60 x0 x1 x2 _ h13) []] [] 0 E0 [4,5,8,9,11,13,14,15,76] hC [pq h9] ?_
    rcases cB h with⟨h14,h⟩ | ⟨h14,h⟩
    ·obtain⟨y15,h16,y17,h18,y19,h20,h⟩:=Bw h
     replace h:=sI h
     subst h
     exact wr Of 29 [true] [pc yZ (yN x0 x1 y12.1 _ h16) [],pr q87 h18,pc Aht (Ag5 y10 y15.1.Ac y17 _ h20) [7,8,9,10]] [] 0 [7,8,9,10] hC [pq h14]
    ·obtain⟨y21,h22,y23,h24,h⟩:=A_ h
     replace h:=sI h
     subst h
     exact wr Of 27 [false] [pr q87 h22,pc Aht (Ag5 y10 [x2] y21 _ h24) [7,8,9,10]] [] 0 [7,8,9,10] hC [pq h14]
theorem A7w:EN 111:=en Tryz.func111
def Axn:List Nat:=[0,1,2,3,4,5,6,7,8,9,10,20]
theorem k29 (x0:Aa) (x1:Ab) (r:Ab×(List Ak)×Int) (h:F29 x0 x1=some r):CO 29 [.agg (d29 x0),.agg (d34 x1)] [] (.tup [.agg [.os 0,.os 1,.os 2,.os 3],.d (.os 4),.d (I r.2.2)]) (zp r.1 [v2_ r.2.1]):=by
 unfold F29 at h
 refine co 34 Tryz.func29 λ C hC=>?_
 obtain⟨y1,h2,h⟩:=Aw h
 refine wn Axn 28 [] [pc e66 (k66 x0 x1 _ h2) []] [.ownb 2 0 4 1,.ownb 2 1 87 4,.ownb 2 2 3 1,.ownb 2 3 92 2] 0 [0,2,3,4,5,6,7,8,9,10,11,12] [2,4,5,6,7,8,9,20] hC [] ?_
 rcases cB h with⟨h3,h⟩ | ⟨h3,h⟩
 ·replace h:=sI h
  subst h
  exact wr Axn 24 [true] [] [.ownb 1 0 4 1,.ownb 1 1 87 4,.ownb 1 2 3 1,.ownb 1 3 92 2,.own 5 47 3] 0 [12,13,14,15,16] hC [pq h3]
 ·obtain⟨y4,h5,y6,h7,h⟩:=A_ h
  replace h:=sI h
  subst h
  exact wr Axn 27 [false] [⟨.call 67 [.agg (d29 x0),.agg [.os 0,.os 1,.os 2,.os 3]] (zp y1.1 []) (.tup [.agg [.os 4,.os 5,.os 6,.os 7],dS 8,dI y4.2.2]) (zp y1.1 (zp y4.1 [v2_ y4.2.1])) [2,3,4,5],⟨e67,((k67 x0 y1.1 _ h5).lend (by kernel_rfl) (by kernel_rfl) (by kernel_rfl) ⟨Bf (λ _=>rfl),Bf (λ _=>rfl),Bf (λ _=>rfl),Bf (λ _=>rfl),Bf (λ _=>rfl),trivial⟩ (by kernel_rfl) (by kernel_rfl))⟩⟩,pa q47 3 h7] [] 0 [12,13,14,15,17] hC [pq h3]
theorem e29:EN 29:=en Tryz.func29
def Ie:List Nat:=[0,1,4,5,6,8,13,14,15,16,32,38,39,40,41]
def N4 (x0:Ax) (n0:Nat) (z0:Sg8):St:=[(0,dO 0 0),(1,.d (.fn (.func 122) [] [.o 6 0])),(4,dS 7),(13,.d (DS q49 x0.An.Ad)),(14,dI (ln x0.An.Ad)),(15,dI (cnt 0 n0))]
def Sc  (n0:Nat) (z0:Sg8):List Res:=[.box 147 [I z0.1,DS q49 z0.2.1,DS q98 z0.2.2.1,DS q90 (g3_ z0),I (g4_ z0),I (g5_ z0),.os 8,.os 9,.os 10,.os 11,.os 12],.non,.non,.non,.non,.non,.box 112 [.o 0 0],v0_ (g6_ z0),v1_ (g7_ z0),v4_ (g8_ z0),v0_ (g9_ z0),v3_ (Cp z0),v2_ (C7 z0)]
def Abe  (z0:Sg8):St:=[(0,dO 0 0),(4,dS 7)]
def Acp  (z0:Sg8):List Res:=[.box 147 [I z0.1,DS q49 z0.2.1,DS q98 z0.2.2.1,DS q90 (g3_ z0),I (g4_ z0),I (g5_ z0),.os 8,.os 9,.os 10,.os 11,.os 12],.non,.non,.non,.non,.non,.box 112 [.o 0 0],v0_ (g6_ z0),v1_ (g7_ z0),v4_ (g8_ z0),v0_ (g9_ z0),v3_ (Cp z0),v2_ (C7 z0)]
def Th (z0:Sg8) (n1:Nat) (z1:Sg7):St:=[(0,dO 0 0),(38,dS 7),(39,dI (ln (g6_ z0))),(40,dI (cnt 0 n1))]
def Yw (z0:Sg8) (n1:Nat) (z1:Sg7):List Res:=[.box 147 [I z1.1,DS q49 z1.2.1,DS q98 z1.2.2.1,DS q90 (g3_ z1),I (g4_ z1),I (g5_ z1),.os 8,.os 9,.os 10,.os 11,.os 12],.non,.non,.non,.non,.non,.box 112 [.o 0 0],v0_ (g6_ z0),v1_ (g6_ z1),v4_ (g7_ z1),v0_ (g8_ z1),v3_ (g9_ z1),v2_ (Gj z1)]
def Abd  (z1:Sg7):St:=[]
def Aco  (z1:Sg7):List Res:=[.box 147 [I z1.1,DS q49 z1.2.1,DS q98 z1.2.2.1,DS q90 (g3_ z1),I (g4_ z1),I (g5_ z1),.os 7,.os 8,.os 9,.os 10,.os 11],.non,.non,.non,.non,.non,.box 112 [.o 0 0],v1_ (g6_ z1),v4_ (g7_ z1),v0_ (g8_ z1),v3_ (g9_ z1),v2_ (Gj z1)]
theorem A3b (x0:Ax) (r:Ax) (h:Vl x0=some r):CO 120 [.d (.o 0 0),.d (.fn (.func 122) [] [.o 6 0])] (.box 147 (zb x0.An [.os 1,.os 2,.os 3,.os 4,.os 5])::zp x0.Ao [v2_ x0.acts,.box 112 [.o 0 0]]) (.tup []) (.box 147 (zb r.An [.os 7,.os 8,.os 9,.os 10,.os 11]) :: .non :: .non :: .non :: .non :: .non :: .box 112 [.o 0 0]::zp r.Ao [v2_ r.acts]):=by
 unfold Vl at h
 refine co 48 Tryz.func120 λ C hC=>?_
 refine ws Ie 26 [] [pl q49 x0.An.Ad] [.own 4 3 1,.mv 1,.mv 2,.mv 3,.mv 4,.mv 5] 7 Dm (N4 x0 0 (zt x0.An (([]:List Int),zu x0.Ao x0.acts))) (Sc 0 (zt x0.An (([]:List Int),zu x0.Ao x0.acts))) hC [] ?_
 obtain⟨w0,hm0,hret0,hnext0⟩:=Av h
 clear h
 refine wc w0 (Abe) (Acp) ?_ λ z0 hs0=>?_
 ·refine wb ?_
  refine Bq 13 rfl λ hl0=>?_
  refine wl (N4 x0) (Sc) hm0 (λ z0 hn0=>?_) λ n0 a0 z0 w0b hi0 hx0 h hb0 hr0=>?_
  ·clear hm0
   exact wx w0 (Abe) (Acp) Ie 26 [false] [] [] 7 Dm _ hC [pq (A5 hl0)] hn0
  ·unfold Vk at h
   obtain⟨y1,h2,y3,h4,h⟩:=A_ h
   refine wn Ie 32 [true] [pt hx0 hl0,pr pB h2,pn pB h2,⟨.whenR [(y1,true)] (.call 122 [.agg (d49 a0),dO 0 0] [.box 112 [.o 1 0],.box 147 [I z0.1,DS q49 z0.2.1,DS q98 z0.2.2.1,DS q90 (g3_ z0),I (g4_ z0),I (g5_ z0),.os 2,.os 3,.os 4,.os 5,.os 6],v1_ (g7_ z0),v4_ (g8_ z0),v0_ (g9_ z0),v3_ (Cp z0),v2_ (C7 z0)] (dB y3.1) (.box 112 [.o 1 0] :: .box 147 (zb y3.2.An [.os 2,.os 3,.os 4,.os 5,.os 6])::zp y3.2.Ao [v2_ y3.2.acts]) [6,0,8,9,10,11,12]),⟨λ hg=>⟨A4g,(A28 a0 (⟨(⟨z0.1,z0.2.1,z0.2.2.1,(g3_ z0),(g4_ z0),(g5_ z0)⟩:Aa),(⟨(g7_ z0),(g8_ z0),(g9_ z0),(Cp z0)⟩:Ab),(C7 z0)⟩:Ax) _ (A1 h4 hg))⟩,λ hg=>by have e:=J5 h4 hg;subst e;rfl⟩⟩] [] 7 Dm [0,1,4,5,13,14,15,32] hC [pq (A4 hi0 hl0)] ?_
   rcases cB h with⟨h5,h⟩ | ⟨h5,h⟩
   ·obtain⟨y6,h7,h⟩:=Aw h
    exact wx w0b (N4 x0 (n0+1)) (Sc (n0+1)) Ie 25 [true] [pa pI 1 h7] [] 7 [0,1,2,3,4,5,6,13,8,9,10,11,12] _ hC [pq h5] (sI h).symm
   ·exact wx w0b (N4 x0 (n0+1)) (Sc (n0+1)) Ie 25 [false] [] [] 7 Dm _ hC [pq h5] (sI h).symm
 ·have h:=hnext0 _ hs0
  refine ws Ie 23 [] [pl pI (g6_ z0)] [] 7 Dm (Th z0 0 (z0.1,z0.2.1,z0.2.2.1,(g3_ z0),(g4_ z0),(g5_ z0),(g7_ z0),(g8_ z0),(g9_ z0),(Cp z0),(C7 z0))) (Yw z0 0 (z0.1,z0.2.1,z0.2.2.1,(g3_ z0),(g4_ z0),(g5_ z0),(g7_ z0),(g8_ z0),(g9_ z0),(Cp z0),(C7 z0))) hC [] ?_
  obtain⟨w1,hm1,hret1,hnext1⟩:=Av h
  clear h
  refine wc w1 (Abd) (Aco) ?_ λ z1 hs1=>?_
  ·refine wb ?_
   refine B1 38 7 rfl rfl λ hl1=>?_
   refine wl (Th z0) (Yw z0) hm1 (λ z1 hn1=>?_) λ n1 a1 z1 w1b hi1 hx1 h hb1 hr1=>?_
   ·clear hm1
    exact wx w1 (Abd) (Aco) Ie 26 [false] [] [] 7 [0,1,2,3,4,5,6,8,9,10,11,12] _ hC [pq (A5 hl1)] hn1
   ·unfold Ac2 at h
    obtain⟨y8,h9,h⟩:=Aw h
    exact wx w1b (Th z0 (n1+1)) (Yw z0 (n1+1)) Ie 33 [true] [pr pI (Bb hx1 hl1),pn pI (Bb hx1 hl1),pc Ahr (Ag3 (⟨(⟨z1.1,z1.2.1,z1.2.2.1,(g3_ z1),(g4_ z1),(g5_ z1)⟩:Aa),(⟨(g6_ z1),(g7_ z1),(g8_ z1),(g9_ z1)⟩:Ab),(Gj z1)⟩:Ax) a1 _ h9) [0,8,9,10,11,12]] [] 7 [0,1,2,3,4,5,6,7,8,9,10,11,13] _ hC [pq (A4 hi1 hl1)] (sI h).symm
  ·have h:=hnext1 _ hs1
   replace h:=sI h
   subst h
   exact wf Ie 20 [] [] [] 7 E0 hC []
theorem A4j:EN 120:=en Tryz.func120
def Ms:List Nat:=[0,1,2,7,8,9,10,11,12,38]
def Nz (x1:List Int) (x2:Int) (n0:Nat) (z0:(List Int)×(List Ak)):St:=[(0,dO 0 0),(2,dI x2),(9,dS 6),(10,dI (ln x1)),(11,dI (cnt 0 n0))]
def R8 (x0:Ax) (x1:List Int) (n0:Nat) (z0:(List Int)×(List Ak)):List Res:=[.box 147 (zb x0.An [.os 7,.os 8,.os 9,.os 10,.os 11]),.non,.non,.non,.non,.non,v0_ x1,v1_ x0.Ao.Ae,v4_ x0.Ao.Ac,v0_ z0.1,v3_ x0.Ao.Ah,v2_ z0.2]
def Aa6  (z0:(List Int)×(List Ak)):St:=[]
def Ach (x0:Ax) (x1:List Int) (z0:(List Int)×(List Ak)):List Res:=[.box 147 (zb x0.An [.os 7,.os 8,.os 9,.os 10,.os 11]),.non,.non,.non,.non,.non,v0_ x1,v1_ x0.Ao.Ae,v4_ x0.Ao.Ac,v0_ z0.1,v3_ x0.Ao.Ah,v2_ z0.2]
theorem A23 (x0:Ax) (x1:List Int) (x2:Int) (r:Ax) (h:Qe x0 x1 x2=some r):CO 127 [.d (.o 0 0),.d (.os 6),.d (I x2)] (.box 147 (zb x0.An [.os 1,.os 2,.os 3,.os 4,.os 5])::zp x0.Ao [v2_ x0.acts,v0_ x1]) (.tup []) (.box 147 (zb r.An [.os 7,.os 8,.os 9,.os 10,.os 11]) :: .non :: .non :: .non :: .non :: .non::v0_ x1::zp r.Ao [v2_ r.acts]):=by
 unfold Qe at h
 refine co 70 Tryz.func127 λ C hC=>?_
 refine ws Ms 23 [] [pl pI x1] [.mv 1,.mv 2,.mv 3,.mv 4,.mv 5] 7 E0 (Nz x1 x2 0 (x0.Ao.Al,x0.acts)) (R8 x0 x1 0 (x0.Ao.Al,x0.acts)) hC [] ?_
 obtain⟨w0,hm0,hret0,hnext0⟩:=Av h
 clear h
 refine wc w0 (Aa6) (Ach x0 x1) ?_ λ z0 hs0=>?_
 ·refine wb ?_
  refine B1 9 6 rfl rfl λ hl0=>?_
  refine wl (Nz x1 x2) (R8 x0 x1) hm0 (λ z0 hn0=>?_) λ n0 a0 z0 w0b hi0 hx0 h hb0 hr0=>?_
  ·clear hm0
   exact wx w0 (Aa6) (Ach x0 x1) Ms 26 [false] [] [] 7 E0 _ hC [pq (A5 hl0)] hn0
  ·unfold Vd at h
   obtain⟨y1,h2,y3,h4,y5,h6,h⟩:=Bw h
   refine wn Ms 34 [true] [pr pI (Bb hx0 hl0),pn pI (Bb hx0 hl0),pb At6 (Ate (⟨x0.An,(⟨x0.Ao.Ae,x0.Ao.Ac,z0.1,x0.Ao.Ah⟩:Ab),z0.2⟩:Ax) x2 _ h2),pr pI h4,pn pI h4,pr q90 h6] [] 7 E0 [0,2,7,8,9,10,11,38] hC [pq (A4 hi0 hl0)] ?_
   rcases cB h with⟨h7,h⟩ | ⟨h7,h⟩
   ·obtain⟨y8,h9,y10,h11,y12,h13,h⟩:=Bw h
    exact wx w0b (Nz x1 x2 (n0+1)) (R8 x0 x1 (n0+1)) Ms 27 [true] [pr pI h4,pn pI h4,pr pI h4,pu pI h4 h9,pr pI h11,pn pI h11,pa q47 3 h13] [] 7 [0,1,2,3,4,5,6,7,8,9,10,12] _ hC [pq h7] (sI h).symm
   ·exact wx w0b (Nz x1 x2 (n0+1)) (R8 x0 x1 (n0+1)) Ms 25 [false] [] [] 7 E0 _ hC [pq h7] (sI h).symm
 ·have h:=hnext0 _ hs0
  replace h:=sI h
  subst h
  exact wf Ms 20 [] [] [] 7 E0 hC []
theorem A4b:EN 127:=en Tryz.func127
def Mr:List Nat:=[0,1,2,7,8,9,10,11,28]
def Ny (x1:List Int) (x2:Int) (n0:Nat) (z0:Sg7):St:=[(0,dO 0 0),(2,dI x2),(8,dS 6),(9,dI (ln x1)),(10,dI (cnt 0 n0))]
def R7 (x1:List Int) (n0:Nat) (z0:Sg7):List Res:=[.box 147 [I z0.1,DS q49 z0.2.1,DS q98 z0.2.2.1,DS q90 (g3_ z0),I (g4_ z0),I (g5_ z0),.os 7,.os 8,.os 9,.os 10,.os 11],.non,.non,.non,.non,.non,v0_ x1,v1_ (g6_ z0),v4_ (g7_ z0),v0_ (g8_ z0),v3_ (g9_ z0),v2_ (Gj z0)]
def Aa5  (z0:Sg7):St:=[]
def Acg (x1:List Int) (z0:Sg7):List Res:=[.box 147 [I z0.1,DS q49 z0.2.1,DS q98 z0.2.2.1,DS q90 (g3_ z0),I (g4_ z0),I (g5_ z0),.os 7,.os 8,.os 9,.os 10,.os 11],.non,.non,.non,.non,.non,v0_ x1,v1_ (g6_ z0),v4_ (g7_ z0),v0_ (g8_ z0),v3_ (g9_ z0),v2_ (Gj z0)]
theorem A22 (x0:Ax) (x1:List Int) (x2:Int) (r:Ax) (h:Qd x0 x1 x2=some r):CO 128 [.d (.o 0 0),.d (.os 6),.d (I x2)] (.box 147 (zb x0.An [.os 1,.os 2,.os 3,.os 4,.os 5])::zp x0.Ao [v2_ x0.acts,v0_ x1]) (.tup []) (.box 147 (zb r.An [.os 7,.os 8,.os 9,.os 10,.os 11]) :: .non :: .non :: .non :: .non :: .non::v0_ x1::zp r.Ao [v2_ r.acts]):=by
 unfold Qd at h
 refine co 33 Tryz.func128 λ C hC=>?_
 refine ws Mr 23 [] [pl pI x1] [.mv 1,.mv 2,.mv 3,.mv 4,.mv 5] 7 E0 (Ny x1 x2 0 (zt x0.An (zu x0.Ao x0.acts))) (R7 x1 0 (zt x0.An (zu x0.Ao x0.acts))) hC [] ?_
 obtain⟨w0,hm0,hret0,hnext0⟩:=Av h
 clear h
 refine wc w0 (Aa5) (Acg x1) ?_ λ z0 hs0=>?_
 ·refine wb ?_
  refine B1 8 6 rfl rfl λ hl0=>?_
  refine wl (Ny x1 x2) (R7 x1) hm0 (λ z0 hn0=>?_) λ n0 a0 z0 w0b hi0 hx0 h hb0 hr0=>?_
  ·clear hm0
   exact wx w0 (Aa5) (Acg x1) Mr 26 [false] [] [] 7 E0 _ hC [pq (A5 hl0)] hn0
  ·unfold Vc at h
   obtain⟨y1,h2,y3,h4,h⟩:=A_ h
   refine wn Mr 32 [true] [pr pI (Bb hx0 hl0),pn pI (Bb hx0 hl0),pr pI h2,pn pI h2,pv At6 (λ hg=>Ate (⟨(⟨z0.1,z0.2.1,z0.2.2.1,(g3_ z0),(g4_ z0),(g5_ z0)⟩:Aa),(⟨(g6_ z0),(g7_ z0),(g8_ z0),(g9_ z0)⟩:Ab),(Gj z0)⟩:Ax) x2 _ (A1 h4 hg))] [] 7 Dm [0,2,7,8,9,10,28] hC [pq (A4 hi0 hl0)] ?_
   rcases cB h with⟨h5,h⟩ | ⟨h5,h⟩
   ·obtain⟨y6,h7,h⟩:=Aw h
    exact wx w0b (Ny x1 x2 (n0+1)) (R7 x1 (n0+1)) Mr 25 [true] [pc A4i (A3a (⟨(⟨z0.1,z0.2.1,z0.2.2.1,(g3_ z0),(g4_ z0),(g5_ z0)⟩:Aa),(⟨(g6_ z0),(g7_ z0),(g8_ z0),(g9_ z0)⟩:Ab),(Gj z0)⟩:Ax) a0 _ h7) [0,7,8,9,10,11,12]] [] 7 [0,1,2,3,4,5,6,13,14,15,16,17] _ hC [pq h5] (sI h).symm
   ·exact wx w0b (Ny x1 x2 (n0+1)) (R7 x1 (n0+1)) Mr 25 [false] [] [] 7 E0 _ hC [pq h5] (sI h).symm
 ·have h:=hnext0 _ hs0
  replace h:=sI h
  subst h
  exact wf Mr 20 [] [] [] 7 E0 hC []
theorem A4a:EN 128:=en Tryz.func128
def Jy:List Nat:=[0,2,3,4,6,11,12,13,14,46,52,53,54,55]
def Ql (x0:Ay) (n0:Nat) (z0:(List Int)):St:=[(0,dO 0 0),(2,dS 7),(11,.d (DS q49 x0.An.Ad)),(12,dI (ln x0.An.Ad)),(13,dI (cnt 0 n0))]
def Wq (x0:Ay) (n0:Nat) (z0:(List Int)):List Res:=(.box 80 (zb x0.An [.os 8,.os 9,.os 10,.os 11,.os 12,.os 13]) :: .non :: .non :: .non :: .non :: .non :: .non::v0_ z0::zp x0.Ao [v1_ x0.goal,v2_ x0.acts])
def Af0  (z0:(List Int)):St:=[(0,dO 0 0),(2,dS 7)]
def Aim (x0:Ay) (z0:(List Int)):List Res:=(.box 80 (zb x0.An [.os 8,.os 9,.os 10,.os 11,.os 12,.os 13]) :: .non :: .non :: .non :: .non :: .non :: .non::v0_ z0::zp x0.Ao [v1_ x0.goal,v2_ x0.acts])
def Xr (z0:(List Int)) (n1:Nat) (z1:Sg6):St:=[(0,dO 0 0),(52,dS 7),(53,dI (ln z0)),(54,dI (cnt 0 n1))]
def zO (z0:(List Int)) (n1:Nat) (z1:Sg6):List Res:=[.box 80 [I z1.1,DS q49 z1.2.1,DS q98 z1.2.2.1,DS q90 (g3_ z1),I (g4_ z1),I (g5_ z1),.os 8,.os 9,.os 10,.os 11,.os 12,.os 13],.non,.non,.non,.non,.non,.non,v0_ z0,v1_ (g6_ z1),v4_ (g7_ z1),v0_ (g8_ z1),v3_ (g9_ z1),v1_ (Cp z1),v2_ (C7 z1)]
def Afz  (z1:Sg6):St:=[]
def Ail  (z1:Sg6):List Res:=[.box 80 [I z1.1,DS q49 z1.2.1,DS q98 z1.2.2.1,DS q90 (g3_ z1),I (g4_ z1),I (g5_ z1),.os 7,.os 8,.os 9,.os 10,.os 11,.os 12],.non,.non,.non,.non,.non,.non,v1_ (g6_ z1),v4_ (g7_ z1),v0_ (g8_ z1),v3_ (g9_ z1),v1_ (Cp z1),v2_ (C7 z1)]
theorem A5y (x0:Ay) (r:Ay) (h:Ww x0=some r):CO 36 [.d (.o 0 0)] (.box 80 (zb x0.An [.os 1,.os 2,.os 3,.os 4,.os 5,.os 6])::zp x0.Ao [v1_ x0.goal,v2_ x0.acts]) (.tup []) (.box 80 (zb r.An [.os 7,.os 8,.os 9,.os 10,.os 11,.os 12]) :: .non :: .non :: .non :: .non :: .non :: .non::zp r.Ao [v1_ r.goal,v2_ r.acts]):=by
 unfold Ww at h
 refine co 62 Tryz.func36 λ C hC=>?_
 refine ws Jy 26 [] [pl q49 x0.An.Ad] [.own 2 3 1,.mv 1,.mv 2,.mv 3,.mv 4,.mv 5,.mv 6] 7 Kn (Ql x0 0 ([]:List Int)) (Wq x0 0 ([]:List Int)) hC [] ?_
 obtain⟨w0,hm0,hret0,hnext0⟩:=Av h
 clear h
 refine wc w0 (Af0) (Aim x0) ?_ λ z0 hs0=>?_
 ·refine wb ?_
  refine Bq 11 rfl λ hl0=>?_
  refine wl (Ql x0) (Wq x0) hm0 (λ z0 hn0=>?_) λ n0 a0 z0 w0b hi0 hx0 h hb0 hr0=>?_
  ·clear hm0
   exact wx w0 (Af0) (Aim x0) Jy 26 [false] [] [] 7 Kn _ hC [pq (A5 hl0)] hn0
  ·unfold Y6 at h
   obtain⟨y1,h2,y3,h4,y5,h6,h⟩:=Bw h
   refine wn Jy 32 [true] [pt hx0 hl0,pR pB h2,pN pB h2,pv e76 (λ hg=>k76 x0.Ao 2 (cnt 0 n0) _ (A1 h4 hg)),pv Wh (λ hg=>Wc x0 a0.A _ (A1 h6 hg))] [] 7 Kn [0,2,3,11,12,13,46] hC [pq (A4 hi0 hl0)] ?_
   rcases cB h with⟨h7,h⟩ | ⟨h7,h⟩
   ·obtain⟨y8,h9,h⟩:=Aw h
    exact wx w0b (Ql x0 (n0+1)) (Wq x0 (n0+1)) Jy 25 [true] [pa pI 1 h9] [] 7 [0,1,2,3,4,5,6,14,8,9,10,11,12,13] _ hC [pq h7] (sI h).symm
   ·exact wx w0b (Ql x0 (n0+1)) (Wq x0 (n0+1)) Jy 25 [false] [] [] 7 Kn _ hC [pq h7] (sI h).symm
 ·have h:=hnext0 _ hs0
  refine ws Jy 23 [] [pl pI z0] [] 7 Kn (Xr z0 0 (zt x0.An (zu x0.Ao (x0.goal,x0.acts)))) (zO z0 0 (zt x0.An (zu x0.Ao (x0.goal,x0.acts)))) hC [] ?_
  obtain⟨w1,hm1,hret1,hnext1⟩:=Av h
  clear h
  refine wc w1 (Afz) (Ail) ?_ λ z1 hs1=>?_
  ·refine wb ?_
   refine B1 52 7 rfl rfl λ hl1=>?_
   refine wl (Xr z0) (zO z0) hm1 (λ z1 hn1=>?_) λ n1 a1 z1 w1b hi1 hx1 h hb1 hr1=>?_
   ·clear hm1
    exact wx w1 (Afz) (Ail) Jy 26 [false] [] [] 7 [0,1,2,3,4,5,6,8,9,10,11,12,13] _ hC [pq (A5 hl1)] hn1
   ·unfold Y5 at h
    obtain⟨y10,h11,h⟩:=Aw h
    exact wx w1b (Xr z0 (n1+1)) (zO z0 (n1+1)) Jy 33 [true] [pr pI (Bb hx1 hl1),pn pI (Bb hx1 hl1),pc Adk (Adi (⟨(⟨z1.1,z1.2.1,z1.2.2.1,(g3_ z1),(g4_ z1),(g5_ z1)⟩:Aa),(⟨(g6_ z1),(g7_ z1),(g8_ z1),(g9_ z1)⟩:Ab),(Cp z1),(C7 z1)⟩:Ay) 2 a1 _ h11) [0,8,9,10,11,12,13]] [] 7 [0,1,2,3,4,5,6,7,8,9,10,11,12,14] _ hC [pq (A4 hi1 hl1)] (sI h).symm
  ·have h:=hnext1 _ hs1
   replace h:=sI h
   subst h
   exact wf Jy 20 [] [] [] 7 Dm hC []
theorem A6d:EN 36:=en Tryz.func36
def Ln:List Nat:=[0,2,3,4,9,10,11,12,44,46,47,71]
def Kf (x0:Ay) (n0:Nat) (z0:Sg9):St:=[(0,dO 0 0),(2,dI z0.1),(9,dS 8),(10,dI (ln x0.Ao.Ac)),(11,dI (cnt 0 n0))]
def Mw (x0:Ay) (n0:Nat) (z0:Sg9):List Res:=[.box 80 (zb x0.An [.os 7,.os 8,.os 9,.os 10,.os 11,.os 12]),.non,.non,.non,.non,.non,.non,v1_ x0.Ao.Ae,v4_ z0.2.1,v0_ x0.Ao.Al,v3_ x0.Ao.Ah,v1_ x0.goal,v2_ z0.2.2]
def Afy  (z0:Sg9):St:=[(0,dO 0 0),(2,dI z0.1)]
def Aik (x0:Ay) (z0:Sg9):List Res:=[.box 80 (zb x0.An [.os 7,.os 8,.os 9,.os 10,.os 11,.os 12]),.non,.non,.non,.non,.non,.non,v1_ x0.Ao.Ae,v4_ z0.2.1,v0_ x0.Ao.Al,v3_ x0.Ao.Ah,v1_ x0.goal,v2_ z0.2.2]
theorem A5x (x0:Ay) (r:Ay) (h:uP x0=some r):CO 37 [.d (.o 0 0)] (.box 80 (zb x0.An [.os 1,.os 2,.os 3,.os 4,.os 5,.os 6])::zp x0.Ao [v1_ x0.goal,v2_ x0.acts]) (.tup []) (.box 80 (zb r.An [.os 7,.os 8,.os 9,.os 10,.os 11,.os 12]) :: .non :: .non :: .non :: .non :: .non :: .non::zp r.Ao [v1_ r.goal,v2_ r.acts]):=by
 unfold uP at h
 refine co 105 Tryz.func37 λ C hC=>?_
 refine ws Ln 26 [] [pl q87 x0.Ao.Ac] [.mv 1,.mv 2,.mv 3,.mv 4,.mv 5,.mv 6] 7 Dm (Kf x0 0 (0,x0.Ao.Ac,x0.acts)) (Mw x0 0 (0,x0.Ao.Ac,x0.acts)) hC [] ?_
 obtain⟨w0,hm0,hret0,hnext0⟩:=Av h
 clear h
 refine wc w0 (Afy) (Aik x0) ?_ λ z0 hs0=>?_
 ·refine wb ?_
  refine B1 9 8 rfl rfl λ hl0=>?_
  refine wl (Kf x0) (Mw x0) hm0 (λ z0 hn0=>?_) λ n0 a0 z0 w0b hi0 hx0 h hb0 hr0=>?_
  ·clear hm0
   exact wx w0 (Afy) (Aik x0) Ln 26 [false] [] [] 7 Dm _ hC [pq (A5 hl0)] hn0
  ·unfold Y4 at h
   obtain⟨y1,h2,y3,h4,y5,h6,h⟩:=Bw h
   obtain⟨y7,h8,y9,h10,h⟩:=A_ h
   refine wn Ln 33 [true] [pr q87 h2,pn q87 h2,pb e55 (k55 x0.An (⟨x0.Ao.Ae,z0.2.1,x0.Ao.Al,x0.Ao.Ah⟩:Ab) (cnt 0 n0) _ h4),pw e56 (λ hg=>k56 x0.An (cnt 0 n0) _ (A1 h6 hg)) [],pR q49 h8,pv Wh (λ hg=>Wc (⟨x0.An,(⟨x0.Ao.Ae,z0.2.1,x0.Ao.Al,x0.Ao.Ah⟩:Ab),x0.goal,z0.2.2⟩:Ay) y7.A _ (A1 h10 hg))] [] 7 Kn [0,2,3,4,9,10,11,44] hC [pq (A4 hi0 hl0)] ?_
   rcases cB h with⟨h11,h⟩ | ⟨h11,h⟩
   ·exact wx w0b (Kf x0 (n0+1)) (Mw x0 (n0+1)) Ln 24 [true] [] [] 7 Dm _ hC [pq h11] (sI h).symm
   ·rcases cB h with⟨h12,h⟩ | ⟨h12,h⟩
    ·obtain⟨y13,h14,y15,h16,y17,h18,h⟩:=Bw h
     exact wx w0b (Kf x0 (n0+1)) (Mw x0 (n0+1)) Ln 37 [false,true] [pa q47 3 h14,pr q98 h16,pr q87 h2,pu q87 h2 h18] [] 7 [0,1,2,3,4,5,6,7,8,9,10,11,14] _ hC [pq h11,pq h12] (sI h).symm
    ·rcases cB h with⟨h19,h⟩ | ⟨h19,h⟩
     ·obtain⟨y20,h21,y22,h23,h⟩:=A_ h
      exact wx w0b (Kf x0 (n0+1)) (Mw x0 (n0+1)) Ln 38 [false,false,true] [pr q98 h21,pr q87 h2,pu q87 h2 h23] [] 7 Dm _ hC [pq h11,pq h12,pq h19] (sI h).symm
     ·obtain⟨y24,h25,h⟩:=Aw h
      exact wx w0b (Kf x0 (n0+1)) (Mw x0 (n0+1)) Ln 38 [false,false,false] [pr q87 h2,pu q87 h2 h25] [] 7 Dm _ hC [pq h11,pq h12,pq h19] (sI h).symm
 ·have h:=hnext0 _ hs0
  obtain⟨y26,h27,y28,h29,h⟩:=A_ h
  replace h:=sI h
  subst h
  exact wf Ln 21 [] [pc e83 (k83 [(⟨7,0,0⟩:Ak)] z0.1 _ h27) [],pa q47 3 h29] [] 7 [0,1,2,3,4,5,6,7,8,9,10,11,14] hC []
theorem A6c:EN 37:=en Tryz.func37
def Jw:List Nat:=[0,2,3,4,9,10,11,18,19,20,56]
def Xq (x0:Ay) (z0:H7):St:=[(0,dO 0 0),(9,dI x0.An.Am),(10,dI z0.1)]
def zN  (z0:H7):List Res:=[.box 80 [I z0.2.1,DS q49 z0.2.2.1,DS q98 (g3_ z0),DS q90 (g4_ z0),I (g5_ z0),I (g6_ z0),.os 7,.os 8,.os 9,.os 10,.os 11,.os 12],.non,.non,.non,.non,.non,.non,v1_ (g7_ z0),v4_ (g8_ z0),v0_ (g9_ z0),v3_ (Cp z0),v1_ (O8 z0),v2_ (K9 z0)]
def Afx  (z0:H7):St:=[]
def Aij  (z0:H7):List Res:=[.box 80 [I z0.2.1,DS q49 z0.2.2.1,DS q98 (g3_ z0),DS q90 (g4_ z0),I (g5_ z0),I (g6_ z0),.os 7,.os 8,.os 9,.os 10,.os 11,.os 12],.non,.non,.non,.non,.non,.non,v1_ (g7_ z0),v4_ (g8_ z0),v0_ (g9_ z0),v3_ (Cp z0),v1_ (O8 z0),v2_ (K9 z0)]
def Qk (x0:Ay) (z0:H7) (z1:H7):St:=[(0,dO 0 0),(2,dI z0.1),(9,dI x0.An.Am),(10,dI z0.1),(18,dI (ln (g3_ z0))),(19,dI z1.1)]
def Wp  (z1:H7):List Res:=[.box 80 [I z1.2.1,DS q49 z1.2.2.1,DS q98 (g3_ z1),DS q90 (g4_ z1),I (g5_ z1),I (g6_ z1),.os 7,.os 8,.os 9,.os 10,.os 11,.os 12],.non,.non,.non,.non,.non,.non,v1_ (g7_ z1),v4_ (g8_ z1),v0_ (g9_ z1),v3_ (Cp z1),v1_ (O8 z1),v2_ (K9 z1)]
def Afw (x0:Ay) (z0:H7) (z1:H7):St:=[(0,dO 0 0),(9,dI x0.An.Am),(10,dI z0.1)]
def Aii  (z1:H7):List Res:=[.box 80 [I z1.2.1,DS q49 z1.2.2.1,DS q98 (g3_ z1),DS q90 (g4_ z1),I (g5_ z1),I (g6_ z1),.os 7,.os 8,.os 9,.os 10,.os 11,.os 12],.non,.non,.non,.non,.non,.non,v1_ (g7_ z1),v4_ (g8_ z1),v0_ (g9_ z1),v3_ (Cp z1),v1_ (O8 z1),v2_ (K9 z1)]
theorem A5w (x0:Ay) (r:Ay) (h:uO x0=some r):CO 38 [.d (.o 0 0)] (.box 80 (zb x0.An [.os 1,.os 2,.os 3,.os 4,.os 5,.os 6])::zp x0.Ao [v1_ x0.goal,v2_ x0.acts]) (.tup []) (.box 80 (zb r.An [.os 7,.os 8,.os 9,.os 10,.os 11,.os 12]) :: .non :: .non :: .non :: .non :: .non :: .non::zp r.Ao [v1_ r.goal,v2_ r.acts]):=by
 unfold uO at h
 refine co 62 Tryz.func38 λ C hC=>?_
 refine ws Jw 23 [] [] [.mv 1,.mv 2,.mv 3,.mv 4,.mv 5,.mv 6] 7 Dm (Xq x0 (0,zt x0.An (zu x0.Ao (x0.goal,x0.acts)))) (zN (0,zt x0.An (zu x0.Ao (x0.goal,x0.acts)))) hC [] ?_
 obtain⟨w0,hm0,hret0,hnext0⟩:=Av h
 clear h
 refine wc w0 (Afx) (Aij) ?_ λ z0 hs0=>?_
 ·refine wb ?_
  refine ww (Xq x0) (zN) hm0 λ z0 w0b h hb0 hr0=>?_
  unfold Y3 at h
  rcases cB h with⟨h1,h⟩ | ⟨h1,h⟩
  ·refine ws Jw 32 [true] [pl q98 (g3_ z0)] [] 7 Dm (Qk x0 z0 (0,z0.2.1,z0.2.2.1,(g3_ z0),(g4_ z0),(g5_ z0),(g6_ z0),(g7_ z0),(g8_ z0),(g9_ z0),(Cp z0),(O8 z0),(K9 z0))) (Wp (0,z0.2.1,z0.2.2.1,(g3_ z0),(g4_ z0),(g5_ z0),(g6_ z0),(g7_ z0),(g8_ z0),(g9_ z0),(Cp z0),(O8 z0),(K9 z0))) hC [pq h1] ?_
   obtain⟨w1,hm1,hret1,hnext1⟩:=Av h
   clear h
   refine wc w1 (Afw x0 z0) (Aii) ?_ λ z1 hs1=>?_
   ·refine wb ?_
    refine ww (Qk x0 z0) (Wp) hm1 λ z1 w1b h hb1 hr1=>?_
    unfold Y2 at h
    rcases cB h with⟨h2,h⟩ | ⟨h2,h⟩
    ·obtain⟨y3,h4,y5,h6,y7,h8,y9,h10,h⟩:=C8 h
     refine wn Jw 34 [true] [pc e56 (k56 (⟨z1.2.1,z1.2.2.1,(g3_ z1),(g4_ z1),(g5_ z1),(g6_ z1)⟩:Aa) z1.1 _ h4) [],pr q49 h6,pv e55 (λ hg=>k55 (⟨z1.2.1,z1.2.2.1,(g3_ z1),(g4_ z1),(g5_ z1),(g6_ z1)⟩:Aa) (⟨(g7_ z1),(g8_ z1),(g9_ z1),(Cp z1)⟩:Ab) z1.1 _ (A1 h8 hg)),pv Wh (λ hg=>Wc (⟨(⟨z1.2.1,z1.2.2.1,(g3_ z1),(g4_ z1),(g5_ z1),(g6_ z1)⟩:Aa),(⟨(g7_ z1),(g8_ z1),(g9_ z1),(Cp z1)⟩:Ab),(O8 z1),(K9 z1)⟩:Ay) z0.1 _ (A1 h10 hg))] [] 7 Dm [0,2,4,9,10,18,19,56] hC [pq h2] ?_
     rcases cB h with⟨h11,h⟩ | ⟨h11,h⟩
     ·obtain⟨y12,h13,h⟩:=Aw h
      exact wx w1b (Qk x0 z0) (Wp) Jw 25 [true] [pc Adk (Adi (⟨(⟨z1.2.1,z1.2.2.1,(g3_ z1),(g4_ z1),(g5_ z1),(g6_ z1)⟩:Aa),(⟨(g7_ z1),(g8_ z1),(g9_ z1),(Cp z1)⟩:Ab),(O8 z1),(K9 z1)⟩:Ay) 1 y3 _ h13) [0,7,8,9,10,11,12]] [] 7 [0,1,2,3,4,5,6,7,8,9,10,11,13] _ hC [pq h11] (sI h).symm
     ·exact wx w1b (Qk x0 z0) (Wp) Jw 25 [false] [] [] 7 Dm _ hC [pq h11] (sI h).symm
    ·exact wx w1 (Afw x0 z0) (Aii) Jw 26 [false] [] [] 7 Dm (z1.1,z1.2.1,z1.2.2.1,(g3_ z1),(g4_ z1),(g5_ z1),(g6_ z1),(g7_ z1),(g8_ z1),(g9_ z1),(Cp z1),(O8 z1),(K9 z1)) hC [pq h2] (hb1 _ (sI h).symm)
   ·have h:=hnext1 _ hs1
    exact wx w0b (Xq x0) (zN) Jw 23 [] [] [] 7 Dm _ hC [] (sI h).symm
  ·exact wx w0 (Afx) (Aij) Jw 26 [false] [] [] 7 Dm (z0.1,z0.2.1,z0.2.2.1,(g3_ z0),(g4_ z0),(g5_ z0),(g6_ z0),(g7_ z0),(g8_ z0),(g9_ z0),(Cp z0),(O8 z0),(K9 z0)) hC [pq h1] (hb0 _ (sI h).symm)
 ·have h:=hnext0 _ hs0
  replace h:=sI h
  subst h
  exact wf Jw 20 [] [] [] 7 Dm hC []
theorem A6b:EN 38:=en Tryz.func38
def Pp:List Nat:=[0,2,3,4,5,10,11,12,13,63]
def Xp (x0:Ay) (n0:Nat) (z0:Unit):St:=[(0,.d (.ip [.v (.int .i64 x0.An.Am),.s (x0.An.Ad.map q49),.s (x0.An.Ac.map q98),.s (x0.An.Af.map q90),.v (.int .i64 x0.An.Phase),.v (.int .i64 x0.An.Au),.s (x0.Ao.Ae.map pB),.s (x0.Ao.Ac.map q87),.s (x0.Ao.Al.map pI),.s (x0.Ao.Ah.map q92),.s (x0.goal.map pB),.s (x0.acts.map q47)])),(2,dI 0),(3,dB false),(10,.d (DS q49 x0.An.Ad)),(11,dI (ln x0.An.Ad)),(12,dI (cnt 0 n0))]
def zM  (n0:Nat) (z0:Unit):List Res:=[]
def Afv  (z0:Unit):St:=[(2,dI 0),(3,dB false)]
def Aih  (z0:Unit):List Res:=[]
theorem A5v (x0:Ay) (r:Int×Bool) (h:uN x0=some r):CO 39 [.d (.ip [.v (.int .i64 x0.An.Am),.s (x0.An.Ad.map q49),.s (x0.An.Ac.map q98),.s (x0.An.Af.map q90),.v (.int .i64 x0.An.Phase),.v (.int .i64 x0.An.Au),.s (x0.Ao.Ae.map pB),.s (x0.Ao.Ac.map q87),.s (x0.Ao.Al.map pI),.s (x0.Ao.Ah.map q92),.s (x0.goal.map pB),.s (x0.acts.map q47)])] [] (.tup [.d (I r.1),.d (Bo r.2)]) []:=by
 unfold uN at h
 refine co 66 Tryz.func39 λ C hC=>?_
 refine ws Pp 26 [] [pl q49 x0.An.Ad] [] 0 [] (Xp x0 0 ()) (zM 0 ()) hC [] ?_
 obtain⟨w0,hm0,hret0,hnext0⟩:=Av h
 clear h
 refine wc w0 (Afv) (Aih) ?_ λ z0 hs0=>?_
 ·refine wb ?_
  refine Bq 10 rfl λ hl0=>?_
  refine wl (Xp x0) (zM) hm0 (λ z0 hn0=>?_) λ n0 a0 z0 w0b hi0 hx0 h hb0 hr0=>?_
  ·clear hm0
   exact wx w0 (Afv) (Aih) Pp 26 [false] [] [] 0 [] _ hC [pq (A5 hl0)] hn0
  ·unfold Y1 at h
   obtain⟨y1,h2,y3,h4,y5,h6,h⟩:=Bw h
   obtain⟨y7,h8,y9,h10,h⟩:=A_ h
   refine wn Pp 32 [true] [pt hx0 hl0,pR pB h2,pw e57 (λ hg=>k57 x0.An x0.Ao (cnt 0 n0) _ (A1 h4 hg)) [],pR pB h6,pw Wh (λ hg=>Wc x0 a0.A _ (A1 h8 hg)) [],pw Wh (λ hg=>Wc x0 a0.B _ (A1 h10 hg)) []] [] 0 [] [0,2,3,4,10,11,12,63] hC [pq (A4 hi0 hl0)] ?_
   rcases cB h with⟨h11,h⟩ | ⟨h11,h⟩
   ·have hq:=hret0 _ (hr0 _ (sI h).symm)
    replace hq:=sI hq
    subst hq
    exact wr Pp 24 [true] [] [] 0 [] hC [pq h11]
   ·exact wx w0b (Xp x0 (n0+1)) (zM (n0+1)) Pp 25 [false] [] [] 0 [] _ hC [pq h11] (sI h).symm
 ·have h:=hnext0 _ hs0
  replace h:=sI h
  subst h
  exact wr Pp 23 [] [] [] 0 [] hC []
theorem A6a:EN 39:=en Tryz.func39
def Ha:List Nat:=[0,1,3,5,6,7,13,14,15,37,42,43,44,45,77,109]
def zL  (z0:Sg6):List Res:=[.box 80 [I z0.1,DS q49 z0.2.1,DS q98 z0.2.2.1,DS q90 (g3_ z0),I (g4_ z0),I (g5_ z0),.os 9,.os 10,.os 11,.os 12,.os 13,.os 14],.non,.non,.non,.non,.non,.non,.box 77 [.o 0 0],.non,v1_ (g6_ z0),v4_ (g7_ z0),v0_ (g8_ z0),v3_ (g9_ z0),v1_ (Cp z0),v2_ (C7 z0)]
def Xo (z0:Sg6) (a0:(Int×Int)) (n1:Nat) (z1:Sg6):St:=[(1,dO 7 0),(3,dI a0.2),(42,.d (DS q49 z0.2.1)),(43,dI (ln z0.2.1)),(44,dI (cnt 0 n1))]
def zK  (n1:Nat) (z1:Sg6):List Res:=[.box 80 [I z1.1,DS q49 z1.2.1,DS q98 z1.2.2.1,DS q90 (g3_ z1),I (g4_ z1),I (g5_ z1),.os 9,.os 10,.os 11,.os 12,.os 13,.os 14],.non,.non,.non,.non,.non,.non,.box 77 [.o 0 0],.non,v1_ (g6_ z1),v4_ (g7_ z1),v0_ (g8_ z1),v3_ (g9_ z1),v1_ (Cp z1),v2_ (C7 z1)]
def Qv  (z1:Sg6):St:=[]
def Rz  (z1:Sg6):List Res:=[.box 80 [I z1.1,DS q49 z1.2.1,DS q98 z1.2.2.1,DS q90 (g3_ z1),I (g4_ z1),I (g5_ z1),.os 9,.os 10,.os 11,.os 12,.os 13,.os 14],.non,.non,.non,.non,.non,.non,.box 77 [.o 0 0],.non,v1_ (g6_ z1),v4_ (g7_ z1),v0_ (g8_ z1),v3_ (g9_ z1),v1_ (Cp z1),v2_ (C7 z1)]
theorem A5u (x0:Ay) (r:Ay) (h:uM x0=some r):CO 41 [.d (.o 0 0)] (.box 80 (zb x0.An [.os 1,.os 2,.os 3,.os 4,.os 5,.os 6])::zp x0.Ao [v1_ x0.goal,v2_ x0.acts]) (.tup []) (.box 80 (zb r.An [.os 7,.os 8,.os 9,.os 10,.os 11,.os 12]) :: .non :: .non :: .non :: .non :: .non :: .non::zp r.Ao [v1_ r.goal,v2_ r.acts]):=by
 unfold uM at h
 refine co 114 Tryz.func41 λ C hC=>?_
 obtain⟨y3,h4,h⟩:=Aw h
 refine ws Ha 26 [] [⟨.call 85 [.agg (d29 x0.An)] [] (.d (DS pI y3)) [.non] [],⟨e85,(CallOk.frzAll [0] (show CO 85 [.agg (d29 x0.An)] [] (dS 0) [v0_ y3] from (k85 x0.An _ h4)) (by kernel_rfl))⟩⟩,pc e84 (k84 y3) []] [.mv 1,.mv 2,.mv 3,.mv 4,.mv 5,.mv 6] 7 [0,1,2,3,4,5,6,7,9,10,11,12,13,14,15] [(1,dO 7 0),(13,.d (.fn (.func 131) [] [.o 8 0]))] (.box 80 (zb x0.An [.os 9,.os 10,.os 11,.os 12,.os 13,.os 14]) :: .non :: .non :: .non :: .non :: .non :: .non :: .box 77 [.o 0 0] :: .box 22 [DS pI y3]::zp x0.Ao [v1_ x0.goal,v2_ x0.acts]) hC [] ?_
 obtain⟨w0,hm0,hret0,hnext0⟩:=Av h
 clear h
 refine Ay3 (by kernel_rfl) (t:=13) (d:=3) (p:=15) (gf:=131) (j:=8) (ty:=22) Wl (bw y3) Sg (zL) (λ _=>[]) w0 (zt x0.An (zu x0.Ao (x0.goal,x0.acts))) (λ a0=>dI a0.2) hm0 (A1w y3) (by kernel_rfl) (by kernel_rfl) (by kernel_rfl) (by kernel_rfl) (by kernel_rfl) [(1,dO 7 0)] (by kernel_rfl) (by kernel_rfl) (A6j (a:=14) (b:=15) (by kernel_rfl)) (A43 14 15 (by kernel_rfl) (by decide) (by decide)) (by decide) rfl (dm rfl) 9 (by kernel_rfl) (aA hC (bo rfl)) (λ C2 z0 hh hup2 hs0=>?_) (λ C2 v41s1_0 hh hup2 hr0 a w hsR=>?_) (λ l C' a0 z0 w0b hlen hdf h hkr=>?_)
 ·have hC:C2.h.length<=7:=by rw [hh];exact hC
  have h:=hnext0 _ hs0
  replace h:=sI h
  subst h
  exact Amo (bs:=[]) I4 Ha 21 [] [] [] [] 7 [0,1,2,3,4,5,6,9,10,11,12,13,14] rfl hC trivial trivial (by kernel_rfl) (by kernel_rfl) hup2
 ·exact absurd (hret0 _ hr0) (by simp)
 ·have hC : C'.h.length <= 9 := hlen
  unfold Sg at h
  obtain⟨y5,h6,y7,h8,h⟩:=A_ h
  refine wn Ha 27 [] [pb e86 (k86 (⟨z0.1,z0.2.1,z0.2.2.1,(g3_ z0),(g4_ z0),(g5_ z0)⟩:Aa) (⟨(g6_ z0),(g7_ z0),(g8_ z0),(g9_ z0)⟩:Ab) a0.2 _ h6),pv e76 (λ hg=>k76 (⟨(g6_ z0),(g7_ z0),(g8_ z0),(g9_ z0)⟩:Ab) 4 a0.2 _ (A1 h8 hg))] [] 9 Dl [1,3,37] hC [] ?_
  rcases cB h with⟨h9,h⟩ | ⟨h9,h⟩
  ·exact wx w0b (λ _=>[]) (zL) Ha 23 [true] [] [] 9 Dl _ hC [pq h9] (sI h).symm
  ·refine ws Ha 25 [false] [pl q49 z0.2.1] [] 9 Dl (Xo z0 a0 0 (z0.1,z0.2.1,z0.2.2.1,(g3_ z0),(g4_ z0),(g5_ z0),(g6_ z0),(g7_ z0),(g8_ z0),(g9_ z0),(Cp z0),(C7 z0))) (zK 0 (z0.1,z0.2.1,z0.2.2.1,(g3_ z0),(g4_ z0),(g5_ z0),(g6_ z0),(g7_ z0),(g8_ z0),(g9_ z0),(Cp z0),(C7 z0))) hC [pq h9] ?_
   obtain⟨w1,hm1,hret1,hnext1⟩:=Av h
   clear h
   refine wc w1 (Qv) (Rz) ?_ λ z1 hs1=>?_
   ·refine wb ?_
    refine Bq 42 rfl λ hl1=>?_
    refine wl (Xo z0 a0) (zK) hm1 (λ z1 hn1=>?_) λ n1 a1 z1 w1b hi1 hx1 h hb1 hr1=>?_
    ·clear hm1
     exact wx w1 (Qv) (Rz) Ha 26 [false] [] [] 9 Dl _ hC [pq (A5 hl1)] hn1
    ·unfold Y0 at h
     obtain⟨y10,h11,y12,h13,h⟩:=A_ h
     refine wn Ha 33 [true] [pt hx1 hl1,pv e57 (λ hg=>k57 (⟨z1.1,z1.2.1,z1.2.2.1,(g3_ z1),(g4_ z1),(g5_ z1)⟩:Aa) (⟨(g6_ z1),(g7_ z1),(g8_ z1),(g9_ z1)⟩:Ab) (cnt 0 n1) _ (A1 h11 hg)),pv Wh (λ hg=>Wc (⟨(⟨z1.1,z1.2.1,z1.2.2.1,(g3_ z1),(g4_ z1),(g5_ z1)⟩:Aa),(⟨(g6_ z1),(g7_ z1),(g8_ z1),(g9_ z1)⟩:Ab),(Cp z1),(C7 z1)⟩:Ay) a1.A _ (A1 h13 hg))] [] 9 I9 [1,3,6,7,42,43,44,77] hC [pq (A4 hi1 hl1)] ?_
     rcases cB h with⟨h14,h⟩ | ⟨h14,h⟩
     ·exact wx w1b (Xo z0 a0 (n1+1)) (zK (n1+1)) Ha 24 [true] [] [] 9 Dl _ hC [pq h14] (sI h).symm
     ·obtain⟨y15,h16,y17,h18,y19,h20,h⟩:=Bw h
      refine wn Ha 26 [false] [pb e87 (k87 (⟨z1.1,z1.2.1,z1.2.2.1,(g3_ z1),(g4_ z1),(g5_ z1)⟩:Aa) (⟨(g6_ z1),(g7_ z1),(g8_ z1),(g9_ z1)⟩:Ab) a1.A _ h16),pr pI h18,pn pI h18,pb e88 (k88 (⟨z1.1,z1.2.1,z1.2.2.1,(g3_ z1),(g4_ z1),(g5_ z1)⟩:Aa) (⟨(g6_ z1),(g7_ z1),(g8_ z1),(g9_ z1)⟩:Ab) a1.A _ h20)] [] 9 Dl [1,3,6,42,43,44,109] hC [pq h14] ?_
      rcases cB h with⟨h21,h⟩ | ⟨h21,h⟩
      ·obtain⟨y22,h23,h⟩:=Aw h
       exact wx w1 (Qv) (Rz) Ha 24 [true] [pc Adk (Adi (⟨(⟨z1.1,z1.2.1,z1.2.2.1,(g3_ z1),(g4_ z1),(g5_ z1)⟩:Aa),(⟨(g6_ z1),(g7_ z1),(g8_ z1),(g9_ z1)⟩:Ab),(Cp z1),(C7 z1)⟩:Ay) 1 (cnt 0 n1) _ h23) [0,9,10,11,12,13,14]] [] 9 [0,1,2,3,4,5,6,7,8,9,10,11,12,13,15] (zt y22.An (zu y22.Ao (y22.goal,y22.acts))) hC [pq h21] (hb1 _ (sI h).symm)
      ·exact wx w1 (Qv) (Rz) Ha 24 [false] [] [] 9 Dl (z1.1,z1.2.1,z1.2.2.1,(g3_ z1),(g4_ z1),(g5_ z1),(g6_ z1),(g7_ z1),(g8_ z1),(g9_ z1),(Cp z1),(C7 z1)) hC [pq h21] (hb1 _ (sI h).symm)
   ·have h:=hnext1 _ hs1
    exact wx w0b (λ _=>[]) (zL) Ha 22 [] [] [] 9 Dl _ hC [] (sI h).symm
theorem A59:EN 41:=en Tryz.func41
def Od:List Nat:=[0,1,2,3,4,6,7,8,9,11,15,19,29,66]
theorem A61 (x0:Aa) (x1:Ab) (x2:Int) (r:Int) (h:Zb x0 x1 x2=some r):CO 142 [.agg (d29 x0),.agg (d34 x1),.d (I x2)] [] (.d (I r)) []:=by
 unfold Zb at h
 refine co 67 Tryz.func142 λ C hC=>?_
 obtain⟨y1,h2,h⟩:=Aw h
 refine wn Od 29 [] [pc e44 (k44 x0 x1 _ h2) []] [] 0 [0,1] [2,3,4,6,7,15] hC [] ?_
 rcases cB h with⟨h3,h⟩ | ⟨h3,h⟩
 ·replace h:=sI h
  subst h
  exact wr Od 24 [true] [] [] 0 [] hC [pq h3]
 ·rcases cB h with⟨h4,h⟩ | ⟨h4,h⟩
  ·replace h:=sI h
   subst h
   exact wr Od 27 [false,true] [pL_ [(decide (x2<0),false)] q49 x0.Ad] [] 0 [] hC [pq h3,pq h4]
  ·obtain⟨y5,h6,h⟩:=Aw h
   refine wn Od 27 [false,false] [pL_ [(decide (x2<0),false)] q49 x0.Ad,pc A7j (A6v x0 x1 x2 _ h6) []] [] 0 [0,1] [2,3,4,6,29] hC [pq h3,pq h4] ?_
   rcases cB h with⟨h7,h⟩ | ⟨h7,h⟩
   ·replace h:=sI h
    subst h
    exact wr Od 24 [true] [] [] 0 [] hC [pq h7]
   ·obtain⟨y8,h9,y10,h11,y12,h13,y14,h15,h⟩:=C8 h
    refine wn Od 33 [false] [pr q49 h9,pc yZ (yN x0 x1 y8.A _ h11) [],pw e59 (λ hg=>k59 y10.1.Am y8.B _ (A1 h13 hg)) [],pw A7i (λ hg=>A6u x0 x1 y8 _ (A1 h15 hg)) []] [] 0 [] [6,66] hC [pq h7] ?_
    rcases cB h with⟨h16,h⟩ | ⟨h16,h⟩
    ·replace h:=sI h
     subst h
     exact wr Od 24 [true] [] [] 0 [] hC [pq h16]
    ·replace h:=sI h
     subst h
     exact wr Od 25 [false] [] [] 0 [] hC [pq h16]
theorem A7p:EN 142:=en Tryz.func142
theorem k7 (x0:Ap) (r:Aa×Ab×Ap) (h:F7 x0=some r):CO 7 [.d (.o 0 0)] [.box 70 (d70 x0)] (.tup [.agg [I r.1.Am,.os 1,.os 2,.os 3,I r.1.Phase,I r.1.Au],.agg [.os 4,.os 5,.os 6,.os 7]]) (.box 70 (d70 r.2.2)::zs r.1 (zp r.2.1 [])):=by
 unfold F7 at h
 refine co 21 Tryz.func7 λ C hC=>?_
 obtain⟨y1,h2,y3,h4,y5,h6,h⟩:=Bw h
 replace h:=sI h
 subst h
 exact wr [0,2,3,4,5] 29 [] [pc e28 (k28 x0 _ h2) [0],⟨.flts [.box 34 [.p (.v (.slice none 0 0)),.p (.v (.slice none 0 0)),.p (.v (.slice none 0 0)),.p (.v (.slice none 0 0))]],trivial⟩,pc A6e (A5z y1.2 y1.1 _ h4) [0,3,4,5],⟨.call 29 [.agg [I y1.1.Am,.os 0,.os 1,.os 2,I y1.1.Phase,I y1.1.Au],.agg [.os 3,.os 4,.os 5,.os 6]] (zs y1.1 (zp y3.1 [])) (.tup [.agg [.os 7,.os 8,.os 9,.os 10],dS 11,dI y5.2.2]) (zs y1.1 (zp y3.1 (zp y5.1 [v2_ y5.2.1]))) [3,4,5,8,9,10,11],⟨e29,((k29 y1.1 y3.1 _ h6).lend (by kernel_rfl) (by kernel_rfl) (by kernel_rfl) ⟨Bf (λ _=>rfl),Bf (λ _=>rfl),Bf (λ _=>rfl),Bf (λ _=>rfl),Bf (λ _=>rfl),trivial⟩ (by kernel_rfl) (by kernel_rfl))⟩⟩,⟨.flt 7 (.box 34 [.p (.v (.slice none 0 0)),.p (.v (.slice none 0 0)),.p (.v (.slice none 0 0)),.p (.v (.slice none 0 0))]) (.box 34 [.p (.v (.slice none 0 0)),.p (.v (.slice none 0 0)),.p (.v (.slice none 0 0)),.p (.v (.slice none 0 0))]),rfl⟩] [] 1 [0,3,4,5,12,13,14,15] hC []
theorem e7:EN 7:=en Tryz.func7
theorem A5q (x0:Ax) (r:Ax) (h:uK x0=some r):CO 70 [.d (.o 0 0)] (.box 147 (zb x0.An [.os 1,.os 2,.os 3,.os 4,.os 5])::zp x0.Ao [v2_ x0.acts]) (.tup []) (.box 147 (zb r.An [.os 6,.os 7,.os 8,.os 9,.os 10]) :: .non :: .non :: .non :: .non :: .non::zp r.Ao [v2_ r.acts]):=by
 unfold uK at h
 refine co 24 Tryz.func70 λ C hC=>?_
 obtain⟨y1,h2,y3,h4,y5,h6,h⟩:=Bw h
 replace h:=sI h
 subst h
 exact wf [0,1] 27 [] [pc A4k (A3c x0 _ h2) n6_,pc A4j (A3b y1 _ h4) [0,7,8,9,10,11,6],⟨.call 123 [.agg (d29 y3.An),.agg [.os 0,.os 1,.os 2,.os 3]] (zp y3.Ao []) (.tup [.agg [.os 4,.os 5,.os 6,.os 7],dI y5.2]) (zp y3.Ao (zp y5.1 [])) [12,13,14,15],⟨A4f,((A27 y3.An y3.Ao _ h6).lend (by kernel_rfl) (by kernel_rfl) (by kernel_rfl) ⟨Bf (λ _=>rfl),Bf (λ _=>rfl),Bf (λ _=>rfl),Bf (λ _=>rfl),trivial⟩ (by kernel_rfl) (by kernel_rfl))⟩⟩] [] 6 [0,1,2,3,4,5,17,18,19,20,16] hC []
theorem A55:EN 70:=en Tryz.func70
def Po:List Nat:=[0,2,4,5,19,20,21,22,32]
def Qj (y3:(List Aj)) (n0:Nat) (z0:Sg7):St:=[(0,dO 0 0),(2,dS 6),(19,dS 7),(20,dI (ln y3)),(21,dI (cnt 0 n0))]
def Wo (y1:(List Int)) (y3:(List Aj)) (n0:Nat) (z0:Sg7):List Res:=[.box 147 [I z0.1,DS q49 z0.2.1,DS q98 z0.2.2.1,DS q90 (g3_ z0),I (g4_ z0),I (g5_ z0),.os 8,.os 9,.os 10,.os 11,.os 12],.non,.non,.non,.non,.non,v0_ y1,v5_ y3,v1_ (g6_ z0),v4_ (g7_ z0),v0_ (g8_ z0),v3_ (g9_ z0),v2_ (Gj z0)]
def Afr  (z0:Sg7):St:=[]
def Aie  (z0:Sg7):List Res:=[.box 147 [I z0.1,DS q49 z0.2.1,DS q98 z0.2.2.1,DS q90 (g3_ z0),I (g4_ z0),I (g5_ z0),.os 6,.os 7,.os 8,.os 9,.os 10],.non,.non,.non,.non,.non,v1_ (g6_ z0),v4_ (g7_ z0),v0_ (g8_ z0),v3_ (g9_ z0),v2_ (Gj z0)]
theorem A5p (x0:Ax) (r:Ax) (h:Wv x0=some r):CO 71 [.d (.o 0 0)] (.box 147 (zb x0.An [.os 1,.os 2,.os 3,.os 4,.os 5])::zp x0.Ao [v2_ x0.acts]) (.tup []) (.box 147 (zb r.An [.os 6,.os 7,.os 8,.os 9,.os 10]) :: .non :: .non :: .non :: .non :: .non::zp r.Ao [v2_ r.acts]):=by
 unfold Wv at h
 refine co 48 Tryz.func71 λ C hC=>?_
 obtain⟨y1,h2,y3,h4,h⟩:=A_ h
 refine ws Po 25 [] [pc e85 (k85 x0.An _ h2) [],pc A4d (A25 x0.An x0.Ao _ h4) [1,2,3,4],pl q62 y3] [.mv 1,.mv 2,.mv 3,.mv 4,.mv 5] 6 Dm (Qj y3 0 (zt x0.An (zu x0.Ao x0.acts))) (Wo y1 y3 0 (zt x0.An (zu x0.Ao x0.acts))) hC [] ?_
 obtain⟨w0,hm0,hret0,hnext0⟩:=Av h
 clear h
 refine wc w0 (Afr) (Aie) ?_ λ z0 hs0=>?_
 ·refine wb ?_
  refine B1 19 7 rfl rfl λ hl0=>?_
  refine wl (Qj y3) (Wo y1 y3) hm0 (λ z0 hn0=>?_) λ n0 a0 z0 w0b hi0 hx0 h hb0 hr0=>?_
  ·clear hm0
   exact wx w0 (Afr) (Aie) Po 26 [false] [] [] 6 [0,1,2,3,4,5,8,9,10,11,12] _ hC [pq (A5 hl0)] hn0
  ·unfold Yz at h
   obtain⟨y5,h6,y7,h8,h⟩:=A_ h
   refine wn Po 34 [true] [pr q62 (Bb hx0 hl0),pn q62 (Bb hx0 hl0),⟨.call 80 [dS 0] [v0_ y1] (dS 1) [v0_ y1,v0_ y5] [6],⟨e80,((k80 y1 _ h6).lend (by kernel_rfl) (by kernel_rfl) (by kernel_rfl) ⟨Bf (λ _=>rfl),trivial⟩ (by kernel_rfl) (by kernel_rfl))⟩⟩,pc A4c (A24 y5 a0 _ h8) [14,13],pl pI y7.2.Ac] [] 6 [0,1,2,3,4,5,6,7,8,9,10,11,12,13,15] [0,2,4,5,19,20,21,32] hC [pq (A4 hi0 hl0)] ?_
   rcases cB h with⟨h9,h⟩ | ⟨h9,h⟩
   ·obtain⟨y10,h11,y12,h13,y14,h15,y16,h17,h⟩:=C8 h
    exact wx w0b (Qj y3 (n0+1)) (Wo y1 y3 (n0+1)) Po 27 [true] [pr pI h11,pc A4b (A23 (⟨(⟨z0.1,z0.2.1,z0.2.2.1,(g3_ z0),(g4_ z0),(g5_ z0)⟩:Aa),(⟨(g6_ z0),(g7_ z0),(g8_ z0),(g9_ z0)⟩:Ab),(Gj z0)⟩:Ax) y7.1 y10 _ h13) [0,8,9,10,11,12,14],pr pI h15,pc A4a (A22 y12 y7.1 y14 _ h17) [0,15,16,17,18,19,14]] [] 6 [0,1,2,3,4,5,6,7,20,21,22,23,24] _ hC [pq h9] (sI h).symm
   ·exact wx w0b (Qj y3 (n0+1)) (Wo y1 y3 (n0+1)) Po 25 [false] [] [] 6 Dm _ hC [pq h9] (sI h).symm
 ·have h:=hnext0 _ hs0
  replace h:=sI h
  subst h
  exact wf Po 20 [] [] [] 6 Anz hC []
theorem A54:EN 71:=en Tryz.func71
def An7:List Nat:=[0,1,2,3,4,6,7,8,9,15]
theorem A7a (x0:Aa) (x1:Ab) (x2:Int) (r:Ab×Int) (h:Vr x0 x1 x2=some r):CO 109 [.agg (d29 x0),.agg (d34 x1),.d (I x2)] [] (.tup [.agg [.os 0,.os 1,.os 2,.os 3],.d (I r.2)]) (zp r.1 []):=by
 unfold Vr at h
 refine co 29 Tryz.func109 λ C hC=>?_
 obtain⟨y1,h2,h⟩:=Aw h
 refine wn An7 28 [] [pc A7p (A61 x0 x1 x2 _ h2) []] [.ownb 2 0 4 1,.ownb 2 1 87 4,.ownb 2 2 3 1,.ownb 2 3 92 2] 0 n7_ [2,3,4,6,7,8,15] hC [] ?_
 rcases cB h with⟨h3,h⟩ | ⟨h3,h⟩
 ·replace h:=sI h
  subst h
  exact wr An7 24 [true] [] [.ownb 2 0 4 1,.ownb 2 1 87 4,.ownb 2 2 3 1,.ownb 2 3 92 2] 0 [7,8,9,10] hC [pq h3]
 ·obtain⟨y4,h5,y6,h7,y8,h9,y10,h11,h⟩:=C8 h
  replace h:=sI h
  subst h
  exact wr An7 29 [false] [pc e35 (k35 x1 _ h5) [],pr pB h7,pu pB h7 h9,⟨.call 123 [.agg (d29 x0),.agg [.os 0,.os 1,.os 2,.os 3]] [v1_ y8,v4_ y4.Ac,v0_ y4.Al,v3_ y4.Ah] (.tup [.agg [.os 4,.os 5,.os 6,.os 7],dI y10.2]) (v1_ y8::v4_ y4.Ac::v0_ y4.Al::v3_ y4.Ah::zp y10.1 []) [7,8,9,10],⟨A4f,((A27 x0 (⟨y8,y4.Ac,y4.Al,y4.Ah⟩:Ab) _ h11).lend (by kernel_rfl) (by kernel_rfl) (by kernel_rfl) ⟨Bf (λ _=>rfl),Bf (λ _=>rfl),Bf (λ _=>rfl),Bf (λ _=>rfl),trivial⟩ (by kernel_rfl) (by kernel_rfl))⟩⟩] [] 0 [12,13,14,15] hC [pq h3]
theorem A7y:EN 109:=en Tryz.func109
theorem A5r (x0:Ax) (r:Ax) (h:Aec x0=some r):CO 69 [.d (.o 0 0)] (.box 147 (zb x0.An [.os 1,.os 2,.os 3,.os 4,.os 5])::zp x0.Ao [v2_ x0.acts]) (.tup []) (.box 147 (zb r.An [.os 6,.os 7,.os 8,.os 9,.os 10]) :: .non :: .non :: .non :: .non :: .non::zp r.Ao [v2_ r.acts]):=by
 unfold Aec at h
 refine co 6 Tryz.func69 λ C hC=>?_
 obtain⟨y1,h2,y3,h4,h⟩:=A_ h
 replace h:=sI h
 subst h
 exact wf [0] 23 [] [pc A55 (A5q x0 _ h2) n6_,pc A54 (A5p y1 _ h4) [0,6,7,8,9,10]] [] 6 [0,1,2,3,4,5,11,12,13,14,15] hC []
theorem A56:EN 69:=en Tryz.func69
def Lm:List Nat:=[0,1,3,4,6,17,36,55,76,82,88,96]
theorem A5t (x0 : A0) (x1 : Ak) (r : Int × A0) (h : Oq x0 x1 = some r) : CO 63 [.d (.o 0 0), .agg (d47 x1)] (.box 107 (zb x0.An [.os 1, .os 2, .os 3, .os 4, I x0.time]) :: zp x0.Ao []) (.d (I r.1)) (.box 107 (zb r.2.An [.os 5, .os 6, .os 7, .os 8, I r.2.time]) :: .non :: .non :: .non :: .non :: zp r.2.Ao []) := by
 unfold Oq at h
 refine co 101 Tryz.func63 λ C hC=>?_
 rcases cB h with⟨h1,h⟩ | ⟨h1,h⟩
 ·obtain⟨y2,h3,h⟩:=Aw h
  replace h:=sI h
  subst h
  exact wr Lm 34 [true] [⟨.call 109 [.agg (d29 x0.An),.agg [.os 0,.os 1,.os 2,.os 3],dI x1.Unit] (zp x0.Ao []) (.tup [.agg [.os 4,.os 5,.os 6,.os 7],dI y2.2]) (zp x0.Ao (zp y2.1 [])) [1,2,3,4],⟨A7y,((A7a x0.An x0.Ao x1.Unit _ h3).lend (by kernel_rfl) (by kernel_rfl) (by kernel_rfl) ⟨Bf (λ _=>rfl),Bf (λ _=>rfl),Bf (λ _=>rfl),Bf (λ _=>rfl),trivial⟩ (by kernel_rfl) (by kernel_rfl))⟩⟩] [.frz 1,.frz 2,.frz 3,.frz 4] 5 [0,1,2,3,4,6,7,8,9] hC [pq h1]
 ·rcases cB h with⟨h4,h⟩ | ⟨h4,h⟩
  ·obtain⟨y5,h6,h⟩:=Aw h
   replace h:=sI h
   subst h
   exact wr Lm 37 [false,true] [⟨.call 110 [.agg (d29 x0.An),.agg [.os 0,.os 1,.os 2,.os 3],dI x1.Unit] (zp x0.Ao []) (.tup [.agg [.os 4,.os 5,.os 6,.os 7],dI y5.2]) (zp x0.Ao (zp y5.1 [])) [1,2,3,4],⟨A7x,((A69 x0.An x0.Ao x1.Unit _ h6).lend (by kernel_rfl) (by kernel_rfl) (by kernel_rfl) ⟨Bf (λ _=>rfl),Bf (λ _=>rfl),Bf (λ _=>rfl),Bf (λ _=>rfl),trivial⟩ (by kernel_rfl) (by kernel_rfl))⟩⟩] [.frz 1,.frz 2,.frz 3,.frz 4] 5 [0,1,2,3,4,6,7,8,9] hC [pq h1,pq h4]
  ·rcases cB h with⟨h7,h⟩ | ⟨h7,h⟩
   ·obtain⟨y8,h9,h⟩:=Aw h
    replace h:=sI h
    subst h
    exact wr Lm 40 [false,false,true] [⟨.call 111 [.agg (d29 x0.An),.agg [.os 0,.os 1,.os 2,.os 3],dI x1.Unit,dI x1.Value] (zp x0.Ao []) (.tup [.agg [.os 4,.os 5,.os 6,.os 7],dI y8.2]) (zp x0.Ao (zp y8.1 [])) [1,2,3,4],⟨A7w,((A68 x0.An x0.Ao x1.Unit x1.Value _ h9).lend (by kernel_rfl) (by kernel_rfl) (by kernel_rfl) ⟨Bf (λ _=>rfl),Bf (λ _=>rfl),Bf (λ _=>rfl),Bf (λ _=>rfl),trivial⟩ (by kernel_rfl) (by kernel_rfl))⟩⟩] [.frz 1,.frz 2,.frz 3,.frz 4] 5 [0,1,2,3,4,6,7,8,9] hC [pq h1,pq h4,pq h7]
   ·rcases cB h with⟨h10,h⟩ | ⟨h10,h⟩
    ·obtain⟨y11,h12,h⟩:=Aw h
     replace h:=sI h
     subst h
     exact wr Lm 43 [false,false,false,true] [pc A4p (A3h x0 x1.Unit _ h12) n5_] [.mv 1,.mv 2,.mv 3,.mv 4] 5 [0,1,2,3,4,6,7,8,9] hC [pq h1,pq h4,pq h7,pq h10]
    ·rcases cB h with⟨h13,h⟩ | ⟨h13,h⟩
     ·obtain⟨y14,h15,h⟩:=Aw h
      replace h:=sI h
      subst h
      exact wr Lm 46 [false,false,false,false,true] [pc A4o (A3g x0 x1.Unit _ h15) n5_] [.mv 1,.mv 2,.mv 3,.mv 4] 5 [0,1,2,3,4,6,7,8,9] hC [pq h1,pq h4,pq h7,pq h10,pq h13]
     ·rcases cB h with⟨h16,h⟩ | ⟨h16,h⟩
      ·obtain⟨y17,h18,h⟩:=Aw h
       replace h:=sI h
       subst h
       exact wr Lm 49 [false,false,false,false,false,true] [pc A4n (A3f x0 x1.Unit x1.Value _ h18) n5_] [.mv 1,.mv 2,.mv 3,.mv 4] 5 [0,1,2,3,4,6,7,8,9] hC [pq h1,pq h4,pq h7,pq h10,pq h13,pq h16]
      ·rcases cB h with⟨h19,h⟩ | ⟨h19,h⟩
       ·obtain⟨y20,h21,h⟩:=Aw h
        replace h:=sI h
        subst h
        exact wr Lm 52 [false,false,false,false,false,false,true] [pc A4m (A3e x0 _ h21) n5_] [] 5 [0,1,2,3,4,6,7,8,9] hC [pq h1,pq h4,pq h7,pq h10,pq h13,pq h16,pq h19]
       ·obtain⟨y22,h23,h⟩:=Aw h
        replace h:=sI h
        subst h
        exact wr Lm 52 [false,false,false,false,false,false,false] [pc A4l (A3d x0 (⟨x1.Value,x1.Unit⟩:As) (x1.Kind==8) _ h23) n5_] [] 5 [0,1,2,3,4,6,7,8,9] hC [pq h1,pq h4,pq h7,pq h10,pq h13,pq h16,pq h19]
theorem A58:EN 63:=en Tryz.func63
def jH:List Nat:=[0,1,2,3,4,6,7,8,9,10,15]
theorem A5s (x0:Aa) (x1:Ab) (r:Ab×(List Ak)×Int) (h:Aed x0 x1=some r):CO 68 [.agg (d29 x0),.agg (d34 x1),.d (.fn (.func 69) [] [])] [] (.tup [.agg [.os 0,.os 1,.os 2,.os 3],.d (.os 4),.d (I r.2.2)]) (zp r.1 [v2_ r.2.1]):=by
 unfold Aed at h
 refine co 34 Tryz.func68 λ C hC=>?_
 obtain⟨y1,h2,h⟩:=Aw h
 refine wn jH 28 [] [pc e44 (k44 x0 x1 _ h2) []] [.ownb 2 0 4 1,.ownb 2 1 87 4,.ownb 2 2 3 1,.ownb 2 3 92 2] 0 n7_ [2,3,4,6,7,8,9,15] hC [] ?_
 rcases cB h with⟨h3,h⟩ | ⟨h3,h⟩
 ·replace h:=sI h
  subst h
  exact wr jH 24 [true] [] [.ownb 2 0 4 1,.ownb 2 1 87 4,.ownb 2 2 3 1,.ownb 2 3 92 2,.own 7 47 3] 0 [7,8,9,10,11] hC [pq h3]
 ·obtain⟨y4,h5,h⟩:=Aw h
  refine wn jH 5 [false] [pc e35 (k35 x1 _ h5) []] [.ownb 11 10 47 3] 0 [2,3,4,5,6,7,8,9,10,11,12] [2,6,7,8,10] hC [pq h3] ?_
  obtain⟨y6,h7,h⟩:=Aw h
  replace h:=sI h
  subst h
  exact wr jH 24 [] [pc A56 (A5r (⟨x0,y4,([]:List Ak)⟩:Ax) _ h7) [9,5,6,7,8,10]] [] 0 [11,12,13,14,15] hC []
theorem A57:EN 68:=en Tryz.func68
def X3:List Nat:=[0,1,2,3,4,5,7,8,9,10,11,12,16,21,39,55]
theorem k27 (x0:Aa) (x1:Ab) (x2:Int) (x3:Ak) (r:Ab×Int) (h:F27 x0 x1 x2 x3=some r):CO 27 [.agg (d29 x0),.agg (d34 x1),.d (I x2),.agg (d47 x3)] [] (.tup [.agg [.os 0,.os 1,.os 2,.os 3],.d (I r.2)]) (zp r.1 []):=by
 unfold F27 at h
 refine co 62 Tryz.func27 λ C hC=>?_
 obtain⟨y1,h2,h⟩:=Aw h
 refine wn X3 29 [] [pc e44 (k44 x0 x1 _ h2) []] [.ownb 3 0 4 1,.ownb 3 1 87 4,.ownb 3 2 3 1,.ownb 3 3 92 2] 0 n8_ [2,4,5,7,8,9,10,16] hC [] ?_
 rcases cB h with⟨h3,h⟩ | ⟨h3,h⟩
 ·replace h:=sI h
  subst h
  exact wr X3 24 [true] [] [.ownb 3 0 4 1,.ownb 3 1 87 4,.ownb 3 2 3 1,.ownb 3 3 92 2] 0 [8,9,10,11] hC [pq h3]
 ·rcases cB h with⟨h4,h⟩ | ⟨h4,h⟩
  ·replace h:=sI h
   subst h
   exact wr X3 27 [false,true] [] [.ownb 3 0 4 1,.ownb 3 1 87 4,.ownb 3 2 3 1,.ownb 3 3 92 2] 0 [8,9,10,11] hC [pq h3,pq h4]
  ·obtain⟨y5,h6,h⟩:=Aw h
   rcases cB h with⟨h7,h⟩ | ⟨h7,h⟩
   ·replace h:=sI h
    subst h
    exact wr X3 30 [false,false,true] [pc e62 (k62 x0 x3 _ h6) []] [.ownb 3 0 4 1,.ownb 3 1 87 4,.ownb 3 2 3 1,.ownb 3 3 92 2] 0 [8,9,10,11] hC [pq h3,pq h4,pq h7]
   ·obtain⟨y8,h9,y10,h11,h⟩:=A_ h
    refine wn X3 37 [false,false,false] [pc e62 (k62 x0 x3 _ h6) [],pc e35 (k35 x1 _ h9) [],pc A58 (A5t (⟨x0,y8,x2⟩:A0) x3 _ h11) [12,8,9,10,11]] [] 0 [3,4,5,6,7,12,13,14,15,16] [8,9,11,12,55] hC [pq h3,pq h4,pq h7] ?_
    rcases cB h with⟨h12,h⟩ | ⟨h12,h⟩
    ·replace h:=sI h
     subst h
     exact wr X3 24 [true] [] [.ownb 0 0 4 1,.ownb 0 1 87 4,.ownb 0 2 3 1,.ownb 0 3 92 2] 0 [10,11,12,13] hC [pq h12]
    ·replace h:=sI h
     subst h
     exact wr X3 25 [false] [] [] 0 [6,7,8,9] hC [pq h12]
theorem e27:EN 27:=en Tryz.func27
theorem k31 (x0:Aa) (x1:Ab) (r:Ab×(List Ak)×Int) (h:F31 x0 x1=some r):CO 31 [.agg (d29 x0),.agg (d34 x1)] [] (.tup [.agg [.os 0,.os 1,.os 2,.os 3],.d (.os 4),.d (I r.2.2)]) (zp r.1 [v2_ r.2.1]):=by
 unfold F31 at h
 refine co 13 Tryz.func31 λ C hC=>?_
 obtain⟨y1,h2,h⟩:=Aw h
 replace h:=sI h
 subst h
 exact wr n7_ 25 [] [pc A57 (A5s x0 x1 _ h2) []] [] 0 [3,4,5,6,7] hC []
theorem e31:EN 31:=en Tryz.func31
def Q8:List Nat:=[0,1,2,3,4,5,8,9,10,11,12,13,14,15,16,21,26,27,28,29,42,49]
def Z4 (x3:List Ak) (n0:Nat) (z0:Sg1):St:=[(2,dI z0.1),(3,.d (DS q47 x3)),(4,dO 0 0),(5,dO 1 0),(8,dO 2 0),(9,dI 0),(10,dI 0),(11,dI 0),(26,.d (DS q47 x3)),(27,dI (ln x3)),(28,dI (cnt 0 n0))]
def Aea (x0:Aa) (n0:Nat) (z0:Sg1):List Res:=(.box 29 (d29 x0) :: .box 34 [.os 7,.os 8,.os 9,.os 10] :: .box 34 [.os 3,.os 4,.os 5,.os 6]::ze [v1_ z0.2.1,v4_ z0.2.2.1,v0_ (g3_ z0),v3_ (Gs z0)])
def Asy (x3:List Ak) (z0:Sg1):St:=[(2,dI z0.1),(3,.d (DS q47 x3)),(5,dO 0 0),(8,dO 1 0),(9,dI 0),(10,dI 0),(11,dI 0)]
def Awl  (z0:Sg1):List Res:=(.box 34 [.os 6,.os 7,.os 8,.os 9] :: .box 34 [.os 2,.os 3,.os 4,.os 5]::ze [v1_ z0.2.1,v4_ z0.2.2.1,v0_ (g3_ z0),v3_ (Gs z0)])
theorem k10 (x0:Aa) (x1:Ab) (x2:Int) (x3:List Ak) (r:Ab×Int×Int×Int) (h:F10 x0 x1 x2 x3=some r):CO 10 [.agg (d29 x0),.agg (d34 x1),.d (I x2),.d (DS q47 x3)] [] (.tup [.agg [.os 0,.os 1,.os 2,.os 3],.d (I r.2.1),.d (I r.2.2.1),.d (I (E1 r))]) (zp r.1 []):=by
 unfold F10 at h
 refine co 58 Tryz.func10 λ C hC=>?_
 obtain⟨y1,h2,h⟩:=Aw h
 refine wn Q8 28 [] [pc e44 (k44 x0 x1 _ h2) []] [.ownb 2 0 4 1,.ownb 2 1 87 4,.ownb 2 2 3 1,.ownb 2 3 92 2] 0 n7_ [2,3,4,5,8,9,10,11,12,21] hC [] ?_
 rcases cB h with⟨h3,h⟩ | ⟨h3,h⟩
 ·replace h:=sI h
  subst h
  exact wr Q8 24 [true] [] [.ownb 2 0 4 1,.ownb 2 1 87 4,.ownb 2 2 3 1,.ownb 2 3 92 2] 0 [7,8,9,10] hC [pq h3]
 ·obtain⟨y4,h5,h⟩:=Aw h
  refine ws Q8 28 [false] [pc e35 (k35 x1 _ h5) [],pl q47 x3] [] 0 Anz (Z4 x3 0 (x2,y4.Ae,y4.Ac,y4.Al,y4.Ah)) (Aea x0 0 (x2,y4.Ae,y4.Ac,y4.Al,y4.Ah)) hC [pq h3] ?_
  obtain⟨w0,hm0,hret0,hnext0⟩:=Av h
  clear h
  refine wc w0 (Asy x3) (Awl) ?_ λ z0 hs0=>?_
  ·refine wb ?_
   refine Bq 26 rfl λ hl0=>?_
   refine wl (Z4 x3) (Aea x0) hm0 (λ z0 hn0=>?_) λ n0 a0 z0 w0b hi0 hx0 h hb0 hr0=>?_
   ·clear hm0
    exact wx w0 (Asy x3) (Awl) Q8 26 [false] [] [] 0 [1,2,3,4,5,6,7,8,9,10] _ hC [pq (A5 hl0)] hn0
   ·unfold Ako at h
    obtain⟨y6,h7,h⟩:=Aw h
    refine wn Q8 35 [true] [pt hx0 hl0,⟨.call 27 [.agg (d29 x0),.agg [.os 0,.os 1,.os 2,.os 3],dI z0.1,.agg (d47 a0)] [v1_ z0.2.1,v4_ z0.2.2.1,v0_ (g3_ z0),v3_ (Gs z0)] (.tup [.agg [.os 4,.os 5,.os 6,.os 7],dI y6.2]) (v1_ z0.2.1::v4_ z0.2.2.1::v0_ (g3_ z0)::v3_ (Gs z0)::zp y6.1 []) [7,8,9,10],⟨e27,((k27 x0 (⟨z0.2.1,z0.2.2.1,(g3_ z0),(Gs z0)⟩:Ab) z0.1 a0 _ h7).lend (by kernel_rfl) (by kernel_rfl) (by kernel_rfl) ⟨Bf (λ _=>rfl),Bf (λ _=>rfl),Bf (λ _=>rfl),Bf (λ _=>rfl),trivial⟩ (by kernel_rfl) (by kernel_rfl))⟩⟩] [] 0 Ty [2,3,4,5,8,9,10,11,13,14,15,16,26,27,28,42] hC [pq (A4 hi0 hl0)] ?_
    rcases cB h with⟨h8,h⟩ | ⟨h8,h⟩
    ·have hq:=hret0 _ (hr0 _ (sI h).symm)
     replace hq:=sI hq
     subst hq
     exact wr Q8 24 [true] [] [] 0 [7,8,9,10] hC [pq h8]
    ·rcases cB h with⟨h9,h⟩ | ⟨h9,h⟩
     ·exact wx w0b (Z4 x3 (n0+1)) (Aea x0 (n0+1)) Q8 31 [false,true] [] [] 0 [0,1,2,3,4,5,6,12,13,14,15] _ hC [pq h8,pq h9] (sI h).symm
     ·exact wx w0b (Z4 x3 (n0+1)) (Aea x0 (n0+1)) Q8 31 [false,false] [] [] 0 [0,1,2,3,4,5,6,12,13,14,15] _ hC [pq h8,pq h9] (sI h).symm
  ·have h:=hnext0 _ hs0
   replace h:=sI h
   subst h
   exact wr Q8 23 [] [pl q47 x3] [] 0 [6,7,8,9] hC []
theorem e10:EN 10:=en Tryz.func10
def lv8:List Nat:=[0,1,2,3,4,5,6,8,9,10,11,19,23,33,64]
def Ana  (z0:Sg6):St:=[(4,.d (DS q47 [])),(5,dI 0),(9,dO 0 0)]
def Ay5  (z0:Sg6):List Res:=[.box 80 [I z0.1,DS q49 z0.2.1,DS q98 z0.2.2.1,DS q90 (g3_ z0),I (g4_ z0),I (g5_ z0),.os 1,.os 2,.os 3,.os 4,.os 5,.os 6],v1_ (g6_ z0),v4_ (g7_ z0),v0_ (g8_ z0),v3_ (g9_ z0),v1_ (Cp z0),v2_ (C7 z0)]
def Azd  (z0:Sg6):St:=[(4,.d (DS q47 [])),(5,dI 0),(9,dO 0 0)]
def A0g  (z0:Sg6):List Res:=[.box 80 [I z0.1,DS q49 z0.2.1,DS q98 z0.2.2.1,DS q90 (g3_ z0),I (g4_ z0),I (g5_ z0),.os 1,.os 2,.os 3,.os 4,.os 5,.os 6],v1_ (g6_ z0),v4_ (g7_ z0),v0_ (g8_ z0),v3_ (g9_ z0),v1_ (Cp z0),v2_ (C7 z0)]
theorem k8 (x0:Aa) (x1:Ab) (r:(List Ak)×Int) (h:F8 x0 x1=some r):CO 8 [.agg (d29 x0),.agg (d34 x1)] [] (.tup [.d (.os 0),.d (I r.2)]) [v2_ r.1]:=by
 unfold F8 at h
 refine co 74 Tryz.func8 λ C hC=>?_
 obtain⟨y1,h2,h⟩:=Aw h
 refine wn lv8 29 [] [pc e31 (k31 x0 x1 _ h2) []] [] 0 [0,1,2,3,4,5,7] [2,3,4,5,6,8,19] hC [] ?_
 rcases cB h with⟨h3,h⟩ | ⟨h3,h⟩
 ·replace h:=sI h
  subst h
  exact wr lv8 24 [true] [] [.own 4 47 3] 0 [7] hC [pq h3]
 ·obtain⟨y4,h5,y6,h7,h⟩:=A_ h
  refine wn lv8 24 [false] [pb e32 (k32 x1 y1.1 _ h5),pw e33 (λ hg=>k33 x0 x1 _ (A1 h7 hg)) []] [] 0 [0,1] [2,3,4,5,23] hC [pq h3] ?_
  rcases cB h with⟨h8,h⟩ | ⟨h8,h⟩
  ·replace h:=sI h
   subst h
   exact wr lv8 24 [true] [] [.own 4 47 3] 0 [2] hC [pq h8]
  ·obtain⟨y9,h10,y11,h12,y13,h14,h⟩:=Bw h
   refine wn lv8 24 [false] [pc e23 (k23 x0 x1 _ h10) [],pb e34 (k34 y9 true _ h12),pw e24 (λ hg=>k24 x0 x1 _ (A1 h14 hg)) []] [] 0 [0,1] [2,3,4,5,33] hC [pq h8] ?_
   rcases cB h with⟨h15,h⟩ | ⟨h15,h⟩
   ·replace h:=sI h
    subst h
    exact wr lv8 24 [true] [] [.own 4 47 3] 0 [2] hC [pq h15]
   ·obtain⟨y16,h17,y18,h19,h⟩:=A_ h
    refine wn lv8 6 [false] [pc e35 (k35 x1 _ h17) [],pc e23 (k23 x0 x1 _ h19) []] [.ownb 7 11 47 3] 0 [2,3,4,5,6,7,8] [4,5,9] hC [pq h15] ?_
    obtain⟨y20,h21,y22,h23,y24,h25,h⟩:=Bw h
    refine ws lv8 27 [] [pc A6d (A5y (⟨x0,y16,y18,([]:List Ak)⟩:Ay) _ h21) [5,0,1,2,3,4,6],pc A6c (A5x y20 _ h23) [5,7,8,9,10,11,12],pc A6b (A5w y22 _ h25) [5,13,14,15,16,17,18]] [] 0 [5,19,20,21,22,23,24] (Ana (zt y24.An (zu y24.Ao (y24.goal,y24.acts)))) (Ay5 (zt y24.An (zu y24.Ao (y24.goal,y24.acts)))) hC [] ?_
    obtain⟨w0,hm0,hret0,hnext0⟩:=Av h
    clear h
    refine wc w0 (Azd) (A0g) ?_ λ z0 hs0=>?_
    ·refine wb ?_
     refine ww (Ana) (Ay5) hm0 λ z0 w0b h hb0 hr0=>?_
     unfold Aqd at h
     obtain⟨y26,h27,h⟩:=Aw h
     refine wn lv8 27 [] [pb A6a (A5v (⟨(⟨z0.1,z0.2.1,z0.2.2.1,(g3_ z0),(g4_ z0),(g5_ z0)⟩:Aa),(⟨(g6_ z0),(g7_ z0),(g8_ z0),(g9_ z0)⟩:Ab),(Cp z0),(C7 z0)⟩:Ay) _ h27)] [] 0 n7_ [4,5,9,10,64] hC [] ?_
     rcases cB h with⟨h28,h⟩ | ⟨h28,h⟩
     ·exact wx w0 (Azd) (A0g) lv8 23 [true] [] [] 0 n7_ (z0.1,z0.2.1,z0.2.2.1,(g3_ z0),(g4_ z0),(g5_ z0),(g6_ z0),(g7_ z0),(g8_ z0),(g9_ z0),(Cp z0),(C7 z0)) hC [pq h28] (hb0 _ (sI h).symm)
     ·obtain⟨y29,h30,h⟩:=Aw h
      exact wx w0b (Ana) (Ay5) lv8 25 [false] [pc Adk (Adi (⟨(⟨z0.1,z0.2.1,z0.2.2.1,(g3_ z0),(g4_ z0),(g5_ z0)⟩:Aa),(⟨(g6_ z0),(g7_ z0),(g8_ z0),(g9_ z0)⟩:Ab),(Cp z0),(C7 z0)⟩:Ay) 1 y26.1 _ h30) n7_] [] 0 [0,1,2,3,4,5,7] _ hC [pq h28] (sI h).symm
    ·have h:=hnext0 _ hs0
     obtain⟨y31,h32,h⟩:=Aw h
     replace h:=sI h
     subst h
     exact wr lv8 25 [] [pc A59 (A5u (⟨(⟨z0.1,z0.2.1,z0.2.2.1,(g3_ z0),(g4_ z0),(g5_ z0)⟩:Aa),(⟨(g6_ z0),(g7_ z0),(g8_ z0),(g9_ z0)⟩:Ab),(Cp z0),(C7 z0)⟩:Ay) _ h32) n7_] [] 0 [12] hC []
theorem e8:EN 8:=en Tryz.func8
theorem k9  (r:Bool) (h:F9  = some r):CO 9 [] [] (.d (Bo r)) []:=by
 unfold F9 at h
 refine co 64 Tryz.func9 λ C hC=>?_
 obtain⟨y1,h2,y3,h4,y5,h6,h⟩:=Bw h
 obtain⟨y7,h8,y9,h10,h⟩:=A_ h
 replace h:=sI h
 subst h
 exact wr n9_ 31 [] [pc e42 (k42  _ rfl) [],pc e8 (k8 F42.1 F42.2 _ h2) [],⟨.call 10 [.agg (d29 F42.1),.agg (d34 F42.2),dI 7,dS 0] [v2_ y1.1] (.tup [.agg [.os 1,.os 2,.os 3,.os 4],dI y3.2.1,dI y3.2.2.1,dI (E1 y3)]) (v2_ y1.1::zp y3.1 []) [2],⟨e10,((k10 F42.1 F42.2 7 y1.1 _ h4).lend (by kernel_rfl) (by kernel_rfl) (by kernel_rfl) ⟨Bf (λ _=>rfl),Bf (λ _=>rfl),Bf (λ _=>rfl),Bf (λ _=>rfl),trivial⟩ (by kernel_rfl) (by kernel_rfl))⟩⟩,pv e43 (λ hg=>k43 y1.1 [(⟨3,0,0⟩:Ak),(⟨7,0,0⟩:Ak),(⟨7,0,0⟩:Ak),(⟨7,0,0⟩:Ak),(⟨1,1,0⟩:Ak),(⟨1,0,0⟩:Ak)] _ (A1 h6 hg)),pv e24 (λ hg=>k24 F42.1 y3.1 _ (A1 h8 hg)),pw e24 (λ hg=>k24 F42.1 F42.2 _ (A1 h10 hg)) []] [] 0 [] hC []
theorem e9:EN 9:=en Tryz.func9
def lv3:List Nat:=[0,2,3,4,5,6,7,8,11,12,13,14,15,16,17,18,19,21,23,24,39,75,82,114,126,131,135,136,137,163,169,172,173,174,175,198,213]
def Add  (z0:Int×Int):St:=[(2,dB false),(4,dO 7 0),(5,dO 8 0),(6,dS 9),(8,dO 14 0),(12,dS 15),(13,dI z0.1),(14,dI z0.2)]
def Apx (y3:Aa×Ab×Ap) (y5:(List Ak)×Int) (y10:Ab×Int×Int×Int) (y15:(List Int)) (z0:Int×Int):List Res:=(zs y3.1 (zp y3.2.1 (.box 29 [I y3.1.Am,.os 0,.os 1,.os 2,I y3.1.Phase,I y3.1.Au] :: .box 34 [.os 3,.os 4,.os 5,.os 6]::v2_ y5.1::zp y10.1 [.box 34 [.os 10,.os 11,.os 12,.os 13],v0_ y15])))
def Azg  (z0:Int×Int):St:=[(2,dB false),(4,dO 7 0),(5,dO 8 0),(8,dO 13 0)]
def A0j (y3:Aa×Ab×Ap) (y10:Ab×Int×Int×Int) (z0:Int×Int):List Res:=(zs y3.1 (zp y3.2.1 (.box 29 [I y3.1.Am,.os 0,.os 1,.os 2,I y3.1.Phase,I y3.1.Au] :: .box 34 [.os 3,.os 4,.os 5,.os 6]::zp y10.1 [.box 34 [.os 9,.os 10,.os 11,.os 12]])))
def Anc (z0:Int×Int) (z1:Int):St:=[(2,dB false),(4,dO 7 0),(5,dO 8 0),(6,dS 9),(8,dO 14 0),(12,dS 15),(13,dI z0.1),(14,dI z0.2),(15,dO 16 0),(16,dI z1)]
def Ay7 (y3:Aa×Ab×Ap) (y5:(List Ak)×Int) (y10:Ab×Int×Int×Int) (y15:(List Int)) (y18:Ak) (z1:Int):List Res:=(zs y3.1 (zp y3.2.1 (.box 29 [I y3.1.Am,.os 0,.os 1,.os 2,I y3.1.Phase,I y3.1.Au] :: .box 34 [.os 3,.os 4,.os 5,.os 6]::v2_ y5.1::zp y10.1 [.box 34 [.os 10,.os 11,.os 12,.os 13],v0_ y15,.box 47 (d47 y18)])))
def Azf (z0:Int×Int) (z1:Int):St:=[(2,dB false),(4,dO 7 0),(5,dO 8 0),(6,dS 9),(8,dO 14 0),(12,dS 15),(13,dI z0.1),(14,dI z0.2),(16,dI z1)]
def A0i (y3:Aa×Ab×Ap) (y5:(List Ak)×Int) (y10:Ab×Int×Int×Int) (y15:(List Int)) (z1:Int):List Res:=(zs y3.1 (zp y3.2.1 (.box 29 [I y3.1.Am,.os 0,.os 1,.os 2,I y3.1.Phase,I y3.1.Au] :: .box 34 [.os 3,.os 4,.os 5,.os 6]::v2_ y5.1::zp y10.1 [.box 34 [.os 10,.os 11,.os 12,.os 13],v0_ y15])))
def Adc (y3:Aa×Ab×Ap) (z2:Int):St:=[(2,dB false),(4,dO 7 0),(5,dO 8 0),(8,dO 13 0),(135,dI (ln y3.1.Af)),(136,dI z2)]
def Apw (y3:Aa×Ab×Ap) (y10:Ab×Int×Int×Int) (z2:Int):List Res:=(zs y3.1 (zp y3.2.1 (.box 29 [I y3.1.Am,.os 0,.os 1,.os 2,I y3.1.Phase,I y3.1.Au] :: .box 34 [.os 3,.os 4,.os 5,.os 6]::zp y10.1 [.box 34 [.os 9,.os 10,.os 11,.os 12]])))
def Aze  (z2:Int):St:=[(2,dB false)]
def A0h  (z2:Int):List Res:=[]
def Anb (y3:Aa×Ab×Ap) (z2:Int) (y44:(List Int)) (n3:Nat) (z3:Unit):St:=[(2,dB false),(4,dO 7 0),(5,dO 8 0),(8,dO 13 0),(17,dI z2),(135,dI (ln y3.1.Af)),(136,dI z2),(172,dS 14),(173,dI (ln y44)),(174,dI (cnt 0 n3))]
def Ay6 (y3:Aa×Ab×Ap) (y10:Ab×Int×Int×Int) (y44:(List Int)) (n3:Nat) (z3:Unit):List Res:=(zs y3.1 (zp y3.2.1 (.box 29 [I y3.1.Am,.os 0,.os 1,.os 2,I y3.1.Phase,I y3.1.Au] :: .box 34 [.os 3,.os 4,.os 5,.os 6]::zp y10.1 [.box 34 [.os 9,.os 10,.os 11,.os 12],v0_ y44])))
def Ang (y3:Aa×Ab×Ap) (z2:Int) (z3:Unit):St:=[(2,dB false),(4,dO 7 0),(5,dO 8 0),(8,dO 13 0),(135,dI (ln y3.1.Af)),(136,dI z2)]
def Ao9 (y3:Aa×Ab×Ap) (y10:Ab×Int×Int×Int) (z3:Unit):List Res:=(zs y3.1 (zp y3.2.1 (.box 29 [I y3.1.Am,.os 0,.os 1,.os 2,I y3.1.Phase,I y3.1.Au] :: .box 34 [.os 3,.os 4,.os 5,.os 6]::zp y10.1 [.box 34 [.os 9,.os 10,.os 11,.os 12]])))
set_option maxHeartbeats 4000000 in
theorem k3 (x0 : List Int) (r : Bool) (h : F3 x0 = some r) : CO 3 [.d (DS pI x0)] [] (.d (Bo r)) [] := by
 unfold F3 at h
 refine co 217 Tryz.func3 λ C hC=>?_
 obtain⟨y1,h2,y3,h4,y5,h6,h⟩:=Bw h
 refine wn lv3 32 [] [pc e6 (k6 x0 _ h2) [],pc e7 (k7 y1 _ h4) [0],⟨.call 8 [.agg [I y3.1.Am,.os 0,.os 1,.os 2,I y3.1.Phase,I y3.1.Au],.agg [.os 3,.os 4,.os 5,.os 6]] (zs y3.1 (zp y3.2.1 [])) (.tup [dS 7,dI y5.2]) (zs y3.1 (zp y3.2.1 [v2_ y5.1])) [1,2,3,4,5,6,7],⟨e8,((k8 y3.1 y3.2.1 _ h6).lend (by kernel_rfl) (by kernel_rfl) (by kernel_rfl) ⟨Bf (λ _=>rfl),trivial⟩ (by kernel_rfl) (by kernel_rfl))⟩⟩] [] 0 [1,2,3,4,5,6,7,8,9,10] [2,4,5,6,39] hC [] ?_
 rcases cB h with⟨h7,h⟩ | ⟨h7,h⟩
 ·obtain⟨y8,h9,h⟩:=Aw h
  replace h:=sI h
  subst h
  exact wr lv3 24 [true] [pc e9 (k9  _ h9) []] [] 0 [] hC [pq h7]
 ·obtain ⟨y10, h11, y12, h13, h⟩ := A_ h
  refine wn lv3 28 [false] [⟨.call 10 [.agg [I y3.1.Am,.os 0,.os 1,.os 2,I y3.1.Phase,I y3.1.Au],.agg [.os 3,.os 4,.os 5,.os 6],dI 20,dS 7] (zs y3.1 (zp y3.2.1 [v2_ y5.1])) (.tup [.agg [.os 8,.os 9,.os 10,.os 11],dI y10.2.1,dI y10.2.2.1,dI (E1 y10)]) (zs y3.1 (zp y3.2.1 (v2_ y5.1::zp y10.1 []))) [0,1,2,3,4,5,6,9],⟨e10,((k10 y3.1 y3.2.1 20 y5.1 _ h11).lend (by kernel_rfl) (by kernel_rfl) (by kernel_rfl) ⟨Bf (λ _=>rfl),Bf (λ _=>rfl),Bf (λ _=>rfl),Bf (λ _=>rfl),trivial⟩ (by kernel_rfl) (by kernel_rfl))⟩⟩,pv e11 (λ hg=>k11 y3.1 y10.1 _ (A1 h13 hg)),pL_ [((((E1 y10) != 0) || (y12 != 0)),false)] pI y10.1.Al,pL_ [((((E1 y10) != 0) || (y12 != 0)),false)] q90 y3.1.Af,pL_ [(((((E1 y10) != 0) || (y12 != 0)) || ((ln y10.1.Al) != (ln y3.1.Af))),false)] pB y10.1.Ae,pL_ [(((((E1 y10) != 0) || (y12 != 0)) || ((ln y10.1.Al) != (ln y3.1.Af))),false)] q49 y3.1.Ad] [] 0 Dl [2,4,5,6,8,75] hC [pq h7] ?_
  rcases cB h with⟨h14,h⟩ | ⟨h14,h⟩
  ·replace h:=sI h
   subst h
   exact wr lv3 24 [true] [] [] 0 [] hC [pq h14]
  ·obtain ⟨y15, h16, h⟩ := Aw h
   refine ws lv3 30 [false] [⟨.call 12 [.agg [I y3.1.Am,.os 0,.os 1,.os 2,I y3.1.Phase,I y3.1.Au]] (zs y3.1 []) (dS 3) (zs y3.1 [v0_ y15]) n3_,⟨e12,((k12 y3.1 _ h16).lend (by kernel_rfl) (by kernel_rfl) (by kernel_rfl) ⟨Bf (λ _=>rfl),trivial⟩ (by kernel_rfl) (by kernel_rfl))⟩⟩,pl q47 y5.1] [] 0 I9 (Add ((-1),w64 ((ln y5.1)-1))) (Apx y3 y5 y10 y15 ((-1),w64 ((ln y5.1)-1))) hC [pq h14] ?_
   obtain⟨w0,hm0,hret0,hnext0⟩:=Av h
   clear h
   refine wc w0 (Azg) (A0j y3 y10) ?_ λ z0 hs0=>?_
   ·refine wb ?_
    refine ww (Add) (Apx y3 y5 y10 y15) hm0 λ z0 w0b h hb0 hr0=>?_
    unfold Aqh at h
    rcases cB h with⟨h17,h⟩ | ⟨h17,h⟩
    ·obtain⟨y18,h19,y20,h21,h⟩:=A_ h
     refine wn lv3 32 [true] [pr q47 h19,pn q47 h19,pL_ [(((y18.Kind==1)&&(decide (y18.Unit>=0))),true)] q49 y3.1.Ad,pR q49 h21,pN q49 h21] [] 0 Ty [2,4,5,6,8,12,13,14,15,114] hC [pq h17] ?_
     rcases cB h with⟨h22,h⟩ | ⟨h22,h⟩
     ·refine ws lv3 25 [true] [] [] 0 Ty (Anc z0 0) (Ay7 y3 y5 y10 y15 y18 0) hC [pq h22] ?_
      obtain⟨w1,hm1,hret1,hnext1⟩:=Av h
      clear h
      refine wc w1 (Azf z0) (A0i y3 y5 y10 y15) ?_ λ z1 hs1=>?_
      ·refine wb ?_
       refine ww (Anc z0) (Ay7 y3 y5 y10 y15 y18) hm1 λ z1 w1b h hb1 hr1=>?_
       unfold Aqg at h
       obtain⟨y27,h28,y29,h30,h⟩:=A_ h
       refine wn lv3 24 [] [pr pI h28,pn pI h28,pr q49 h30,pn q49 h30] [] 0 Ty [2,4,5,6,8,12,13,14,15,16,126] hC [] ?_
       rcases cB h with⟨h31,h⟩ | ⟨h31,h⟩
       ·exact wx w1b (Anc z0) (Ay7 y3 y5 y10 y15 y18) lv3 26 [true] [] [] 0 Ty _ hC [pq h31] (sI h).symm
       ·exact wx w1 (Azf z0) (A0i y3 y5 y10 y15) lv3 23 [false] [] [] 0 I9 z1 hC [pq h31] (hb1 _ (sI h).symm)
      ·have h:=hnext1 _ hs1
       rcases cB h with⟨h32,h⟩ | ⟨h32,h⟩
       ·have hq:=hret0 _ (hr0 _ (sI h).symm)
        replace hq:=sI hq
        subst hq
        exact wr lv3 27 [true] [] [] 0 [] hC [pq h32]
       ·exact wx w0b (Add) (Apx y3 y5 y10 y15) lv3 29 [false] [] [] 0 I9 _ hC [pq h32] (sI h).symm
     ·exact wx w0b (Add) (Apx y3 y5 y10 y15) lv3 25 [false] [] [] 0 I9 _ hC [pq h22] (sI h).symm
    ·exact wx w0 (Azg) (A0j y3 y10) lv3 26 [false] [] [] 0 [0,1,2,3,4,5,6,7,8,10,11,12,13,14] (z0.1,z0.2) hC [pq h17] (hb0 _ (sI h).symm)
   ·have h := hnext0 _ hs0
    refine ws lv3 24 [] [pl q90 y3.1.Af] [] 0 Kn (Adc y3 0) (Apw y3 y10 0) hC [] ?_
    obtain⟨w2,hm2,hret2,hnext2⟩:=Av h
    clear h
    refine wc w2 (Aze) (A0h) ?_ λ z2 hs2=>?_
    ·refine wb ?_
     refine ww (Adc y3) (Apw y3 y10) hm2 λ z2 w2b h hb2 hr2=>?_
     unfold Aqf at h
     rcases cB h with⟨h33,h⟩ | ⟨h33,h⟩
     ·obtain⟨y34,h35,y36,h37,y38,h39,h⟩:=Bw h
      refine wn lv3 37 [true] [pb e13 (k13 y3.1 y3.2.1 z2 _ h35),pb e13 (k13 y3.1 y10.1 z2 _ h37),pv e14 (λ hg=>k14 y3.1 y3.2.1 y34.1 _ (A1 h39 hg))] [] 0 Kn [2,4,5,8,17,21,135,136,163] hC [pq h33] ?_
      rcases cB h with⟨h40,h⟩ | ⟨h40,h⟩
      ·have hq:=hret2 _ (hr2 _ (sI h).symm)
       replace hq:=sI hq
       subst hq
       exact wr lv3 24 [true] [] [] 0 [] hC [pq h40]
      ·obtain⟨y41,h42,h⟩:=Aw h
       refine wn lv3 26 [false] [pv e15 (λ hg=>k15 y10.1 4 z2 _ (A1 h42 hg))] [] 0 Kn [2,4,5,8,17,135,136,169] hC [pq h40] ?_
       rcases cB h with⟨h43,h⟩ | ⟨h43,h⟩
       ·exact wx w2b (Adc y3) (Apw y3 y10) lv3 24 [true] [] [] 0 Kn _ hC [pq h43] (sI h).symm
       ·obtain⟨y44,h45,h⟩:=Aw h
        refine ws lv3 25 [false] [⟨.call 16 [.agg [I y3.1.Am,.os 0,.os 1,.os 2,I y3.1.Phase,I y3.1.Au],dI 3,dI z2] (zs y3.1 []) (dS 3) (zs y3.1 [v0_ y44]) n3_,⟨e16,((k16 y3.1 3 z2 _ h45).lend (by kernel_rfl) (by kernel_rfl) (by kernel_rfl) ⟨Bf (λ _=>rfl),trivial⟩ (by kernel_rfl) (by kernel_rfl))⟩⟩,pl pI y44] [] 0 Dl (Anb y3 z2 y44 0 ()) (Ay6 y3 y10 y44 0 ()) hC [pq h43] ?_
        obtain⟨w3,hm3,hret3,hnext3⟩:=Av h
        clear h
        refine wc w3 (Ang y3 z2) (Ao9 y3 y10) ?_ λ z3 hs3=>?_
        ·refine wb ?_
         refine B1 172 14 rfl rfl λ hl3=>?_
         refine wl (Anb y3 z2 y44) (Ay6 y3 y10 y44) hm3 (λ z3 hn3=>?_) λ n3 a3 z3 w3b hi3 hx3 h hb3 hr3=>?_
         ·clear hm3
          exact wx w3 (Ang y3 z2) (Ao9 y3 y10) lv3 26 [false] [] [] 0 Kn _ hC [pq (A5 hl3)] hn3
         ·unfold Aqe at h
          obtain⟨y46,h47,y48,h49,y50,h51,y52,h53,h⟩:=C8 h
          refine wn lv3 35 [true] [pr pI (Bb hx3 hl3),pn pI (Bb hx3 hl3),pr q49 h47,pn q49 h47,pb e15 (k15 y10.1 2 a3 _ h49),pv e15 (λ hg=>k15 y10.1 3 y46.A _ (A1 h51 hg)),pv e14 (λ hg=>k14 y3.1 y10.1 y46.A _ (A1 h53 hg))] [] 0 Dl [2,4,5,8,17,24,135,136,172,173,174,198] hC [pq (A4 hi3 hl3)] ?_
          rcases cB h with⟨h54,h⟩ | ⟨h54,h⟩
          ·exact wx w3b (Anb y3 z2 y44 (n3+1)) (Ay6 y3 y10 y44 (n3+1)) lv3 24 [true] [] [] 0 Dl _ hC [pq h54] (sI h).symm
          ·obtain⟨y55,h56,y57,h58,y59,h60,h⟩:=Bw h
           refine wn lv3 26 [false] [pb e17 (k17 y3.1 y10.1 y46.A _ h56),pr pI h58,pn pI h58,pb e18 (k18 y3.1 y10.1 y46.A _ h60)] [] 0 Dl [2,4,5,8,17,135,136,172,173,174,213] hC [pq h54] ?_
           rcases cB h with⟨h61,h⟩ | ⟨h61,h⟩
           ·have hq:=hret3 _ (hr3 _ (sI h).symm)
            replace hq:=hret2 _ (hr2 _ (sI hq).symm)
            replace hq:=sI hq
            subst hq
            exact wr lv3 24 [true] [] [] 0 [] hC [pq h61]
           ·exact wx w3 (Ang y3 z2) (Ao9 y3 y10) lv3 24 [false] [] [] 0 Kn () hC [pq h61] (hb3 _ (sI h).symm)
        ·have h:=hnext3 _ hs3
         exact wx w2b (Adc y3) (Apw y3 y10) lv3 23 [] [] [] 0 Kn _ hC [] (sI h).symm
     ·exact wx w2 (Aze) (A0h) lv3 26 [false] [] [] 0 [] z2 hC [pq h33] (hb2 _ (sI h).symm)
    ·have h:=hnext2 _ hs2
     obtain⟨y62,h63,h⟩:=Aw h
     replace h:=sI h
     subst h
     exact wr lv3 23 [] [pc e9 (k9  _ h63) []] [] 0 [] hC []
end Go.Proofs.YtcigbocngfaopaaGreat
