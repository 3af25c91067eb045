import Derived.Test.YtpdbkiafikdgpaaGreatDoorM1
set_option linter.unusedVariables false
set_option maxHeartbeats 4000000
namespace Go.Proofs.YtpdbkiafikdgpaaGreatDoor
open Go.SL
def Xj:List Nat:=[0,1,2,3,4,5,6,7,8,9,18,22,36,43]
theorem k29 (x0:Aa) (x1:A2) (x2:As) (r:Int) (h:F29 x0 x1 x2=some r):CO 29 [.agg (d30 x0),.agg (d33 x1),.agg (d43 x2)] [] (.d (I r)) []:=by
 unfold F29 at h
 refine co 55 Tryz.func29 λ C hC=>?_
 obtain⟨y1,h2,h⟩:=Az h
 refine wn Xj 31 [] [pc e47 (k47 x0 x2.Power _ h2) []] [] 0 n9_ [3,4,5,6,7,8,9,18] hC [] ?_
 rcases cB h with⟨h3,h⟩ | ⟨h3,h⟩
 ·replace h:=sI h
  subst h
  exact wr Xj 24 [true] [] [] 0 [] hC [pq h3]
 ·rcases cB h with⟨h4,h⟩ | ⟨h4,h⟩
  ·replace h:=sI h
   subst h
   exact wr Xj 27 [false,true] [pc e49 (k49 x1 _ rfl) []] [] 0 [] hC [pq h3,pq h4]
  ·rcases cB h with⟨h5,h⟩ | ⟨h5,h⟩
   ·replace h:=sI h
    subst h
    exact wr Xj 30 [false,false,true] [pc e49 (k49 x1 _ rfl) [],pl q84 x2.A7] [] 0 [] hC [pq h3,pq h4,pq h5]
   ·obtain⟨y6,h7,y8,h9,h⟩:=Bb h
    refine wn Xj 30 [false,false,false] [pc e49 (k49 x1 _ rfl) [],pl q84 x2.A7,pb e50 (k50 x2.Power y1.1 _ h7),⟨.whenR [(!y6,false)] (.call 51 [.d (DS q84 x2.A7),.d (.fn (.func 52) [] [.o 0 0])] [.box 111 [.fn (.func 48) [] [.o 1 0]],.box 43 (d43 x2)] (dB y8.1) [.box 111 [.fn (.func 48) [] [.o 1 0]],.box 43 (d43 y8.2)] [8,2]),⟨λ hg=>⟨A5r,(A46 x2.A7 x2 _ (Bf h9 hg))⟩,λ hg=>by have e:=Hq h9 hg;subst e;rfl⟩⟩] [] 0 [] [6,43] hC [pq h3,pq h4,pq h5] ?_
    rcases cB h with⟨h10,h⟩ | ⟨h10,h⟩
    ·replace h:=sI h
     subst h
     exact wr Xj 24 [true] [] [] 0 [] hC [pq h10]
    ·replace h:=sI h
     subst h
     exact wr Xj 26 [false] [] [] 0 [] hC [pq h10]
theorem e29:EN 29:=en Tryz.func29
def Ang:List Nat:=[0,1,2,3,4,6,7,8,20]
theorem Anm (x0:Aa) (x1:Ab) (x2:Int) (r:Int×Bool) (h:T2 x0 x1 x2=some r):CO 170 [.agg (d30 x0),.agg (d39 x1),.d (I x2)] [] (.tup [.d (I r.1),.d (Bo r.2)]) []:=by
 unfold T2 at h
 refine co 25 Tryz.func170 λ C hC=>?_
 obtain⟨y1,h2,h⟩:=Az h
 refine wn Ang 28 [] [pc S_ (Sm x0 x1 x2 _ h2) [],pl pI y1.1.Ac] [] 0 [2] [6,7,8,20] hC [] ?_
 rcases cB h with⟨h3,h⟩ | ⟨h3,h⟩
 ·replace h:=sI h
  subst h
  exact wr Ang 24 [true] [] [] 0 [] hC [pq h3]
 ·obtain⟨y4,h5,h⟩:=Az h
  replace h:=sI h
  subst h
  exact wr Ang 25 [false] [pr pI h5] [] 0 [] hC [pq h3]
theorem An3:EN 170:=en Tryz.func170
theorem Awh (x0:Aa) (x1:Ab) (x2:Int) (r:Bool) (h:Yv x0 x1 x2=some r):CO 106 [.agg (d30 x0),.agg (d39 x1),.d (I x2)] [] (.d (Bo r)) []:=by
 unfold Yv at h
 refine co 20 Tryz.func106 λ C hC=>?_
 obtain⟨y1,h2,h⟩:=Az h
 replace h:=sI h
 subst h
 exact wr [0,1,2,3,4,6,7] 27 [] [pc S_ (Sm x0 x1 x2 _ h2) [],pl pI y1.1.Ac] [] 0 [] hC []
theorem Aw1:EN 106:=en Tryz.func106
def Zr:List Nat:=[0,1,2,3,4,6,7,9,11,20,21,22,23,29]
def Uw (y1:Ai×Bool) (n0:Nat) (z0:Int):St:=[(4,dO 0 0),(6,dI 0),(7,dO 1 0),(9,dI z0),(20,.d (DS pI y1.1.Ae)),(21,dI (ln y1.1.Ae)),(22,dI (cnt 0 n0))]
def jW (x1:Ab) (y1:Ai×Bool) (n0:Nat) (z0:Int):List Res:=[.box 39 (d39 x1),.box 137 (H4 y1.1)]
def Akm  (z0:Int):St:=[(6,dI 0),(9,dI z0)]
def Al3  (z0:Int):List Res:=[]
theorem Awe (x0:Aa) (x1:Ab) (x2:Int) (r:Int) (h:T3 x0 x1 x2=some r):CO 168 [.agg (d30 x0),.agg (d39 x1),.d (I x2)] [] (.d (I r)) []:=by
 unfold T3 at h
 refine co 39 Tryz.func168 λ C hC=>?_
 obtain⟨y1,h2,h⟩:=Az h
 refine ws Zr 30 [] [pc S_ (Sm x0 x1 x2 _ h2) [],pl pI y1.1.Ae] [] 0 [1,2] (Uw y1 0 0) (jW x1 y1 0 0) hC [] ?_
 obtain⟨w0,hm0,hret0,hnext0⟩:=Ar h
 clear h
 refine wc w0 (Akm) (Al3) ?_ λ z0 hs0=>?_
 ·refine wb ?_
  refine Bv 20 rfl λ hl0=>?_
  refine wl (Uw y1) (jW x1 y1) hm0 (λ z0 hn0=>?_) λ n0 a0 z0 w0b hi0 hx0 h hb0 hr0=>?_
  ·clear hm0
   exact wx w0 (Akm) (Al3) Zr 26 [false] [] [] 0 [] _ hC [pq (Be hl0)] hn0
  ·unfold V3 at h
   rcases cB h with⟨h3,h⟩ | ⟨h3,h⟩
   ·obtain⟨y4,h5,h⟩:=Az h
    exact wx w0b (Uw y1 (n0+1)) (jW x1 y1 (n0+1)) Zr 36 [true,true] [pt hx0 hl0,pl pI y1.1.Ac,pr pI h5] [] 0 [0,1] _ hC [pq (A_ hi0 hl0),pq h3] (sI h).symm
   ·exact wx w0b (Uw y1 (n0+1)) (jW x1 y1 (n0+1)) Zr 36 [true,false] [pt hx0 hl0,pl pI y1.1.Ac] [] 0 [0,1] _ hC [pq (A_ hi0 hl0),pq h3] (sI h).symm
 ·have h:=hnext0 _ hs0
  replace h:=sI h
  subst h
  exact wr Zr 23 [] [] [] 0 [] hC []
theorem Awy:EN 168:=en Tryz.func168
def Acm:List Nat:=[0,1,2,3,4,6,7,9,11,20,21,22,23]
def uL (y1:Ai×Bool) (n0:Nat) (z0:Int):St:=[(3,dO 0 0),(6,dI 0),(9,dI z0),(20,.d (DS pI y1.1.Ac)),(21,dI (ln y1.1.Ac)),(22,dI (cnt 0 n0))]
def Ahv (x0:Aa) (n0:Nat) (z0:Int):List Res:=[.box 30 (d30 x0)]
def Akn  (z0:Int):St:=[(6,dI 0),(9,dI z0)]
def Al4  (z0:Int):List Res:=[]
theorem Awf (x0:Aa) (x1:Ab) (x2:Int) (r:Int) (h:T4 x0 x1 x2=some r):CO 167 [.agg (d30 x0),.agg (d39 x1),.d (I x2)] [] (.d (I r)) []:=by
 unfold T4 at h
 refine co 36 Tryz.func167 λ C hC=>?_
 obtain⟨y1,h2,h⟩:=Az h
 refine ws Acm 30 [] [pc S_ (Sm x0 x1 x2 _ h2) [],pl pI y1.1.Ac] [] 0 [0] (uL y1 0 0) (Ahv x0 0 0) hC [] ?_
 obtain⟨w0,hm0,hret0,hnext0⟩:=Ar h
 clear h
 refine wc w0 (Akn) (Al4) ?_ λ z0 hs0=>?_
 ·refine wb ?_
  refine Bv 20 rfl λ hl0=>?_
  refine wl (uL y1) (Ahv x0) hm0 (λ z0 hn0=>?_) λ n0 a0 z0 w0b hi0 hx0 h hb0 hr0=>?_
  ·clear hm0
   exact wx w0 (Akn) (Al4) Acm 26 [false] [] [] 0 [] _ hC [pq (Be hl0)] hn0
  ·unfold yY at h
   obtain⟨y3,h4,h⟩:=Az h
   exact wx w0b (uL y1 (n0+1)) (Ahv x0 (n0+1)) Acm 33 [true] [pt hx0 hl0,pr q72 h4] [] 0 [0] _ hC [pq (A_ hi0 hl0)] (sI h).symm
 ·have h:=hnext0 _ hs0
  replace h:=sI h
  subst h
  exact wr Acm 23 [] [] [] 0 [] hC []
theorem Awz:EN 167:=en Tryz.func167
def I9:List Nat:=[0,1,2,3,4,6,7,8,9,11,12,13,22,23,24,25,26,30,31,32,33,47]
def uR  (n0:Nat) (z0:Unit):St:=[(3,dO 0 0),(4,dO 1 0),(6,dI 0),(7,dB false),(8,dO 2 0),(23,.d (DS pI [2,1,0])),(24,dI ([2,1,0].length:Int)),(25,dI (cnt 0 n0))]
def Ah1 (x0:Aa) (x1:Ab) (y1:Ai×Bool) (n0:Nat) (z0:Unit):List Res:=[.box 30 (d30 x0),.box 39 (d39 x1),.box 137 (H4 y1.1)]
def Akv  (z0:Unit):St:=[(6,dI 0),(7,dB false)]
def Amc  (z0:Unit):List Res:=[]
def uQ (x1:Ab) (n0:Nat) (a0:Int) (n1:Nat) (z1:Unit):St:=[(3,dO 0 0),(4,dO 1 0),(6,dI 0),(7,dB false),(8,dO 2 0),(11,dI a0),(23,.d (DS pI [2,1,0])),(24,dI ([2,1,0].length:Int)),(25,dI (cnt 0 n0)),(30,.d (DS q93 x1.Ac)),(31,dI (ln x1.Ac)),(32,dI (cnt 0 n1))]
def Ah0 (x0:Aa) (x1:Ab) (y1:Ai×Bool) (n1:Nat) (z1:Unit):List Res:=[.box 30 (d30 x0),.box 39 (d39 x1),.box 137 (H4 y1.1)]
def Aku (n0:Nat) (z1:Unit):St:=[(3,dO 0 0),(4,dO 1 0),(6,dI 0),(7,dB false),(8,dO 2 0),(23,.d (DS pI [2,1,0])),(24,dI ([2,1,0].length:Int)),(25,dI (cnt 0 n0))]
def Amb (x0:Aa) (x1:Ab) (y1:Ai×Bool) (z1:Unit):List Res:=[.box 30 (d30 x0),.box 39 (d39 x1),.box 137 (H4 y1.1)]
theorem A63 (x0:Aa) (x1:Ab) (x2:Int) (r:Int×Bool) (h:Aje x0 x1 x2=some r):CO 132 [.agg (d30 x0),.agg (d39 x1),.d (I x2)] [] (.tup [.d (I r.1),.d (Bo r.2)]) []:=by
 unfold Aje at h
 refine co 51 Tryz.func132 λ C hC=>?_
 obtain⟨y1,h2,h⟩:=Az h
 refine wn I9 28 [] [pc S_ (Sm x0 x1 x2 _ h2) []] [] 0 n3_ [3,4,6,7,8,22] hC [] ?_
 rcases cB h with⟨h3,h⟩ | ⟨h3,h⟩
 ·replace h:=sI h
  subst h
  exact wr I9 24 [true] [] [] 0 [] hC [pq h3]
 ·refine ws I9 26 [false] [pl pI [2,1,0]] [] 0 n3_ (uR 0 ()) (Ah1 x0 x1 y1 0 ()) hC [pq h3] ?_
  obtain⟨w0,hm0,hret0,hnext0⟩:=Ar h
  clear h
  refine wc w0 (Akv) (Amc) ?_ λ z0 hs0=>?_
  ·refine wb ?_
   refine Bv 23 rfl λ hl0=>?_
   refine wl (uR) (Ah1 x0 x1 y1) hm0 (λ z0 hn0=>?_) λ n0 a0 z0 w0b hi0 hx0 h hb0 hr0=>?_
   ·clear hm0
    exact wx w0 (Akv) (Amc) I9 26 [false] [] [] 0 [] _ hC [pq (Be hl0)] hn0
   ·unfold zG at h
    refine ws I9 32 [true] [pt hx0 hl0,pl q93 x1.Ac] [] 0 n3_ (uQ x1 n0 a0 0 ()) (Ah0 x0 x1 y1 0 ()) hC [pq (A_ hi0 hl0)] ?_
    obtain⟨w1,hm1,hret1,hnext1⟩:=Ar h
    clear h
    refine wc w1 (Aku n0) (Amb x0 x1 y1) ?_ λ z1 hs1=>?_
    ·refine wb ?_
     refine Bv 30 rfl λ hl1=>?_
     refine wl (uQ x1 n0 a0) (Ah0 x0 x1 y1) hm1 (λ z1 hn1=>?_) λ n1 a1 z1 w1b hi1 hx1 h hb1 hr1=>?_
     ·clear hm1
      exact wx w1 (Aku n0) (Amb x0 x1 y1) I9 26 [false] [] [] 0 n3_ _ hC [pq (Be hl1)] hn1
     ·unfold zF at h
      obtain⟨y4,h5,h⟩:=Az h
      refine wn I9 32 [true] [pt hx1 hl1,pw A7u (λ hg=>A6t x0 x1 y1.1 (cnt 0 n1) _ (Bf h5 hg)) []] [] 0 n3_ [3,4,6,7,8,11,12,23,24,25,30,31,32,47] hC [pq (A_ hi1 hl1)] ?_
      rcases cB h with⟨h6,h⟩ | ⟨h6,h⟩
      ·have hq:=hret1 _ (hr1 _ (sI h).symm)
       replace hq:=hret0 _ (hr0 _ (sI hq).symm)
       replace hq:=sI hq
       subst hq
       exact wr I9 24 [true] [] [] 0 [] hC [pq h6]
      ·exact wx w1b (uQ x1 n0 a0 (n1+1)) (Ah0 x0 x1 y1 (n1+1)) I9 25 [false] [] [] 0 n3_ _ hC [pq h6] (sI h).symm
    ·have h:=hnext1 _ hs1
     exact wx w0b (uR (n0+1)) (Ah1 x0 x1 y1 (n0+1)) I9 23 [] [] [] 0 n3_ _ hC [] (sI h).symm
  ·have h:=hnext0 _ hs0
   replace h:=sI h
   subst h
   exact wr I9 23 [] [] [] 0 [] hC []
theorem A74:EN 132:=en Tryz.func132
def Av6:List Nat:=[0,1,2,3,4,5,6,11]
theorem k45 (x0:Aa) (x1:Ab) (r:Ab×Int) (h:F45 x0 x1=some r):CO 45 [.agg (d30 x0),.agg (d39 x1)] [] (.tup [.agg [.os 0,.os 1,.os 2,.os 3],.d (I r.2)]) (zp r.1 []):=by
 unfold F45 at h
 refine co 17 Tryz.func45 λ C hC=>?_
 obtain⟨y1,h2,h⟩:=Az h
 refine wn Av6 28 [] [pc e62 (k62 x0 x1 _ h2) []] [.ownb 2 0 4 1,.ownb 2 1 93 4,.ownb 2 2 3 1,.ownb 2 3 96 2] 0 n7_ [2,3,4,5,6,11] hC [] ?_
 rcases cB h with⟨h3,h⟩ | ⟨h3,h⟩
 ·replace h:=sI h
  subst h
  exact wr Av6 24 [true] [] [.ownb 2 0 4 1,.ownb 2 1 93 4,.ownb 2 2 3 1,.ownb 2 3 96 2] 0 [7,8,9,10] hC [pq h3]
 ·obtain⟨y4,h5,h⟩:=Az h
  replace h:=sI h
  subst h
  exact wr Av6 25 [false] [pc e63 (k63 x0 x1 _ h5) []] [] 0 [7,8,9,10] hC [pq h3]
theorem e45:EN 45:=en Tryz.func45
def Zo:List Nat:=[0,1,2,3,4,5,6,7,8,9,10,20,22,23,49]
theorem A6m (x0:Aa) (x1:Ab) (x2:Aj) (r:Bool) (h:Ai3 x0 x1 x2=some r):CO 200 [.agg (d30 x0),.agg (d39 x1),.agg (d70 x2)] [] (.d (Bo r)) []:=by
 unfold Ai3 at h
 refine co 64 Tryz.func200 λ C hC=>?_
 obtain⟨y1,h2,h⟩:=Az h
 refine wn Zo 28 [] [pc An3 (Anm x0 x1 x2.A _ h2) []] [] 0 n3_ [3,4,5,6,7,20] hC [] ?_
 rcases cB h with⟨h3,h⟩ | ⟨h3,h⟩
 ·replace h:=sI h
  subst h
  exact wr Zo 24 [true] [] [] 0 [] hC [pq h3]
 ·rcases cB h with⟨h4,h⟩ | ⟨h4,h⟩
  ·obtain⟨y5,h6,y7,h8,y9,h10,h⟩:=B0 h
   replace h:=sI h
   subst h
   exact wr Zo 34 [false,true] [pc An3 (Anm x0 x1 x2.B _ h6) [],pR q93 h8,pR q93 h10,⟨.when [(!y5.2,false)] (.call 210 [.agg (d30 x0),.agg (d93 y7),.agg (d93 y9)] [] (dB (Ai1 x0 y7 y9)) [] []),λ hg=>⟨A2w,(A1h x0 y7 y9 _ rfl)⟩⟩] [] 0 [] hC [pq h3,pq h4]
  ·rcases cB h with⟨h11,h⟩ | ⟨h11,h⟩
   ·obtain⟨y12,h13,y14,h15,h⟩:=Bb h
    replace h:=sI h
    subst h
    exact wr Zo 35 [false,false,true] [pr q93 h13,pr q93 h15,pc A2w (A1h x0 y12 y14 _ rfl) []] [] 0 [] hC [pq h3,pq h4,pq h11]
   ·replace h:=sI h
    subst h
    exact wr Zo 37 [false,false,false] [] [] 0 [] hC [pq h3,pq h4,pq h11]
theorem A7n:EN 200:=en Tryz.func200
def Ni:List Nat:=[0,1,2,3,4,5,8,9,10,11,12,13,14,15,16,17,23,44,63,76]
theorem A60 (x0:Aa) (x1:Ab) (x2:Int) (x3:Int) (r:Ab×Int) (h:Ajb x0 x1 x2 x3=some r):CO 138 [.agg (d30 x0),.agg (d39 x1),.d (I x2),.d (I x3)] [] (.tup [.agg [.os 0,.os 1,.os 2,.os 3],.d (I r.2)]) (zp r.1 []):=by
 unfold Ajb at h
 refine co 95 Tryz.func138 λ C hC=>?_
 obtain⟨y1,h2,h⟩:=Az h
 refine wn Ni 28 [] [pc e65 (k65 x0 x1 _ h2) []] [.ownb 2 0 4 1,.ownb 2 1 93 4,.ownb 2 2 3 1,.ownb 2 3 96 2] 0 n7_ [2,3,4,5,8,9,10,23] hC [] ?_
 rcases cB h with⟨h3,h⟩ | ⟨h3,h⟩
 ·replace h:=sI h
  subst h
  exact wr Ni 24 [true] [] [.ownb 2 0 4 1,.ownb 2 1 93 4,.ownb 2 2 3 1,.ownb 2 3 96 2] 0 [7,8,9,10] hC [pq h3]
 ·rcases cB h with⟨h4,h⟩ | ⟨h4,h⟩
  ·replace h:=sI h
   subst h
   exact wr Ni 29 [false,true] [pL_ [(decide (x2<0),false)] q72 x0.Ac] [.ownb 2 0 4 1,.ownb 2 1 93 4,.ownb 2 2 3 1,.ownb 2 3 96 2] 0 [7,8,9,10] hC [pq h3,pq h4]
  ·obtain⟨y5,h6,y7,h8,h⟩:=Bb h
   refine wn Ni 33 [false,false] [pL_ [(decide (x2<0),false)] q72 x0.Ac,pc An3 (Anm x0 x1 x3 _ h6) [],pR q93 h8] [] 0 n7_ [2,4,5,8,9,11,63] hC [pq h3,pq h4] ?_
   rcases cB h with⟨h9,h⟩ | ⟨h9,h⟩
   ·replace h:=sI h
    subst h
    exact wr Ni 24 [true] [] [.ownb 2 0 4 1,.ownb 2 1 93 4,.ownb 2 2 3 1,.ownb 2 3 96 2] 0 [7,8,9,10] hC [pq h9]
   ·obtain⟨y10,h11,y12,h13,h⟩:=Bb h
    refine wn Ni 32 [false] [pc e66 (k66 x1 _ h11) [],pc A29 (A1u x0 x1 x2 _ h13) []] [] 0 Fi [4,5,8,9,11,13,14,15,76] hC [pq h9] ?_
    rcases cB h with⟨h14,h⟩ | ⟨h14,h⟩
    ·obtain⟨y15,h16,y17,h18,y19,h20,h⟩:=B0 h
     replace h:=sI h
     subst h
     exact wr Ni 29 [true] [pc S_ (Sm x0 x1 y12.1 _ h16) [],pr q93 h18,pc An1 (Ank y10 y15.1.Ac y17 _ h20) [7,8,9,10]] [] 0 [7,8,9,10] hC [pq h14]
    ·obtain⟨y21,h22,y23,h24,h⟩:=Bb h
     replace h:=sI h
     subst h
     exact wr Ni 27 [false] [pr q93 h22,pc An1 (Ank y10 [x2] y21 _ h24) [7,8,9,10]] [] 0 [7,8,9,10] hC [pq h14]
theorem A71:EN 138:=en Tryz.func138
theorem A1y (x0:Aj) (x1:Ay) (r:Bool×Ay) (h:T_ x0 x1=some r):CO 158 [.agg (d70 x0),.d (.o 0 0)] (.box 190 [.o 1 0] :: .box 214 (zb x1.Ak [.os 2,.os 3,.os 4,.os 5,.os 6])::zp x1.Au [v6_ x1.acts]) (.d (Bo r.1)) (.box 190 [.o 1 0] :: .box 214 (zb r.2.Ak [.os 2,.os 3,.os 4,.os 5,.os 6])::zp r.2.Au [v6_ r.2.acts]):=by
 unfold T_ at h
 refine co 21 Tryz.func158 λ C hC=>?_
 obtain⟨y1,h2,h⟩:=Az h
 replace h:=sI h
 subst h
 exact wr n4_ 25 [] [pv Aw1 (λ hg=>Awh x1.Ak x1.Au x0.A _ (Bf h2 hg))] [] 7 n7_ hC []
theorem A3d:EN 158:=en Tryz.func158
theorem Ar2 (x0:Ay) (x1:Int) (r:Int) (h:O5 x0 x1=some r):CO 193 [.d (.ip [.v (.int .i64 x0.Ak.An),.s (x0.Ak.Ad.map q70),.s (x0.Ak.Ac.map q72),.s (x0.Ak.Ae.map q81),.v (.int .i64 x0.Ak.Phase),.v (.int .i64 x0.Ak.Ap),.s (x0.Au.Ag.map pB),.s (x0.Au.Ac.map q93),.s (x0.Au.Aq.map pI),.s (x0.Au.Ao.map q96),.s (x0.acts.map q63)]),.d (I x1)] [] (.d (I r)) []:=by
 unfold O5 at h
 refine co 27 Tryz.func193 λ C hC=>?_
 obtain⟨y1,h2,y3,h4,h⟩:=Bb h
 replace h:=sI h
 subst h
 exact wr [0,1,4] 25 [] [pc Awy (Awe x0.Ak x0.Au x1 _ h2) [],pc Awz (Awf x0.Ak x0.Au x1 _ h4) []] [] 0 [] hC []
theorem Asv:EN 193:=en Tryz.func193
def K9:List Nat:=[0,1,2,3,4,5,6,7,8,9,10,13,14,30,33,34,35,40,61]
def Ah2 (x0:Aa) (x1:A2) (x2:Ab) (x3:Int) (z0:Unit):List Res:=[.box 30 (d30 x0),.box 33 (d33 x1),.box 39 (d39 x2),.box 3 [I x3],.box 3 [I 0],.box 4 [Bo false],.non]
def Alz (x0:Aa) (x1:A2) (x2:Ab) (x3:Int) (v129_0:Int×Bool):List Res:=[.box 30 (d30 x0),.box 33 (d33 x1),.box 39 (d39 x2),.box 3 [I x3],.box 3 [I v129_0.1],.box 4 [Bo v129_0.2],.non]
theorem A65 (x0:Aa) (x1:A2) (x2:Ab) (x3:Int) (r:Int×Bool) (h:Ajg x0 x1 x2 x3=some r):CO 129 [.agg (d30 x0),.agg (d33 x1),.agg (d39 x2),.d (I x3)] [] (.tup [.d (I r.1),.d (Bo r.2)]) []:=by
 unfold Ajg at h
 refine co 63 Tryz.func129 λ C hC=>?_
 obtain⟨y1,h2,h⟩:=Az h
 refine wn K9 28 [] [pc S_ (Sm x0 x2 x3 _ h2) [],pc e49 (k49 x1 _ rfl) [],pL_ [(!(F49 x1),false)] pI y1.1.Ac] [] 0 n7_ [4,5,6,7,8,9,10,30] hC [] ?_
 rcases cB h with⟨h3,h⟩ | ⟨h3,h⟩
 ·replace h:=sI h
  subst h
  exact wr K9 24 [true] [] [] 0 [] hC [pq h3]
 ·refine ws K9 27 [false] [pc A7v (A6u y1.1.Ac) []] [] 0 [0,1,2,3,4,5,7] [(4,dO 0 0),(5,dO 1 0),(6,dO 2 0),(7,dO 3 0),(8,dO 4 0),(9,dO 5 0),(33,.d (.fn (.func 197) [] [.o 6 0]))] [.box 30 (d30 x0),.box 33 (d33 x1),.box 39 (d39 x2),.box 3 [I x3],.box 3 [I 0],.box 4 [Bo false],.box 22 [DS pI y1.1.Ac]] hC [pq h3] ?_
  obtain⟨w0,hm0,hret0,hnext0⟩:=Ar h
  clear h
  refine Axm (by kernel_rfl) (t:=33) (d:=13) (p:=35) (gf:=197) (j:=6) (ty:=22) Vp (bw y1.1.Ac) (V6 x0 x1 x2 x3) (Ah2 x0 x1 x2 x3) (Alz x0 x1 x2 x3) w0 () (λ a0=>dI a0.2) hm0 (A0p y1.1.Ac) (by kernel_rfl) (by kernel_rfl) (by kernel_rfl) (by kernel_rfl) (by kernel_rfl) [(4,dO 0 0),(5,dO 1 0),(6,dO 2 0),(7,dO 3 0),(8,dO 4 0),(9,dO 5 0)] (by kernel_rfl) (by kernel_rfl) (A51 (a:=34) (b:=35) (by kernel_rfl)) (A4c 34 35 (by kernel_rfl) (by decide) (by decide)) (by decide) rfl (dt rfl) 7 (by kernel_rfl) (aH hC (bn rfl)) (λ C2 z0 hh hup2 hs0=>?_) (λ C2 v129_0 hh hup2 hr0 a w hsR=>?_) (λ l C' a0 z0 w0b hlen hdf h hkr=>?_)
  ·have hC:C2.h.length<=0:=by rw [hh];exact hC
   have h:=hnext0 _ hs0
   replace h:=sI h
   subst h
   exact Aly (bs:=[]) mixed K9 24 [] [] [] [.cell 8 3,.cell 9 4] 0 [] rfl hC trivial trivial (by kernel_rfl) hup2
  ·have hC:C2.h.length<=0:=by rw [hh];exact hC
   have h:=hret0 _ hr0
   replace h:=sI h
   subst h
   exact hsR.retM [] [.cell 8 3,.cell 9 4] 0 [] rfl hC (by kernel_rfl) hup2
  ·have hC:C'.h.length<=7:=hlen
   unfold V6 at h
   obtain⟨y4,h5,y6,h7,h⟩:=Bb h
   refine wn K9 25 [] [pc An4 (Ann x0 a0.2 _ h5) [],pc Kx (Ku x2 2 y4 _ h7) []] [] 7 n7_ [4,5,6,7,8,9,13,40] hC [] ?_
   rcases cB h with⟨h8,h⟩ | ⟨h8,h⟩
   ·exact wx w0b (λ _=>[]) (Ah2 x0 x1 x2 x3) K9 23 [true] [] [] 7 n7_ _ hC [pq h8] (sI h).symm
   ·obtain⟨y9,h10,y11,h12,y13,h14,h⟩:=B0 h
    refine wn K9 27 [false] [pc Awz (Awf x0 x2 x3 _ h10) [],pr q72 h12,pc Awy (Awe x0 x2 x3 _ h14) []] [] 7 n7_ [8,9,13,61] hC [pq h8] ?_
    rcases cB h with⟨h15,h⟩ | ⟨h15,h⟩
    ·exact A0y (bs:=[((Ati x1 y9 y11 y13),true)]) (Rr:=(Alz x0 x1 x2 x3)) mixed K9 24 [true] [] [] 7 n7_ (a0.2,true) hC trivial ⟨h15,trivial⟩ (by kernel_rfl) (sI h).symm
    ·exact wx w0b (λ _=>[]) (Ah2 x0 x1 x2 x3) K9 24 [false] [] [] 7 n7_ _ hC [pq h15] (sI h).symm
theorem A76:EN 129:=en Tryz.func129
theorem A64 (x0:Aa) (x1:A2) (x2:Ab) (x3:Int) (r:Bool) (h:Ajf x0 x1 x2 x3=some r):CO 131 [.agg (d30 x0),.agg (d33 x1),.agg (d39 x2),.d (I x3)] [] (.d (Bo r)) []:=by
 unfold Ajf at h
 refine co 32 Tryz.func131 λ C hC=>?_
 obtain⟨y1,h2,y3,h4,y5,h6,h⟩:=B0 h
 replace h:=sI h
 subst h
 exact wr [0,1,2,3,4,5,6,8] 25 [] [pc e49 (k49 x1 _ rfl) [],pw Aw1 (λ hg=>Awh x0 x2 x3 _ (Bf h2 hg)) [],pw Awy (λ hg=>Awe x0 x2 x3 _ (Bf h4 hg)) [],pw Awz (λ hg=>Awf x0 x2 x3 _ (Bf h6 hg)) []] [] 0 [] hC []
theorem A75:EN 131:=en Tryz.func131
def vR:List Nat:=[0,1,2,3,4,5,8,9,10,12,19,20,25]
theorem A2b (x0:Aa) (x1:Ab) (x2:Int) (x3:Int) (r:(List Am)×Bool) (h:Um x0 x1 x2 x3=some r):CO 133 [.agg (d30 x0),.agg [.os 0,.os 1,.os 2,.os 3],.d (I x2),.d (I x3)] (zp x1 []) (.tup [.d (DS q63 r.1),.d (Bo r.2)]) (zp x1 []):=by
 unfold Um at h
 refine co 49 Tryz.func133 λ C hC=>?_
 obtain⟨y1,h2,h⟩:=Az h
 rcases cB h with⟨h3,h⟩ | ⟨h3,h⟩
 ·replace h:=sI h
  subst h
  exact wr vR 32 [true] [pr q93 h2,pn q93 h2] [] 4 n4_ hC [pq h3]
 ·rcases cB h with⟨h4,h⟩ | ⟨h4,h⟩
  ·obtain⟨y5,h6,y7,h8,y9,h10,h⟩:=B0 h
   replace h:=sI h
   subst h
   exact wr vR 39 [false,true] [pr q93 h2,pn q93 h2,pb An3 (Anm x0 x1 x2 _ h6),pb A29 (A1u x0 x1 y5.1 _ h8),pc An4 (Ann x0 x3 _ h10) []] [] 4 n4_ hC [pq h3,pq h4]
  ·replace h:=sI h
   subst h
   exact wr vR 37 [false,false] [pr q93 h2,pn q93 h2] [] 4 n4_ hC [pq h3,pq h4]
theorem A3q:EN 133:=en Tryz.func133
theorem A49 (x0:Ah) (x1:Aa) (r:Ab×Ah) (h:qN x0 x1=some r):CO 28 [.d (.o 0 0),.agg [I x1.An,.os 1,.os 2,.os 3,I x1.Phase,I x1.Ap]] (.box 77 (d77 x0)::zs x1 []) (.agg [.os 4,.os 5,.os 6,.os 7]) (.box 77 (d77 r.2)::zs x1 (zp r.1 [])):=by
 unfold qN at h
 refine co 16 Tryz.func28 λ C hC=>?_
 obtain⟨y1,h2,y3,h4,h⟩:=Bb h
 replace h:=sI h
 subst h
 exact wr [0,1,3,4,5] 27 [] [⟨.flts [.box 39 [.p (.v (.slice none 0 0)),.p (.v (.slice none 0 0)),.p (.v (.slice none 0 0)),.p (.v (.slice none 0 0))]],trivial⟩,pc A5s (A47 x0 x1 _ h2) n4_,⟨.call 45 [.agg [I x1.An,.os 0,.os 1,.os 2,I x1.Phase,I x1.Ap],.agg [.os 3,.os 4,.os 5,.os 6]] (zs x1 (zp y1.1 [])) (.tup [.agg [.os 7,.os 8,.os 9,.os 10],dI y3.2]) (zs x1 (zp y1.1 (zp y3.1 []))) [1,2,3,7,8,9,10],⟨e45,((k45 x1 y1.1 _ h4).lend (by kernel_rfl) (by kernel_rfl) (by kernel_rfl) ⟨Bh (λ _=>rfl),Bh (λ _=>rfl),Bh (λ _=>rfl),Bh (λ _=>rfl),trivial⟩ (by kernel_rfl) (by kernel_rfl))⟩⟩,⟨.flt 6 (.box 39 [.p (.v (.slice none 0 0)),.p (.v (.slice none 0 0)),.p (.v (.slice none 0 0)),.p (.v (.slice none 0 0))]) (.box 39 [.p (.v (.slice none 0 0)),.p (.v (.slice none 0 0)),.p (.v (.slice none 0 0)),.p (.v (.slice none 0 0))]),rfl⟩] [] 4 [0,1,2,3,11,12,13,14] hC []
theorem A5u:EN 28:=en Tryz.func28
def Nh:List Nat:=[0,1,2,3,4,6,7,8,9,11,15,19,29,66]
theorem A6s (x0:Aa) (x1:Ab) (x2:Int) (r:Int) (h:Ai5 x0 x1 x2=some r):CO 174 [.agg (d30 x0),.agg (d39 x1),.d (I x2)] [] (.d (I r)) []:=by
 unfold Ai5 at h
 refine co 67 Tryz.func174 λ C hC=>?_
 obtain⟨y1,h2,h⟩:=Az h
 refine wn Nh 29 [] [pc e65 (k65 x0 x1 _ h2) []] [] 0 [0,1] [2,3,4,6,7,15] hC [] ?_
 rcases cB h with⟨h3,h⟩ | ⟨h3,h⟩
 ·replace h:=sI h
  subst h
  exact wr Nh 24 [true] [] [] 0 [] hC [pq h3]
 ·rcases cB h with⟨h4,h⟩ | ⟨h4,h⟩
  ·replace h:=sI h
   subst h
   exact wr Nh 27 [false,true] [pL_ [(decide (x2<0),false)] q70 x0.Ad] [] 0 [] hC [pq h3,pq h4]
  ·obtain⟨y5,h6,h⟩:=Az h
   refine wn Nh 27 [false,false] [pL_ [(decide (x2<0),false)] q70 x0.Ad,pc A7o (A6n x0 x1 x2 _ h6) []] [] 0 [0,1] [2,3,4,6,29] hC [pq h3,pq h4] ?_
   rcases cB h with⟨h7,h⟩ | ⟨h7,h⟩
   ·replace h:=sI h
    subst h
    exact wr Nh 24 [true] [] [] 0 [] hC [pq h7]
   ·obtain⟨y8,h9,y10,h11,y12,h13,y14,h15,h⟩:=Cr h
    refine wn Nh 33 [false] [pr q70 h9,pc S_ (Sm x0 x1 y8.A _ h11) [],pw Xs (λ hg=>Xm y10.1.An y8.B _ (Bf h13 hg)) [],pw A7n (λ hg=>A6m x0 x1 y8 _ (Bf h15 hg)) []] [] 0 [] [6,66] hC [pq h7] ?_
    rcases cB h with⟨h16,h⟩ | ⟨h16,h⟩
    ·replace h:=sI h
     subst h
     exact wr Nh 24 [true] [] [] 0 [] hC [pq h16]
    ·replace h:=sI h
     subst h
     exact wr Nh 25 [false] [] [] 0 [] hC [pq h16]
theorem A7t:EN 174:=en Tryz.func174
def Hf:List Nat:=[0,1,4,5,6,8,13,14,15,16,32,38,39,40,41]
def M5 (x0:Ay) (n0:Nat) (z0:Sg9):St:=[(0,dO 0 0),(1,.d (.fn (.func 158) [] [.o 6 0])),(4,dS 7),(13,.d (DS q70 x0.Ak.Ad)),(14,dI (ln x0.Ak.Ad)),(15,dI (cnt 0 n0))]
def Qo  (n0:Nat) (z0:Sg9):List Res:=[.box 214 [I z0.1,DS q70 z0.2.1,DS q72 z0.2.2.1,DS q81 (g3_ z0),I (g4_ z0),I (g5_ z0),.os 8,.os 9,.os 10,.os 11,.os 12],.non,.non,.non,.non,.non,.box 190 [.o 0 0],v0_ (g6_ z0),v2_ (g7_ z0),v4_ (g8_ z0),v0_ (g9_ z0),v3_ (Dk z0),v6_ (H9 z0)]
def Aat  (z0:Sg9):St:=[(0,dO 0 0),(4,dS 7)]
def Abz  (z0:Sg9):List Res:=[.box 214 [I z0.1,DS q70 z0.2.1,DS q72 z0.2.2.1,DS q81 (g3_ z0),I (g4_ z0),I (g5_ z0),.os 8,.os 9,.os 10,.os 11,.os 12],.non,.non,.non,.non,.non,.box 190 [.o 0 0],v0_ (g6_ z0),v2_ (g7_ z0),v4_ (g8_ z0),v0_ (g9_ z0),v3_ (Dk z0),v6_ (H9 z0)]
def Ry (z0:Sg9) (n1:Nat) (z1:Sg8):St:=[(0,dO 0 0),(38,dS 7),(39,dI (ln (g6_ z0))),(40,dI (cnt 0 n1))]
def Ye (z0:Sg9) (n1:Nat) (z1:Sg8):List Res:=[.box 214 [I z1.1,DS q70 z1.2.1,DS q72 z1.2.2.1,DS q81 (g3_ z1),I (g4_ z1),I (g5_ z1),.os 8,.os 9,.os 10,.os 11,.os 12],.non,.non,.non,.non,.non,.box 190 [.o 0 0],v0_ (g6_ z0),v2_ (g6_ z1),v4_ (g7_ z1),v0_ (g8_ z1),v3_ (g9_ z1),v6_ (Fm z1)]
def Aas  (z1:Sg8):St:=[]
def Aby  (z1:Sg8):List Res:=[.box 214 [I z1.1,DS q70 z1.2.1,DS q72 z1.2.2.1,DS q81 (g3_ z1),I (g4_ z1),I (g5_ z1),.os 7,.os 8,.os 9,.os 10,.os 11],.non,.non,.non,.non,.non,.box 190 [.o 0 0],v2_ (g6_ z1),v4_ (g7_ z1),v0_ (g8_ z1),v3_ (g9_ z1),v6_ (Fm z1)]
theorem A11 (x0:Ay) (r:Ay) (h:Ue x0=some r):CO 156 [.d (.o 0 0),.d (.fn (.func 158) [] [.o 6 0])] (.box 214 (zb x0.Ak [.os 1,.os 2,.os 3,.os 4,.os 5])::zp x0.Au [v6_ x0.acts,.box 190 [.o 0 0]]) (.tup []) (.box 214 (zb r.Ak [.os 7,.os 8,.os 9,.os 10,.os 11]) :: .non :: .non :: .non :: .non :: .non :: .box 190 [.o 0 0]::zp r.Au [v6_ r.acts]):=by
 unfold Ue at h
 refine co 48 Tryz.func156 λ C hC=>?_
 refine ws Hf 26 [] [pl q70 x0.Ak.Ad] [.own 4 3 1,.mv 1,.mv 2,.mv 3,.mv 4,.mv 5] 7 H2 (M5 x0 0 (zt x0.Ak (([]:List Int),zu x0.Au x0.acts))) (Qo 0 (zt x0.Ak (([]:List Int),zu x0.Au x0.acts))) hC [] ?_
 obtain⟨w0,hm0,hret0,hnext0⟩:=Ar h
 clear h
 refine wc w0 (Aat) (Abz) ?_ λ z0 hs0=>?_
 ·refine wb ?_
  refine Bv 13 rfl λ hl0=>?_
  refine wl (M5 x0) (Qo) hm0 (λ z0 hn0=>?_) λ n0 a0 z0 w0b hi0 hx0 h hb0 hr0=>?_
  ·clear hm0
   exact wx w0 (Aat) (Abz) Hf 26 [false] [] [] 7 H2 _ hC [pq (Be hl0)] hn0
  ·unfold Ud at h
   obtain⟨y1,h2,y3,h4,h⟩:=Bb h
   refine wn Hf 32 [true] [pt hx0 hl0,pr pB h2,pn pB h2,⟨.whenR [(y1,true)] (.call 158 [.agg (d70 a0),dO 0 0] [.box 190 [.o 1 0],.box 214 [I z0.1,DS q70 z0.2.1,DS q72 z0.2.2.1,DS q81 (g3_ z0),I (g4_ z0),I (g5_ z0),.os 2,.os 3,.os 4,.os 5,.os 6],v2_ (g7_ z0),v4_ (g8_ z0),v0_ (g9_ z0),v3_ (Dk z0),v6_ (H9 z0)] (dB y3.1) (.box 190 [.o 1 0] :: .box 214 (zb y3.2.Ak [.os 2,.os 3,.os 4,.os 5,.os 6])::zp y3.2.Au [v6_ y3.2.acts]) [6,0,8,9,10,11,12]),⟨λ hg=>⟨A3d,(A1y a0 (⟨(⟨z0.1,z0.2.1,z0.2.2.1,(g3_ z0),(g4_ z0),(g5_ z0)⟩:Aa),(⟨(g7_ z0),(g8_ z0),(g9_ z0),(Dk z0)⟩:Ab),(H9 z0)⟩:Ay) _ (Bf h4 hg))⟩,λ hg=>by have e:=Hq h4 hg;subst e;rfl⟩⟩] [] 7 H2 [0,1,4,5,13,14,15,32] hC [pq (A_ hi0 hl0)] ?_
   rcases cB h with⟨h5,h⟩ | ⟨h5,h⟩
   ·obtain⟨y6,h7,h⟩:=Az h
    exact wx w0b (M5 x0 (n0+1)) (Qo (n0+1)) Hf 25 [true] [pa pI 1 h7] [] 7 [0,1,2,3,4,5,6,13,8,9,10,11,12] _ hC [pq h5] (sI h).symm
   ·exact wx w0b (M5 x0 (n0+1)) (Qo (n0+1)) Hf 25 [false] [] [] 7 H2 _ hC [pq h5] (sI h).symm
 ·have h:=hnext0 _ hs0
  refine ws Hf 23 [] [pl pI (g6_ z0)] [] 7 H2 (Ry z0 0 (z0.1,z0.2.1,z0.2.2.1,(g3_ z0),(g4_ z0),(g5_ z0),(g7_ z0),(g8_ z0),(g9_ z0),(Dk z0),(H9 z0))) (Ye z0 0 (z0.1,z0.2.1,z0.2.2.1,(g3_ z0),(g4_ z0),(g5_ z0),(g7_ z0),(g8_ z0),(g9_ z0),(Dk z0),(H9 z0))) hC [] ?_
  obtain⟨w1,hm1,hret1,hnext1⟩:=Ar h
  clear h
  refine wc w1 (Aas) (Aby) ?_ λ z1 hs1=>?_
  ·refine wb ?_
   refine Cj 38 7 rfl rfl λ hl1=>?_
   refine wl (Ry z0) (Ye z0) hm1 (λ z1 hn1=>?_) λ n1 a1 z1 w1b hi1 hx1 h hb1 hr1=>?_
   ·clear hm1
    exact wx w1 (Aas) (Aby) Hf 26 [false] [] [] 7 [0,1,2,3,4,5,6,8,9,10,11,12] _ hC [pq (Be hl1)] hn1
   ·unfold Ab9 at h
    obtain⟨y8,h9,h⟩:=Az h
    exact wx w1b (Ry z0 (n1+1)) (Ye z0 (n1+1)) Hf 33 [true] [pr pI (Bn hx1 hl1),pn pI (Bn hx1 hl1),pc Agk (Aft (⟨(⟨z1.1,z1.2.1,z1.2.2.1,(g3_ z1),(g4_ z1),(g5_ z1)⟩:Aa),(⟨(g6_ z1),(g7_ z1),(g8_ z1),(g9_ z1)⟩:Ab),(Fm z1)⟩:Ay) a1 _ h9) [0,8,9,10,11,12]] [] 7 [0,1,2,3,4,5,6,7,8,9,10,11,13] _ hC [pq (A_ hi1 hl1)] (sI h).symm
  ·have h:=hnext1 _ hs1
   replace h:=sI h
   subst h
   exact wf Hf 20 [] [] [] 7 Fi hC []
theorem A3g:EN 156:=en Tryz.func156
def Lp:List Nat:=[0,1,2,7,8,9,10,11,12,38]
def M2 (x1:List Int) (x2:Int) (n0:Nat) (z0:(List Int)×(List Am)):St:=[(0,dO 0 0),(2,dI x2),(9,dS 6),(10,dI (ln x1)),(11,dI (cnt 0 n0))]
def Ql (x0:Ay) (x1:List Int) (n0:Nat) (z0:(List Int)×(List Am)):List Res:=[.box 214 (zb x0.Ak [.os 7,.os 8,.os 9,.os 10,.os 11]),.non,.non,.non,.non,.non,v0_ x1,v2_ x0.Au.Ag,v4_ x0.Au.Ac,v0_ z0.1,v3_ x0.Au.Ao,v6_ z0.2]
def Aao  (z0:(List Int)×(List Am)):St:=[]
def Abu (x0:Ay) (x1:List Int) (z0:(List Int)×(List Am)):List Res:=[.box 214 (zb x0.Ak [.os 7,.os 8,.os 9,.os 10,.os 11]),.non,.non,.non,.non,.non,v0_ x1,v2_ x0.Au.Ag,v4_ x0.Au.Ac,v0_ z0.1,v3_ x0.Au.Ao,v6_ z0.2]
theorem A1w (x0:Ay) (x1:List Int) (x2:Int) (r:Ay) (h:O8 x0 x1 x2=some r):CO 162 [.d (.o 0 0),.d (.os 6),.d (I x2)] (.box 214 (zb x0.Ak [.os 1,.os 2,.os 3,.os 4,.os 5])::zp x0.Au [v6_ x0.acts,v0_ x1]) (.tup []) (.box 214 (zb r.Ak [.os 7,.os 8,.os 9,.os 10,.os 11]) :: .non :: .non :: .non :: .non :: .non::v0_ x1::zp r.Au [v6_ r.acts]):=by
 unfold O8 at h
 refine co 70 Tryz.func162 λ C hC=>?_
 refine ws Lp 23 [] [pl pI x1] [.mv 1,.mv 2,.mv 3,.mv 4,.mv 5] 7 Fi (M2 x1 x2 0 (x0.Au.Aq,x0.acts)) (Ql x0 x1 0 (x0.Au.Aq,x0.acts)) hC [] ?_
 obtain⟨w0,hm0,hret0,hnext0⟩:=Ar h
 clear h
 refine wc w0 (Aao) (Abu x0 x1) ?_ λ z0 hs0=>?_
 ·refine wb ?_
  refine Cj 9 6 rfl rfl λ hl0=>?_
  refine wl (M2 x1 x2) (Ql x0 x1) hm0 (λ z0 hn0=>?_) λ n0 a0 z0 w0b hi0 hx0 h hb0 hr0=>?_
  ·clear hm0
   exact wx w0 (Aao) (Abu x0 x1) Lp 26 [false] [] [] 7 Fi _ hC [pq (Be hl0)] hn0
  ·unfold T7 at h
   obtain⟨y1,h2,y3,h4,y5,h6,h⟩:=B0 h
   refine wn Lp 34 [true] [pr pI (Bn hx0 hl0),pn pI (Bn hx0 hl0),pb Asv (Ar2 (⟨x0.Ak,(⟨x0.Au.Ag,x0.Au.Ac,z0.1,x0.Au.Ao⟩:Ab),z0.2⟩:Ay) x2 _ h2),pr pI h4,pn pI h4,pr q81 h6] [] 7 Fi [0,2,7,8,9,10,11,38] hC [pq (A_ hi0 hl0)] ?_
   rcases cB h with⟨h7,h⟩ | ⟨h7,h⟩
   ·obtain⟨y8,h9,y10,h11,y12,h13,h⟩:=B0 h
    exact wx w0b (M2 x1 x2 (n0+1)) (Ql x0 x1 (n0+1)) Lp 27 [true] [pr pI h4,pn pI h4,pr pI h4,pu pI h4 h9,pr pI h11,pn pI h11,pa q63 3 h13] [] 7 [0,1,2,3,4,5,6,7,8,9,10,12] _ hC [pq h7] (sI h).symm
   ·exact wx w0b (M2 x1 x2 (n0+1)) (Ql x0 x1 (n0+1)) Lp 25 [false] [] [] 7 Fi _ hC [pq h7] (sI h).symm
 ·have h:=hnext0 _ hs0
  replace h:=sI h
  subst h
  exact wf Lp 20 [] [] [] 7 Fi hC []
theorem A3b:EN 162:=en Tryz.func162
def Lo:List Nat:=[0,1,2,7,8,9,10,11,28]
def M1 (x1:List Int) (x2:Int) (n0:Nat) (z0:Sg8):St:=[(0,dO 0 0),(2,dI x2),(8,dS 6),(9,dI (ln x1)),(10,dI (cnt 0 n0))]
def Qk (x1:List Int) (n0:Nat) (z0:Sg8):List Res:=[.box 214 [I z0.1,DS q70 z0.2.1,DS q72 z0.2.2.1,DS q81 (g3_ z0),I (g4_ z0),I (g5_ z0),.os 7,.os 8,.os 9,.os 10,.os 11],.non,.non,.non,.non,.non,v0_ x1,v2_ (g6_ z0),v4_ (g7_ z0),v0_ (g8_ z0),v3_ (g9_ z0),v6_ (Fm z0)]
def Aan  (z0:Sg8):St:=[]
def Abt (x1:List Int) (z0:Sg8):List Res:=[.box 214 [I z0.1,DS q70 z0.2.1,DS q72 z0.2.2.1,DS q81 (g3_ z0),I (g4_ z0),I (g5_ z0),.os 7,.os 8,.os 9,.os 10,.os 11],.non,.non,.non,.non,.non,v0_ x1,v2_ (g6_ z0),v4_ (g7_ z0),v0_ (g8_ z0),v3_ (g9_ z0),v6_ (Fm z0)]
theorem A1v (x0:Ay) (x1:List Int) (x2:Int) (r:Ay) (h:O7 x0 x1 x2=some r):CO 163 [.d (.o 0 0),.d (.os 6),.d (I x2)] (.box 214 (zb x0.Ak [.os 1,.os 2,.os 3,.os 4,.os 5])::zp x0.Au [v6_ x0.acts,v0_ x1]) (.tup []) (.box 214 (zb r.Ak [.os 7,.os 8,.os 9,.os 10,.os 11]) :: .non :: .non :: .non :: .non :: .non::v0_ x1::zp r.Au [v6_ r.acts]):=by
 unfold O7 at h
 refine co 33 Tryz.func163 λ C hC=>?_
 refine ws Lo 23 [] [pl pI x1] [.mv 1,.mv 2,.mv 3,.mv 4,.mv 5] 7 Fi (M1 x1 x2 0 (zt x0.Ak (zu x0.Au x0.acts))) (Qk x1 0 (zt x0.Ak (zu x0.Au x0.acts))) hC [] ?_
 obtain⟨w0,hm0,hret0,hnext0⟩:=Ar h
 clear h
 refine wc w0 (Aan) (Abt x1) ?_ λ z0 hs0=>?_
 ·refine wb ?_
  refine Cj 8 6 rfl rfl λ hl0=>?_
  refine wl (M1 x1 x2) (Qk x1) hm0 (λ z0 hn0=>?_) λ n0 a0 z0 w0b hi0 hx0 h hb0 hr0=>?_
  ·clear hm0
   exact wx w0 (Aan) (Abt x1) Lo 26 [false] [] [] 7 Fi _ hC [pq (Be hl0)] hn0
  ·unfold T6 at h
   obtain⟨y1,h2,y3,h4,h⟩:=Bb h
   refine wn Lo 32 [true] [pr pI (Bn hx0 hl0),pn pI (Bn hx0 hl0),pr pI h2,pn pI h2,pv Asv (λ hg=>Ar2 (⟨(⟨z0.1,z0.2.1,z0.2.2.1,(g3_ z0),(g4_ z0),(g5_ z0)⟩:Aa),(⟨(g6_ z0),(g7_ z0),(g8_ z0),(g9_ z0)⟩:Ab),(Fm z0)⟩:Ay) x2 _ (Bf h4 hg))] [] 7 H2 [0,2,7,8,9,10,28] hC [pq (A_ hi0 hl0)] ?_
   rcases cB h with⟨h5,h⟩ | ⟨h5,h⟩
   ·obtain⟨y6,h7,h⟩:=Az h
    exact wx w0b (M1 x1 x2 (n0+1)) (Qk x1 (n0+1)) Lo 25 [true] [pc A3f (A10 (⟨(⟨z0.1,z0.2.1,z0.2.2.1,(g3_ z0),(g4_ z0),(g5_ z0)⟩:Aa),(⟨(g6_ z0),(g7_ z0),(g8_ z0),(g9_ z0)⟩:Ab),(Fm z0)⟩:Ay) a0 _ h7) [0,7,8,9,10,11,12]] [] 7 [0,1,2,3,4,5,6,13,14,15,16,17] _ hC [pq h5] (sI h).symm
   ·exact wx w0b (M1 x1 x2 (n0+1)) (Qk x1 (n0+1)) Lo 25 [false] [] [] 7 Fi _ hC [pq h5] (sI h).symm
 ·have h:=hnext0 _ hs0
  replace h:=sI h
  subst h
  exact wf Lo 20 [] [] [] 7 Fi hC []
theorem A3a:EN 163:=en Tryz.func163
def E7:List Nat:=[0,1,2,3,4,5,6,7,8,10,11,12,13,14,15,16,17,18,19,20,21,22,27,32,59,114,123,138]
def R9 (y6:Int×Bool) (y13:(List Am)×Bool) (z0:Int):St:=[(6,dO 4 0),(7,dO 5 0),(10,dO 6 0),(11,dO 7 0),(12,dO 8 0),(13,.d (DS q63 [])),(14,dI 0),(17,dI y6.1),(21,.d (DS q63 y13.1))]
def Tq (x0:Aa) (x1:A2) (x2:Ab) (x4:Int) (x5:Aw) (y6:Int×Bool) (z0:Int):List Res:=(zp x2 [.box 30 (d30 x0),.box 33 (d33 x1),.box 3 [I x4],.box 84 [I z0,I (Im x5.Low y6.2 x4)],.box 84 [I 0,I 0]])
theorem A2l (x0:Aa) (x1:A2) (x2:Ab) (x3:Int) (x4:Int) (x5:Aw) (r:Aw×(List Am)×Int) (h:Us x0 x1 x2 x3 x4 x5=some r):CO 107 [.agg (d30 x0),.agg (d33 x1),.agg [.os 0,.os 1,.os 2,.os 3],.d (I x3),.d (I x4),.agg (d84 x5)] (zp x2 []) (.tup [.agg (d84 r.1),.d (DS q63 r.2.1),.d (I r.2.2)]) (zp x2 []):=by
 unfold Us at h
 refine co 149 Tryz.func107 λ C hC=>?_
 obtain⟨y1,h2,h⟩:=Az h
 refine wn E7 31 [] [pb e65 (k65 x0 x2 _ h2)] [] 4 Gs [3,6,7,8,10,11,12,13,14,15,16,27] hC [] ?_
 rcases cB h with⟨h3,h⟩ | ⟨h3,h⟩
 ·replace h:=sI h
  subst h
  exact wr E7 24 [true] [] [] 4 n4_ hC [pq h3]
 ·refine wn E7 24 [false] [pc e49 (k49 x1 _ rfl) [],⟨.when [((((!(F49 x1)) || (decide (x4<0))) || (decide (x4>2147483648))),false)] (.callB 128 [dI x5.High,.d (.ip [.v (.int .i64 x4)])] (dB (Kr x5.High x4)) [[]] 0 []),λ hg=>Iv ⟨Asy,(Ar5 x5.High x4 _ rfl)⟩⟩,⟨.when [(((((!(F49 x1)) || (decide (x4<0))) || (decide (x4>2147483648))) || (!(Kr x5.High x4))),false)] (.callB 128 [dI x5.Low,.d (.ip [.v (.int .i64 x4)])] (dB (Kr x5.Low x4)) [[]] 0 []),λ hg=>Iv ⟨Asy,(Ar5 x5.Low x4 _ rfl)⟩⟩] [] 4 Gs [3,6,7,8,10,11,12,13,14,32] hC [pq h3] ?_
  rcases cB h with⟨h4,h⟩ | ⟨h4,h⟩
  ·replace h:=sI h
   subst h
   exact wr E7 24 [true] [] [] 4 n4_ hC [pq h4]
  ·rcases cB h with⟨h5,h⟩ | ⟨h5,h⟩
   ·replace h:=sI h
    subst h
    exact wr E7 27 [false,true] [] [] 4 n4_ hC [pq h4,pq h5]
   ·obtain⟨y6,h7,y8,h9,y10,h11,h⟩:=B0 h
    refine wn E7 36 [false,false] [pb A76 (A65 x0 x1 x2 x3 _ h7),pb A75 (A64 x0 x1 x2 x3 _ h9),pc A3r (A2c x5.High y8 x4 _ rfl) [],pc A3r (A2c x5.Low y6.2 x4 _ rfl) [],pb A74 (A63 x0 x2 x3 _ h11)] [] 4 Gs [3,6,7,8,10,11,12,13,14,17,19,114] hC [pq h4,pq h5] ?_
    rcases cB h with⟨h12,h⟩ | ⟨h12,h⟩
    ·obtain⟨y13,h14,h⟩:=Az h
     refine wn E7 27 [true] [pc A3q (A2b x0 x2 x3 y10.1 _ h14) n4_] [] 4 [0,1,2,3,4,5,7,8,9] [6,7,10,11,12,13,14,17,21,123] hC [pq h12] ?_
     obtain⟨w0,h,hret0,hnext0⟩:=Ar h
     refine wc w0 (R9 y6 y13) (Tq x0 x1 x2 x4 x5 y6) ?_ λ z0 hs0=>?_
     ·unfold Ur at h
      rcases cB h with⟨h15,h⟩ | ⟨h15,h⟩
      ·exact wx w0 (R9 y6 y13) (Tq x0 x1 x2 x4 x5 y6) E7 23 [true] [] [] 4 n9_ _ hC [pq h15] (sI h).symm
      ·exact wx w0 (R9 y6 y13) (Tq x0 x1 x2 x4 x5 y6) E7 23 [false] [] [] 4 n9_ _ hC [pq h15] (sI h).symm
     ·clear h;have h:=hnext0 _ hs0
      replace h:=sI h
      subst h
      exact wr E7 23 [] [] [] 4 n4_ hC []
    ·rcases cB h with⟨h16,h⟩ | ⟨h16,h⟩
     ·obtain⟨y17,h18,h⟩:=Az h
      replace h:=sI h
      subst h
      exact wr E7 31 [false,true] [pc An4 (Ann x0 y6.1 _ h18) []] [] 4 n4_ hC [pq h12,pq h16]
     ·replace h:=sI h
      subst h
      exact wr E7 30 [false,false] [] [] 4 n4_ hC [pq h12,pq h16]
theorem A30:EN 107:=en Tryz.func107
def Zx:List Nat:=[0,1,3,4,5,6,16]
def W7  (z0:Sg6):St:=[(0,dO 0 0),(3,dO 4 0),(4,dO 5 0),(5,dO 6 0),(6,dI z0.1)]
def yW (x1:Aa) (y1:Int×Ah) (y3:Ab×Ah) (z0:Sg6):List Res:=(.box 77 [DS pI z0.2.1,I z0.2.2.1]::zs x1 (.box 30 [I x1.An,.os 1,.os 2,.os 3,I x1.Phase,I x1.Ap] :: .box 43 [I 0,.os 11,.os 12,.os 13,.os 14,.os 15,.os 16] :: .box 43 [I y1.1,.os 7,.os 8,.os 9,.os 10,.os 17,.os 18]::zp y3.1 (ze [v5_ ([]:List Aw),v1_ ([]:List A6),v5_ (Ef z0),v1_ ([]:List A6)])))
def Aez  (z0:Sg6):St:=[(4,dO 4 0),(5,dO 5 0)]
def Ahp (x1:Aa) (y1:Int×Ah) (y3:Ab×Ah) (z0:Sg6):List Res:=(.box 77 [DS pI z0.2.1,I z0.2.2.1]::zs x1 (.box 43 [I 0,.os 10,.os 11,.os 12,.os 13,.os 14,.os 15] :: .box 43 [I y1.1,.os 6,.os 7,.os 8,.os 9,.os 16,.os 17]::zp y3.1 (ze [v5_ ([]:List Aw),v1_ ([]:List A6),v5_ (Ef z0),v1_ ([]:List A6)])))
theorem A5c (x0:Ah) (x1:Aa) (r:As×Ah) (h:qX x0 x1=some r):CO 12 [.d (.o 0 0),.agg [I x1.An,.os 1,.os 2,.os 3,I x1.Phase,I x1.Ap]] (.box 77 (d77 x0)::zs x1 []) (.agg [I r.1.Time,.os 4,.os 5,.os 6,.os 7,.os 8,.os 9]) (.box 77 (d77 r.2)::zs x1 (zp r.1.Power [v5_ r.1.A7,v1_ r.1.Bc])):=by
 unfold qX at h
 refine co 30 Tryz.func12 λ C hC=>?_
 obtain⟨y1,h2,y3,h4,h⟩:=Bb h
 refine ws Zx 28 [] [⟨.flts [.box 43 [I 0,.p (.v (.slice none 0 0)),.p (.v (.slice none 0 0)),.p (.v (.slice none 0 0)),.p (.v (.slice none 0 0)),.p (.v (.slice none 0 0)),.p (.v (.slice none 0 0))]],trivial⟩,pc e26 (k26 x0 5 20 _ h2) [0],pc A5u (A49 y1.2 x1 _ h4) n4_,⟨.flt 6 (.box 43 [I 0,.p (.v (.slice none 0 0)),.p (.v (.slice none 0 0)),.p (.v (.slice none 0 0)),.p (.v (.slice none 0 0)),.p (.v (.slice none 0 0)),.p (.v (.slice none 0 0))]) (.box 43 [I 0,.p (.v (.slice none 0 0)),.p (.v (.slice none 0 0)),.p (.v (.slice none 0 0)),.p (.v (.slice none 0 0)),.p (.v (.slice none 0 0)),.p (.v (.slice none 0 0))]),rfl⟩] [.ownb 5 1 4 1,.ownb 5 2 93 4,.ownb 5 3 3 1,.ownb 5 4 96 2,.ownb 5 5 84 2,.ownb 5 6 65 5,.ownb 6 5 84 2,.ownb 6 6 65 5] 4 A6g (W7 (0,y3.2.L,y3.2.At,([]:List Aw))) (yW x1 y1 y3 (0,y3.2.L,y3.2.At,([]:List Aw))) hC [] ?_
 obtain⟨w0,hm0,hret0,hnext0⟩:=Ar h
 clear h
 refine wc w0 (Aez) (Ahp x1 y1 y3) ?_ λ z0 hs0=>?_
 ·refine wb ?_
  refine ww (W7) (yW x1 y1 y3) hm0 λ z0 w0b h hb0 hr0=>?_
  unfold Yu at h
  rcases cB h with⟨h5,h⟩ | ⟨h5,h⟩
  ·obtain⟨y6,h7,y8,h9,y10,h11,h⟩:=B0 h
   exact wx w0b (W7) (yW x1 y1 y3) Zx 31 [true] [pc e26 (k26 (⟨z0.2.1,z0.2.2.1⟩:Ah) (-1) 4 _ h7) [0],pc e26 (k26 y6.2 (-1) 4 _ h9) [0],pa q84 2 h11] [] 4 [0,1,2,3,4,5,6,7,8,9,10,11,12,13,14,15,16,19,18] _ hC [pq h5] (sI h).symm
  ·exact wx w0 (Aez) (Ahp x1 y1 y3) Zx 26 [false] [] [] 4 [0,1,2,3,5,6,7,8,9,10,11,12,13,14,15,16,17,18] (z0.1,z0.2.1,z0.2.2.1,(Ef z0)) hC [pq h5] (hb0 _ (sI h).symm)
 ·have h:=hnext0 _ hs0
  replace h:=sI h
  subst h
  exact wr Zx 23 [] [] [] 4 [0,1,2,3,6,7,8,9,16,17] hC []
theorem A5x:EN 12:=en Tryz.func12
def Anh:List Nat:=[0,1,2,3,4,6,7,8,9,15]
theorem A62 (x0:Aa) (x1:Ab) (x2:Int) (r:Ab×Int) (h:Ajd x0 x1 x2=some r):CO 136 [.agg (d30 x0),.agg (d39 x1),.d (I x2)] [] (.tup [.agg [.os 0,.os 1,.os 2,.os 3],.d (I r.2)]) (zp r.1 []):=by
 unfold Ajd at h
 refine co 29 Tryz.func136 λ C hC=>?_
 obtain⟨y1,h2,h⟩:=Az h
 refine wn Anh 28 [] [pc A7t (A6s x0 x1 x2 _ h2) []] [.ownb 2 0 4 1,.ownb 2 1 93 4,.ownb 2 2 3 1,.ownb 2 3 96 2] 0 n7_ [2,3,4,6,7,8,15] hC [] ?_
 rcases cB h with⟨h3,h⟩ | ⟨h3,h⟩
 ·replace h:=sI h
  subst h
  exact wr Anh 24 [true] [] [.ownb 2 0 4 1,.ownb 2 1 93 4,.ownb 2 2 3 1,.ownb 2 3 96 2] 0 [7,8,9,10] hC [pq h3]
 ·obtain⟨y4,h5,y6,h7,y8,h9,y10,h11,h⟩:=Cr h
  replace h:=sI h
  subst h
  exact wr Anh 29 [false] [pc e66 (k66 x1 _ h5) [],pr pB h7,pu pB h7 h9,⟨.call 47 [.agg (d30 x0),.agg [.os 0,.os 1,.os 2,.os 3]] [v2_ y8,v4_ y4.Ac,v0_ y4.Aq,v3_ y4.Ao] (.tup [.agg [.os 4,.os 5,.os 6,.os 7],dI y10.2]) (v2_ y8::v4_ y4.Ac::v0_ y4.Aq::v3_ y4.Ao::zp y10.1 []) [7,8,9,10],⟨e47,((k47 x0 (⟨y8,y4.Ac,y4.Aq,y4.Ao⟩:Ab) _ h11).lend (by kernel_rfl) (by kernel_rfl) (by kernel_rfl) ⟨Bh (λ _=>rfl),Bh (λ _=>rfl),Bh (λ _=>rfl),Bh (λ _=>rfl),trivial⟩ (by kernel_rfl) (by kernel_rfl))⟩⟩] [] 0 [12,13,14,15] hC [pq h3]
theorem A73:EN 136:=en Tryz.func136
theorem A2e (x0:Ay) (r:Ay) (h:Uo x0=some r):CO 124 [.d (.o 0 0)] (.box 214 (zb x0.Ak [.os 1,.os 2,.os 3,.os 4,.os 5])::zp x0.Au [v6_ x0.acts]) (.tup []) (.box 214 (zb r.Ak [.os 6,.os 7,.os 8,.os 9,.os 10]) :: .non :: .non :: .non :: .non :: .non::zp r.Au [v6_ r.acts]):=by
 unfold Uo at h
 refine co 24 Tryz.func124 λ C hC=>?_
 obtain⟨y1,h2,y3,h4,y5,h6,h⟩:=B0 h
 replace h:=sI h
 subst h
 exact wf [0,1] 27 [] [pc A3h (A12 x0 _ h2) n6_,pc A3g (A11 y1 _ h4) [0,7,8,9,10,11,6],⟨.call 47 [.agg (d30 y3.Ak),.agg [.os 0,.os 1,.os 2,.os 3]] (zp y3.Au []) (.tup [.agg [.os 4,.os 5,.os 6,.os 7],dI y5.2]) (zp y3.Au (zp y5.1 [])) [12,13,14,15],⟨e47,((k47 y3.Ak y3.Au _ h6).lend (by kernel_rfl) (by kernel_rfl) (by kernel_rfl) ⟨Bh (λ _=>rfl),Bh (λ _=>rfl),Bh (λ _=>rfl),Bh (λ _=>rfl),trivial⟩ (by kernel_rfl) (by kernel_rfl))⟩⟩] [] 6 [0,1,2,3,4,5,17,18,19,20,16] hC []
theorem A3t:EN 124:=en Tryz.func124
def Lr:List Nat:=[0,2,4,5,19,20,21,22,32]
def M8 (y3:(List Ai)) (n0:Nat) (z0:Sg8):St:=[(0,dO 0 0),(2,dS 6),(19,dS 7),(20,dI (ln y3)),(21,dI (cnt 0 n0))]
def Qr (y1:(List Int)) (y3:(List Ai)) (n0:Nat) (z0:Sg8):List Res:=[.box 214 [I z0.1,DS q70 z0.2.1,DS q72 z0.2.2.1,DS q81 (g3_ z0),I (g4_ z0),I (g5_ z0),.os 8,.os 9,.os 10,.os 11,.os 12],.non,.non,.non,.non,.non,v0_ y1,v8_ y3,v2_ (g6_ z0),v4_ (g7_ z0),v0_ (g8_ z0),v3_ (g9_ z0),v6_ (Fm z0)]
def Aax  (z0:Sg8):St:=[]
def Ab3  (z0:Sg8):List Res:=[.box 214 [I z0.1,DS q70 z0.2.1,DS q72 z0.2.2.1,DS q81 (g3_ z0),I (g4_ z0),I (g5_ z0),.os 6,.os 7,.os 8,.os 9,.os 10],.non,.non,.non,.non,.non,v2_ (g6_ z0),v4_ (g7_ z0),v0_ (g8_ z0),v3_ (g9_ z0),v6_ (Fm z0)]
theorem A2d (x0:Ay) (r:Ay) (h:O_ x0=some r):CO 125 [.d (.o 0 0)] (.box 214 (zb x0.Ak [.os 1,.os 2,.os 3,.os 4,.os 5])::zp x0.Au [v6_ x0.acts]) (.tup []) (.box 214 (zb r.Ak [.os 6,.os 7,.os 8,.os 9,.os 10]) :: .non :: .non :: .non :: .non :: .non::zp r.Au [v6_ r.acts]):=by
 unfold O_ at h
 refine co 48 Tryz.func125 λ C hC=>?_
 obtain⟨y1,h2,y3,h4,h⟩:=Bb h
 refine ws Lr 25 [] [pc A7x (A6w x0.Ak _ h2) [],pc Aye (Ax9 x0.Ak x0.Au _ h4) [1,2,3,4],pl Bd y3] [.mv 1,.mv 2,.mv 3,.mv 4,.mv 5] 6 H2 (M8 y3 0 (zt x0.Ak (zu x0.Au x0.acts))) (Qr y1 y3 0 (zt x0.Ak (zu x0.Au x0.acts))) hC [] ?_
 obtain⟨w0,hm0,hret0,hnext0⟩:=Ar h
 clear h
 refine wc w0 (Aax) (Ab3) ?_ λ z0 hs0=>?_
 ·refine wb ?_
  refine Cj 19 7 rfl rfl λ hl0=>?_
  refine wl (M8 y3) (Qr y1 y3) hm0 (λ z0 hn0=>?_) λ n0 a0 z0 w0b hi0 hx0 h hb0 hr0=>?_
  ·clear hm0
   exact wx w0 (Aax) (Ab3) Lr 26 [false] [] [] 6 [0,1,2,3,4,5,8,9,10,11,12] _ hC [pq (Be hl0)] hn0
  ·unfold Un at h
   obtain⟨y5,h6,y7,h8,h⟩:=Bb h
   refine wn Lr 34 [true] [pr Bd (Bn hx0 hl0),pn Bd (Bn hx0 hl0),⟨.call 95 [dS 0] [v0_ y1] (dS 1) [v0_ y1,v0_ y5] [6],⟨e95,((k95 y1 _ h6).lend (by kernel_rfl) (by kernel_rfl) (by kernel_rfl) ⟨Bh (λ _=>rfl),trivial⟩ (by kernel_rfl) (by kernel_rfl))⟩⟩,pc A3c (A1x y5 a0 _ h8) [14,13],pl pI y7.2.Ac] [] 6 [0,1,2,3,4,5,6,7,8,9,10,11,12,13,15] [0,2,4,5,19,20,21,32] hC [pq (A_ hi0 hl0)] ?_
   rcases cB h with⟨h9,h⟩ | ⟨h9,h⟩
   ·obtain⟨y10,h11,y12,h13,y14,h15,y16,h17,h⟩:=Cr h
    exact wx w0b (M8 y3 (n0+1)) (Qr y1 y3 (n0+1)) Lr 27 [true] [pr pI h11,pc A3b (A1w (⟨(⟨z0.1,z0.2.1,z0.2.2.1,(g3_ z0),(g4_ z0),(g5_ z0)⟩:Aa),(⟨(g6_ z0),(g7_ z0),(g8_ z0),(g9_ z0)⟩:Ab),(Fm z0)⟩:Ay) y7.1 y10 _ h13) [0,8,9,10,11,12,14],pr pI h15,pc A3a (A1v y12 y7.1 y14 _ h17) [0,15,16,17,18,19,14]] [] 6 [0,1,2,3,4,5,6,7,20,21,22,23,24] _ hC [pq h9] (sI h).symm
   ·exact wx w0b (M8 y3 (n0+1)) (Qr y1 y3 (n0+1)) Lr 25 [false] [] [] 6 H2 _ hC [pq h9] (sI h).symm
 ·have h:=hnext0 _ hs0
  replace h:=sI h
  subst h
  exact wf Lr 20 [] [] [] 6 Anc hC []
theorem A3s:EN 125:=en Tryz.func125
def Is:List Nat:=[0,1,3,4,6,17,36,55,76,82,88,96]
theorem A2j (x0 : A1) (x1 : Am) (r : Int × A1) (h : Mz x0 x1 = some r) : CO 109 [.d (.o 0 0), .agg (d63 x1)] (.box 175 (zb x0.Ak [.os 1, .os 2, .os 3, .os 4, I x0.time]) :: zp x0.Au []) (.d (I r.1)) (.box 175 (zb r.2.Ak [.os 5, .os 6, .os 7, .os 8, I r.2.time]) :: .non :: .non :: .non :: .non :: zp r.2.Au []) := by
 unfold Mz at h
 refine co 101 Tryz.func109 λ C hC=>?_
 rcases cB h with⟨h1,h⟩ | ⟨h1,h⟩
 ·obtain⟨y2,h3,h⟩:=Az h
  replace h:=sI h
  subst h
  exact wr Is 34 [true] [⟨.call 136 [.agg (d30 x0.Ak),.agg [.os 0,.os 1,.os 2,.os 3],dI x1.Unit] (zp x0.Au []) (.tup [.agg [.os 4,.os 5,.os 6,.os 7],dI y2.2]) (zp x0.Au (zp y2.1 [])) [1,2,3,4],⟨A73,((A62 x0.Ak x0.Au x1.Unit _ h3).lend (by kernel_rfl) (by kernel_rfl) (by kernel_rfl) ⟨Bh (λ _=>rfl),Bh (λ _=>rfl),Bh (λ _=>rfl),Bh (λ _=>rfl),trivial⟩ (by kernel_rfl) (by kernel_rfl))⟩⟩] [.frz 1,.frz 2,.frz 3,.frz 4] 5 [0,1,2,3,4,6,7,8,9] hC [pq h1]
 ·rcases cB h with⟨h4,h⟩ | ⟨h4,h⟩
  ·obtain⟨y5,h6,h⟩:=Az h
   replace h:=sI h
   subst h
   exact wr Is 37 [false,true] [⟨.call 137 [.agg (d30 x0.Ak),.agg [.os 0,.os 1,.os 2,.os 3],dI x1.Unit] (zp x0.Au []) (.tup [.agg [.os 4,.os 5,.os 6,.os 7],dI y5.2]) (zp x0.Au (zp y5.1 [])) [1,2,3,4],⟨A72,((A61 x0.Ak x0.Au x1.Unit _ h6).lend (by kernel_rfl) (by kernel_rfl) (by kernel_rfl) ⟨Bh (λ _=>rfl),Bh (λ _=>rfl),Bh (λ _=>rfl),Bh (λ _=>rfl),trivial⟩ (by kernel_rfl) (by kernel_rfl))⟩⟩] [.frz 1,.frz 2,.frz 3,.frz 4] 5 [0,1,2,3,4,6,7,8,9] hC [pq h1,pq h4]
  ·rcases cB h with⟨h7,h⟩ | ⟨h7,h⟩
   ·obtain⟨y8,h9,h⟩:=Az h
    replace h:=sI h
    subst h
    exact wr Is 40 [false,false,true] [⟨.call 138 [.agg (d30 x0.Ak),.agg [.os 0,.os 1,.os 2,.os 3],dI x1.Unit,dI x1.Value] (zp x0.Au []) (.tup [.agg [.os 4,.os 5,.os 6,.os 7],dI y8.2]) (zp x0.Au (zp y8.1 [])) [1,2,3,4],⟨A71,((A60 x0.Ak x0.Au x1.Unit x1.Value _ h9).lend (by kernel_rfl) (by kernel_rfl) (by kernel_rfl) ⟨Bh (λ _=>rfl),Bh (λ _=>rfl),Bh (λ _=>rfl),Bh (λ _=>rfl),trivial⟩ (by kernel_rfl) (by kernel_rfl))⟩⟩] [.frz 1,.frz 2,.frz 3,.frz 4] 5 [0,1,2,3,4,6,7,8,9] hC [pq h1,pq h4,pq h7]
   ·rcases cB h with⟨h10,h⟩ | ⟨h10,h⟩
    ·obtain⟨y11,h12,h⟩:=Az h
     replace h:=sI h
     subst h
     exact wr Is 43 [false,false,false,true] [pc A3p (A2a x0 x1.Unit _ h12) n5_] [.mv 1,.mv 2,.mv 3,.mv 4] 5 [0,1,2,3,4,6,7,8,9] hC [pq h1,pq h4,pq h7,pq h10]
    ·rcases cB h with⟨h13,h⟩ | ⟨h13,h⟩
     ·obtain⟨y14,h15,h⟩:=Az h
      replace h:=sI h
      subst h
      exact wr Is 46 [false,false,false,false,true] [pc A3o (A19 x0 x1.Unit _ h15) n5_] [.mv 1,.mv 2,.mv 3,.mv 4] 5 [0,1,2,3,4,6,7,8,9] hC [pq h1,pq h4,pq h7,pq h10,pq h13]
     ·rcases cB h with⟨h16,h⟩ | ⟨h16,h⟩
      ·obtain⟨y17,h18,h⟩:=Az h
       replace h:=sI h
       subst h
       exact wr Is 49 [false,false,false,false,false,true] [pc A3n (A18 x0 x1.Unit x1.Value _ h18) n5_] [.mv 1,.mv 2,.mv 3,.mv 4] 5 [0,1,2,3,4,6,7,8,9] hC [pq h1,pq h4,pq h7,pq h10,pq h13,pq h16]
      ·rcases cB h with⟨h19,h⟩ | ⟨h19,h⟩
       ·obtain⟨y20,h21,h⟩:=Az h
        replace h:=sI h
        subst h
        exact wr Is 52 [false,false,false,false,false,false,true] [pc A3m (A17 x0 _ h21) n5_] [] 5 [0,1,2,3,4,6,7,8,9] hC [pq h1,pq h4,pq h7,pq h10,pq h13,pq h16,pq h19]
       ·obtain⟨y22,h23,h⟩:=Az h
        replace h:=sI h
        subst h
        exact wr Is 52 [false,false,false,false,false,false,false] [pc A3l (A16 x0 (⟨x1.Value,x1.Unit⟩:Al) (x1.Kind==8) _ h23) n5_] [] 5 [0,1,2,3,4,6,7,8,9] hC [pq h1,pq h4,pq h7,pq h10,pq h13,pq h16,pq h19]
theorem A3y:EN 109:=en Tryz.func109
theorem A2f (x0:Ay) (r:Ay) (h:qY x0=some r):CO 123 [.d (.o 0 0)] (.box 214 (zb x0.Ak [.os 1,.os 2,.os 3,.os 4,.os 5])::zp x0.Au [v6_ x0.acts]) (.tup []) (.box 214 (zb r.Ak [.os 6,.os 7,.os 8,.os 9,.os 10]) :: .non :: .non :: .non :: .non :: .non::zp r.Au [v6_ r.acts]):=by
 unfold qY at h
 refine co 6 Tryz.func123 λ C hC=>?_
 obtain⟨y1,h2,y3,h4,h⟩:=Bb h
 replace h:=sI h
 subst h
 exact wf [0] 23 [] [pc A3t (A2e x0 _ h2) n6_,pc A3s (A2d y1 _ h4) [0,6,7,8,9,10]] [] 6 [0,1,2,3,4,5,11,12,13,14,15] hC []
theorem A3u:EN 123:=en Tryz.func123
def Xh:List Nat:=[0,1,2,3,4,5,7,8,9,10,11,12,16,21,39,55]
theorem k78 (x0:Aa) (x1:Ab) (x2:Int) (x3:Am) (r:Ab×Int) (h:F78 x0 x1 x2 x3=some r):CO 78 [.agg (d30 x0),.agg (d39 x1),.d (I x2),.agg (d63 x3)] [] (.tup [.agg [.os 0,.os 1,.os 2,.os 3],.d (I r.2)]) (zp r.1 []):=by
 unfold F78 at h
 refine co 62 Tryz.func78 λ C hC=>?_
 obtain⟨y1,h2,h⟩:=Az h
 refine wn Xh 29 [] [pc e65 (k65 x0 x1 _ h2) []] [.ownb 3 0 4 1,.ownb 3 1 93 4,.ownb 3 2 3 1,.ownb 3 3 96 2] 0 n8_ [2,4,5,7,8,9,10,16] hC [] ?_
 rcases cB h with⟨h3,h⟩ | ⟨h3,h⟩
 ·replace h:=sI h
  subst h
  exact wr Xh 24 [true] [] [.ownb 3 0 4 1,.ownb 3 1 93 4,.ownb 3 2 3 1,.ownb 3 3 96 2] 0 [8,9,10,11] hC [pq h3]
 ·rcases cB h with⟨h4,h⟩ | ⟨h4,h⟩
  ·replace h:=sI h
   subst h
   exact wr Xh 27 [false,true] [] [.ownb 3 0 4 1,.ownb 3 1 93 4,.ownb 3 2 3 1,.ownb 3 3 96 2] 0 [8,9,10,11] hC [pq h3,pq h4]
  ·obtain⟨y5,h6,h⟩:=Az h
   rcases cB h with⟨h7,h⟩ | ⟨h7,h⟩
   ·replace h:=sI h
    subst h
    exact wr Xh 30 [false,false,true] [pc A3z (A2k x0 x3 _ h6) []] [.ownb 3 0 4 1,.ownb 3 1 93 4,.ownb 3 2 3 1,.ownb 3 3 96 2] 0 [8,9,10,11] hC [pq h3,pq h4,pq h7]
   ·obtain⟨y8,h9,y10,h11,h⟩:=Bb h
    refine wn Xh 37 [false,false,false] [pc A3z (A2k x0 x3 _ h6) [],pc e66 (k66 x1 _ h9) [],pc A3y (A2j (⟨x0,y8,x2⟩:A1) x3 _ h11) [12,8,9,10,11]] [] 0 [3,4,5,6,7,12,13,14,15,16] [8,9,11,12,55] hC [pq h3,pq h4,pq h7] ?_
    rcases cB h with⟨h12,h⟩ | ⟨h12,h⟩
    ·replace h:=sI h
     subst h
     exact wr Xh 24 [true] [] [.ownb 0 0 4 1,.ownb 0 1 93 4,.ownb 0 2 3 1,.ownb 0 3 96 2] 0 [10,11,12,13] hC [pq h12]
    ·replace h:=sI h
     subst h
     exact wr Xh 25 [false] [] [] 0 [6,7,8,9] hC [pq h12]
theorem e78:EN 78:=en Tryz.func78
def Va:List Nat:=[0,1,2,3,4,6,7,8,9,10,15]
theorem A2g (x0:Aa) (x1:Ab) (r:Ab×(List Am)×Int) (h:qZ x0 x1=some r):CO 122 [.agg (d30 x0),.agg (d39 x1),.d (.fn (.func 123) [] [])] [] (.tup [.agg [.os 0,.os 1,.os 2,.os 3],.d (.os 4),.d (I r.2.2)]) (zp r.1 [v6_ r.2.1]):=by
 unfold qZ at h
 refine co 34 Tryz.func122 λ C hC=>?_
 obtain⟨y1,h2,h⟩:=Az h
 refine wn Va 28 [] [pc e65 (k65 x0 x1 _ h2) []] [.ownb 2 0 4 1,.ownb 2 1 93 4,.ownb 2 2 3 1,.ownb 2 3 96 2] 0 n7_ [2,3,4,6,7,8,9,15] hC [] ?_
 rcases cB h with⟨h3,h⟩ | ⟨h3,h⟩
 ·replace h:=sI h
  subst h
  exact wr Va 24 [true] [] [.ownb 2 0 4 1,.ownb 2 1 93 4,.ownb 2 2 3 1,.ownb 2 3 96 2,.own 7 63 3] 0 [7,8,9,10,11] hC [pq h3]
 ·obtain⟨y4,h5,h⟩:=Az h
  refine wn Va 5 [false] [pc e66 (k66 x1 _ h5) []] [.ownb 11 10 63 3] 0 [2,3,4,5,6,7,8,9,10,11,12] [2,6,7,8,10] hC [pq h3] ?_
  obtain⟨y6,h7,h⟩:=Az h
  replace h:=sI h
  subst h
  exact wr Va 24 [] [pc A3u (A2f (⟨x0,y4,([]:List Am)⟩:Ay) _ h7) [9,5,6,7,8,10]] [] 0 [11,12,13,14,15] hC []
theorem A3v:EN 122:=en Tryz.func122
theorem A7e (x0:Aa) (x1:Ab) (r:Ab×(List Am)×Int) (h:Ajl x0 x1=some r):CO 104 [.agg (d30 x0),.agg (d39 x1)] [] (.tup [.agg [.os 0,.os 1,.os 2,.os 3],.d (.os 4),.d (I r.2.2)]) (zp r.1 [v6_ r.2.1]):=by
 unfold Ajl at h
 refine co 13 Tryz.func104 λ C hC=>?_
 obtain⟨y1,h2,h⟩:=Az h
 replace h:=sI h
 subst h
 exact wr n7_ 25 [] [pc A3v (A2g x0 x1 _ h2) []] [] 0 [3,4,5,6,7] hC []
theorem A8f:EN 104:=en Tryz.func104
def Fs:List Nat:=[0,1,3,4,5,6,7,10,32,38,52,53,54,55,63,83]
def Xa  (z0:Int):St:=[(0,dO 0 0),(3,dO 9 0),(4,dO 10 0),(5,dI z0)]
def X4 (x0:A3) (x1:Am) (y1:Ab×Int) (z0:Int):List Res:=(.box 119 (I x0.A0.Time :: .os 1 :: .os 2 :: .os 3 :: .os 4 :: .os 5 :: .os 6::zb x0.Ak [.os 7,.os 8])::zp x0.A0.Power (v5_ x0.A0.A7::v1_ x0.A0.Bc::v1_ x0.events::v7_ x0.states :: .box 63 (d63 x1) :: .box 39 [.os 11,.os 12,.os 13,.os 14]::zp y1.1 []))
def Pj (y9:Ab×(List Am)×Int) (n1:Nat) (z1:yJ):St:=[(0,dO 0 0),(4,dO 9 0),(6,dO 16 0),(52,dS 21),(53,dI (ln y9.2.1)),(54,dI (cnt 0 n1))]
def Vu (y1:Ab×Int) (y9:Ab×(List Am)×Int) (n1:Nat) (z1:yJ):List Res:=(.box 119 [I z1.1,.os 1,.os 2,.os 3,.os 4,.os 5,.os 6,I z1.2.1,DS q70 z1.2.2.1,DS q72 (g3_ z1),DS q81 (g4_ z1),I (g5_ z1),I (g6_ z1),.os 14,.os 15]::v2_ (g7_ z1)::v4_ (g8_ z1)::v0_ (g9_ z1)::v3_ (Dk z1)::v5_ (G_ z1)::v1_ (Ij z1) :: .non :: .non :: .box 39 [.os 10,.os 11,.os 12,.os 13]::v2_ (Ii z1)::v4_ y1.1.Ac::v0_ (Acq z1)::v3_ y1.1.Ao::v1_ (Sw z1)::v7_ (Ans z1) :: .box 39 [.os 17,.os 18,.os 19,.os 20]::zp y9.1 [v6_ y9.2.1])
def Ael  (z1:yJ):St:=[(0,dO 0 0),(4,dO 9 0),(6,dO 16 0)]
def Ahb (y1:Ab×Int) (y9:Ab×(List Am)×Int) (z1:yJ):List Res:=(.box 119 [I z1.1,.os 1,.os 2,.os 3,.os 4,.os 5,.os 6,I z1.2.1,DS q70 z1.2.2.1,DS q72 (g3_ z1),DS q81 (g4_ z1),I (g5_ z1),I (g6_ z1),.os 14,.os 15]::v2_ (g7_ z1)::v4_ (g8_ z1)::v0_ (g9_ z1)::v3_ (Dk z1)::v5_ (G_ z1)::v1_ (Ij z1) :: .non :: .non :: .box 39 [.os 10,.os 11,.os 12,.os 13]::v2_ (Ii z1)::v4_ y1.1.Ac::v0_ (Acq z1)::v3_ y1.1.Ao::v1_ (Sw z1)::v7_ (Ans z1) :: .box 39 [.os 17,.os 18,.os 19,.os 20]::zp y9.1 [])
set_option maxHeartbeats 4000000 in
theorem Ax8 (x0:A3) (x1:Am) (r:A3) (h:V0 x0 x1=some r):CO 76 [.d (.o 0 0),.agg (d63 x1)] (.box 119 (I x0.A0.Time :: .os 1 :: .os 2 :: .os 3 :: .os 4 :: .os 5 :: .os 6::zb x0.Ak [.os 7,.os 8])::zp x0.A0.Power [v5_ x0.A0.A7,v1_ x0.A0.Bc,v1_ x0.events,v7_ x0.states]) (.tup []) (.box 119 (I r.A0.Time :: .os 9 :: .os 10 :: .os 11 :: .os 12 :: .os 5 :: .os 6::zb r.Ak [.os 13,.os 14]) :: .non :: .non :: .non :: .non::v5_ r.A0.A7::v1_ r.A0.Bc :: .non :: .non::zp r.A0.Power [v1_ r.events,v7_ r.states]):=by
 unfold V0 at h
 refine co 92 Tryz.func76 λ C hC=>?_
 obtain⟨y1,h2,h⟩:=Az h
 refine wn Fs 28 [] [⟨.flts [.box 39 [.p (.v (.slice none 0 0)),.p (.v (.slice none 0 0)),.p (.v (.slice none 0 0)),.p (.v (.slice none 0 0))]],trivial⟩,⟨.call 78 [.agg (d30 x0.Ak),.agg [.os 0,.os 1,.os 2,.os 3],dI x0.A0.Time,.agg (d63 x1)] (zp x0.A0.Power []) (.tup [.agg [.os 4,.os 5,.os 6,.os 7],dI y1.2]) (zp x0.A0.Power (zp y1.1 [])) [1,2,3,4],⟨e78,((k78 x0.Ak x0.A0.Power x0.A0.Time x1 _ h2).lend (by kernel_rfl) (by kernel_rfl) (by kernel_rfl) ⟨Bh (λ _=>rfl),Bh (λ _=>rfl),Bh (λ _=>rfl),Bh (λ _=>rfl),trivial⟩ (by kernel_rfl) (by kernel_rfl))⟩⟩,⟨.flt 10 (.box 39 [.p (.v (.slice none 0 0)),.p (.v (.slice none 0 0)),.p (.v (.slice none 0 0)),.p (.v (.slice none 0 0))]) (.box 39 [.p (.v (.slice none 0 0)),.p (.v (.slice none 0 0)),.p (.v (.slice none 0 0)),.p (.v (.slice none 0 0))]),rfl⟩] [] 9 Ed [0,3,4,5,32] hC [] ?_
 obtain⟨w0,h,hret0,hnext0⟩:=Ar h
 refine wc w0 (Xa) (X4 x0 x1 y1) ?_ λ z0 hs0=>?_
 ·unfold Yj at h
  rcases cB h with⟨h3,h⟩ | ⟨h3,h⟩
  ·exact wx w0 (Xa) (X4 x0 x1 y1) Fs 23 [true] [] [] 9 Ed _ hC [pq h3] (sI h).symm
  ·exact wx w0 (Xa) (X4 x0 x1 y1) Fs 23 [false] [] [] 9 Ed _ hC [pq h3] (sI h).symm
 ·clear h;have h:=hnext0 _ hs0
  obtain⟨y4,h5,h⟩:=Az h
  refine wn Fs 26 [] [pc As0 (Ar7 x0 x1 z0 _ h5) n9_] [] 9 [0,1,2,3,4,5,6,7,8,10,11,12,13,14,15] [0,4,38] hC [] ?_
  rcases cB h with⟨h6,h⟩ | ⟨h6,h⟩
  ·replace h:=sI h
   subst h
   exact wr Fs 22 [true] [] [.mv 1,.mv 2,.mv 3,.mv 4,.mv 8] 9 [0,1,2,3,4,5,6,7,8,15,16,17,18,14,19] hC [pq h6]
  ·obtain⟨y7,h8,y9,h10,h⟩:=Bb h
   refine ws Fs 30 [false] [pc Acs (Acp y4 y1.1 _ h8) [0,1,2,3,4,5,6,14,8,10,11,12,13],⟨.flts [.box 39 [.p (.v (.slice none 0 0)),.p (.v (.slice none 0 0)),.p (.v (.slice none 0 0)),.p (.v (.slice none 0 0))]],trivial⟩,⟨.call 104 [.agg (d30 y7.Ak),.agg [.os 0,.os 1,.os 2,.os 3]] (zp y1.1 []) (.tup [.agg [.os 4,.os 5,.os 6,.os 7],dS 8,dI y9.2.2]) (zp y1.1 (zp y9.1 [v6_ y9.2.1])) [10,11,12,13],⟨A8f,((A7e y7.Ak y1.1 _ h10).lend (by kernel_rfl) (by kernel_rfl) (by kernel_rfl) ⟨Bh (λ _=>rfl),Bh (λ _=>rfl),Bh (λ _=>rfl),Bh (λ _=>rfl),Bh (λ _=>rfl),trivial⟩ (by kernel_rfl) (by kernel_rfl))⟩⟩,⟨.flt 16 (.box 39 [.p (.v (.slice none 0 0)),.p (.v (.slice none 0 0)),.p (.v (.slice none 0 0)),.p (.v (.slice none 0 0))]) (.box 39 [.p (.v (.slice none 0 0)),.p (.v (.slice none 0 0)),.p (.v (.slice none 0 0)),.p (.v (.slice none 0 0))]),rfl⟩,pl q63 y9.2.1] [] 9 A6e (Pj y9 0 (y7.A0.Time,zt y7.Ak (zu y7.A0.Power (y7.A0.A7,y7.A0.Bc,y1.1.Ag,y7.events,y7.states,y1.1.Aq)))) (Vu y1 y9 0 (y7.A0.Time,zt y7.Ak (zu y7.A0.Power (y7.A0.A7,y7.A0.Bc,y1.1.Ag,y7.events,y7.states,y1.1.Aq)))) hC [pq h6] ?_
   obtain⟨w1,hm1,hret1,hnext1⟩:=Ar h
   clear h
   refine wc w1 (Ael) (Ahb y1 y9) ?_ λ z1 hs1=>?_
   ·refine wb ?_
    refine Cj 52 21 rfl rfl λ hl1=>?_
    refine wl (Pj y9) (Vu y1 y9) hm1 (λ z1 hn1=>?_) λ n1 a1 z1 w1b hi1 hx1 h hb1 hr1=>?_
    ·clear hm1
     exact wx w1 (Ael) (Ahb y1 y9) Fs 26 [false] [] [] 9 A6f _ hC [pq (Be hl1)] hn1
    ·unfold Yk at h
     obtain⟨y11,h12,h⟩:=Az h
     refine wn Fs 35 [true] [pr q63 (Bn hx1 hl1),pn q63 (Bn hx1 hl1),pc As0 (Ar7 (⟨(⟨z1.1,(⟨(g7_ z1),(g8_ z1),(g9_ z1),(Dk z1)⟩:Ab),(G_ z1),(Ij z1)⟩:As),(⟨z1.2.1,z1.2.2.1,(g3_ z1),(g4_ z1),(g5_ z1),(g6_ z1)⟩:Aa),(Sw z1),(Ans z1)⟩:A3) a1 0 _ h12) [0,1,2,3,4,5,6,14,15]] [] 9 [0,1,2,3,4,5,6,7,8,9,10,11,12,13,15,16,17,18,19,20,21,22,23] [0,4,6,10,52,53,54,63] hC [pq (A_ hi1 hl1)] ?_
     rcases cB h with⟨h13,h⟩ | ⟨h13,h⟩
     ·obtain⟨y14,h15,y16,h17,y18,h19,h⟩:=B0 h
      exact wx w1b (Pj y9 (n1+1)) (Vu y1 y9 (n1+1)) Fs 26 [true] [pr pB h15,pu pB h15 h17,pc Acs (Acp y11 (⟨y16,y1.1.Ac,(Acq z1),y1.1.Ao⟩:Ab) _ h19) [0,1,2,3,4,5,6,22,14,10,11,12,13]] [] 9 [0,1,2,3,4,5,6,7,8,9,10,11,12,13,22,23,15,16,17,18,19,20] _ hC [pq h13] (sI h).symm
     ·obtain⟨y20,h21,y22,h23,y24,h25,h⟩:=B0 h
      exact wx w1b (Pj y9 (n1+1)) (Vu y1 y9 (n1+1)) Fs 26 [false] [pr pI h21,pu pI h21 h23,pc Acs (Acp y11 (⟨(Ii z1),y1.1.Ac,y22,y1.1.Ao⟩:Ab) _ h25) [0,1,2,3,4,5,6,22,14,10,11,12,13]] [] 9 [0,1,2,3,4,5,6,7,8,9,10,11,12,13,22,23,15,16,17,18,19,20] _ hC [pq h13] (sI h).symm
   ·have h:=hnext1 _ hs1
    obtain⟨y26,h27,h⟩:=Az h
    refine wn Fs 24 [] [pb e50 (k50 (⟨(Ii z1),y1.1.Ac,(Acq z1),y1.1.Ao⟩:Ab) y9.1 _ h27)] [] 9 [0,1,2,3,4,5,6,7,8,14,15,16,17,18,19,20] [0,6,83] hC [] ?_
    rcases cB h with⟨h28,h⟩ | ⟨h28,h⟩
    ·obtain⟨y29,h30,h⟩:=Az h
     replace h:=sI h
     subst h
     exact wf Fs 23 [true] [pc Acs (Acp (⟨(⟨z1.1,(⟨(g7_ z1),(g8_ z1),(g9_ z1),(Dk z1)⟩:Ab),(G_ z1),(Ij z1)⟩:As),(⟨z1.2.1,z1.2.2.1,(g3_ z1),(g4_ z1),(g5_ z1),(g6_ z1)⟩:Aa),(Sw z1),(Ans z1)⟩:A3) y9.1 _ h30) [0,1,2,3,4,5,6,9,10,12,13,14,15]] [.frz 1,.frz 2,.frz 3,.frz 4] 9 [0,1,2,3,4,5,6,7,8,12,13,14,15,9,16] hC [pq h28]
    ·replace h:=sI h
     subst h
     exact wf Fs 23 [false] [] [.frz 1,.frz 2,.frz 3,.frz 4] 9 [0,1,2,3,4,5,6,7,8,12,13,14,15,9,10] hC [pq h28]
theorem Ayd:EN 76:=en Tryz.func76
def I8:List Nat:=[0,1,3,4,6,7,8,9,12,28,29,30,31,55,89,90,91,92]
def Pi (y3:(List Ai)) (n0:Nat) (z0:yI):St:=[(0,dO 0 0),(3,dO 9 0),(4,dS 10),(28,dS 11),(29,dI (ln y3)),(30,dI (cnt 0 n0))]
def Vt (x1:A2) (y3:(List Ai)) (n0:Nat) (z0:yI):List Res:=[.box 119 [I z0.1,.os 12,.os 13,.os 14,.os 15,.os 16,.os 17,I z0.2.1,DS q70 z0.2.2.1,DS q72 (g3_ z0),DS q81 (g4_ z0),I (g5_ z0),I (g6_ z0),.os 18,.os 19],.non,.non,.non,.non,.non,.non,.non,.non,.box 33 (d33 x1),v5_ (g7_ z0),v8_ y3,v2_ (g8_ z0),v4_ (g9_ z0),v0_ (Dk z0),v3_ (G_ z0),v5_ (Ij z0),v1_ (Ii z0),v1_ (Sw z0),v7_ (Acr z0)]
def Aek  (z0:yI):St:=[(0,dO 0 0),(4,dS 9)]
def Aha  (z0:yI):List Res:=[.box 119 [I z0.1,.os 10,.os 11,.os 12,.os 13,.os 14,.os 15,I z0.2.1,DS q70 z0.2.2.1,DS q72 (g3_ z0),DS q81 (g4_ z0),I (g5_ z0),I (g6_ z0),.os 16,.os 17],.non,.non,.non,.non,.non,.non,.non,.non,v5_ (g7_ z0),v2_ (g8_ z0),v4_ (g9_ z0),v0_ (Dk z0),v3_ (G_ z0),v5_ (Ij z0),v1_ (Ii z0),v1_ (Sw z0),v7_ (Acr z0)]
def Wr (y3:(List Ai)) (n0:Nat) (y12:Aw×(List Am)×Int) (n1:Nat) (z1:K2):St:=[(0,dO 0 0),(3,dO 9 0),(4,dS 10),(28,dS 11),(29,dI (ln y3)),(30,dI (cnt 0 n0)),(89,.d (DS q63 y12.2.1)),(90,dI (ln y12.2.1)),(91,dI (cnt 0 n1))]
def yM (x1:A2) (y3:(List Ai)) (y16:List Aw) (n1:Nat) (z1:K2):List Res:=[.box 119 [I z1.1,.os 12,.os 13,.os 14,.os 15,.os 16,.os 17,I z1.2.1,DS q70 z1.2.2.1,DS q72 (g3_ z1),DS q81 (g4_ z1),I (g5_ z1),I (g6_ z1),.os 18,.os 19],.non,.non,.non,.non,.non,.non,.non,.non,.box 33 (d33 x1),v5_ y16,v8_ y3,v2_ (g7_ z1),v4_ (g8_ z1),v0_ (g9_ z1),v3_ (Dk z1),v5_ (G_ z1),v1_ (Ij z1),v1_ (Ii z1),v7_ (P9 z1)]
def Aej (y3:(List Ai)) (n0:Nat) (z1:K2):St:=[(0,dO 0 0),(3,dO 9 0),(4,dS 10),(28,dS 11),(29,dI (ln y3)),(30,dI (cnt 0 n0))]
def Ag9 (x1:A2) (y3:(List Ai)) (y16:List Aw) (z1:K2):List Res:=[.box 119 [I z1.1,.os 12,.os 13,.os 14,.os 15,.os 16,.os 17,I z1.2.1,DS q70 z1.2.2.1,DS q72 (g3_ z1),DS q81 (g4_ z1),I (g5_ z1),I (g6_ z1),.os 18,.os 19],.non,.non,.non,.non,.non,.non,.non,.non,.box 33 (d33 x1),v5_ y16,v8_ y3,v2_ (g7_ z1),v4_ (g8_ z1),v0_ (g9_ z1),v3_ (Dk z1),v5_ (G_ z1),v1_ (Ij z1),v1_ (Ii z1),v7_ (P9 z1)]
theorem A41 (x0:A3) (x1:A2) (r:A3) (h:qD x0 x1=some r):CO 77 [.d (.o 0 0),.agg (d33 x1)] (.box 119 (I x0.A0.Time :: .os 1 :: .os 2 :: .os 3 :: .os 4 :: .os 5 :: .os 6::zb x0.Ak [.os 7,.os 8])::zp x0.A0.Power [v5_ x0.A0.A7,v1_ x0.A0.Bc,v1_ x0.events,v7_ x0.states]) (.tup []) (.box 119 (I r.A0.Time :: .os 9 :: .os 10 :: .os 11 :: .os 12 :: .os 13 :: .os 14::zb r.Ak [.os 15,.os 16]) :: .non :: .non :: .non :: .non :: .non :: .non :: .non :: .non::zp r.A0.Power [v5_ r.A0.A7,v1_ r.A0.Bc,v1_ r.events,v7_ r.states]):=by
 unfold qD at h
 refine co 105 Tryz.func77 λ C hC=>?_
 obtain⟨y1,h2,y3,h4,h⟩:=Bb h
 refine ws I8 28 [] [pc A8e (A7d x0.Ak.An _ h2) [],pc Aye (Ax9 x0.Ak x0.A0.Power _ h4) [1,2,3,4],pl Bd y3] [.mv 1,.mv 2,.mv 3,.mv 4,.mv 5,.mv 6,.mv 7,.mv 8] 9 vF (Pi y3 0 (x0.A0.Time,zt x0.Ak (y1,zu x0.A0.Power (x0.A0.A7,x0.A0.Bc,x0.events,x0.states)))) (Vt x1 y3 0 (x0.A0.Time,zt x0.Ak (y1,zu x0.A0.Power (x0.A0.A7,x0.A0.Bc,x0.events,x0.states)))) hC [] ?_
 obtain⟨w0,hm0,hret0,hnext0⟩:=Ar h
 clear h
 refine wc w0 (Aek) (Aha) ?_ λ z0 hs0=>?_
 ·refine wb ?_
  refine Cj 28 11 rfl rfl λ hl0=>?_
  refine wl (Pi y3) (Vt x1 y3) hm0 (λ z0 hn0=>?_) λ n0 a0 z0 w0b hi0 hx0 h hb0 hr0=>?_
  ·clear hm0
   exact wx w0 (Aek) (Aha) I8 26 [false] [] [] 9 [0,1,2,3,4,5,6,7,8,10,12,13,14,15,16,17,18,19] _ hC [pq (Be hl0)] hn0
  ·unfold Yi at h
   obtain⟨y5,h6,y7,h8,h⟩:=Bb h
   refine wn I8 35 [true] [pr Bd (Bn hx0 hl0),pn Bd (Bn hx0 hl0),pr pI h6,pl pI a0.Ac,pv Aw1 (λ hg=>Awh (⟨z0.2.1,z0.2.2.1,(g3_ z0),(g4_ z0),(g5_ z0),(g6_ z0)⟩:Aa) (⟨(g8_ z0),(g9_ z0),(Dk z0),(G_ z0)⟩:Ab) y5 _ (Bf h8 hg))] [] 9 vF [0,3,4,7,28,29,30,55] hC [pq (A_ hi0 hl0)] ?_
   rcases cB h with⟨h9,h⟩ | ⟨h9,h⟩
   ·exact wx w0b (Pi y3 (n0+1)) (Vt x1 y3 (n0+1)) I8 24 [true] [] [] 9 vF _ hC [pq h9] (sI h).symm
   ·obtain⟨y10,h11,y12,h13,y14,h15,y16,h17,h⟩:=Cr h
    refine ws I8 29 [false] [⟨.flts [.box 84 [I 0,I 0]],trivial⟩,pr q84 h11,pn q84 h11,pc A30 (A2l (⟨z0.2.1,z0.2.2.1,(g3_ z0),(g4_ z0),(g5_ z0),(g6_ z0)⟩:Aa) x1 (⟨(g8_ z0),(g9_ z0),(Dk z0),(G_ z0)⟩:Ab) y5 z0.1 y10 _ h13) [12,13,14,15],⟨.flt 20 (.box 84 [I 0,I 0]) (.box 84 [I 0,I 0]),rfl⟩,pr q84 h15,pu q84 h15 h17,pl q63 y12.2.1] [] 9 vF (Wr y3 n0 y12 0 (z0.1,z0.2.1,z0.2.2.1,(g3_ z0),(g4_ z0),(g5_ z0),(g6_ z0),(g8_ z0),(g9_ z0),(Dk z0),(G_ z0),(Ij z0),(Ii z0),(Sw z0),(Acr z0))) (yM x1 y3 y16 0 (z0.1,z0.2.1,z0.2.2.1,(g3_ z0),(g4_ z0),(g5_ z0),(g6_ z0),(g8_ z0),(g9_ z0),(Dk z0),(G_ z0),(Ij z0),(Ii z0),(Sw z0),(Acr z0))) hC [pq h9] ?_
    obtain⟨w1,hm1,hret1,hnext1⟩:=Ar h
    clear h
    refine wc w1 (Aej y3 n0) (Ag9 x1 y3 y16) ?_ λ z1 hs1=>?_
    ·refine wb ?_
     refine Bv 89 rfl λ hl1=>?_
     refine wl (Wr y3 n0 y12) (yM x1 y3 y16) hm1 (λ z1 hn1=>?_) λ n1 a1 z1 w1b hi1 hx1 h hb1 hr1=>?_
     ·clear hm1
      exact wx w1 (Aej y3 n0) (Ag9 x1 y3 y16) I8 26 [false] [] [] 9 vF _ hC [pq (Be hl1)] hn1
     ·unfold Qw at h
      obtain⟨y18,h19,h⟩:=Az h
      exact wx w1b (Wr y3 n0 y12 (n1+1)) (yM x1 y3 y16 (n1+1)) I8 33 [true] [pt hx1 hl1,pc Ayd (Ax8 (⟨(⟨z1.1,(⟨(g7_ z1),(g8_ z1),(g9_ z1),(Dk z1)⟩:Ab),(G_ z1),(Ij z1)⟩:As),(⟨z1.2.1,z1.2.2.1,(g3_ z1),(g4_ z1),(g5_ z1),(g6_ z1)⟩:Aa),(Ii z1),(P9 z1)⟩:A3) a1 _ h19) [0,12,13,14,15,16,17,18,19]] [] 9 [0,1,2,3,4,5,6,7,8,9,10,11,21,22,23,24,16,17,25,26] _ hC [pq (A_ hi1 hl1)] (sI h).symm
    ·have h:=hnext1 _ hs1
     exact wx w0b (Pi y3 (n0+1)) (Vt x1 y3 (n0+1)) I8 23 [] [] [] 9 vF _ hC [] (sI h).symm
 ·have h:=hnext0 _ hs0
  replace h:=sI h
  subst h
  exact wf I8 21 [] [] [] 9 [0,1,2,3,4,5,6,7,8,10,11,12,13,9,15,16,17] hC []
theorem A5m:EN 77:=en Tryz.func77
def vO:List Nat:=[0,1,2,3,4,5,6,8,9,10,11,13,14,19,23,27,38,39,40,41]
def Ad6 (x3:List Am) (n0:Nat) (z0:K2):St:=[(4,dO 0 0),(5,dO 1 0),(8,.d (.p (.v (.pointer none)))),(9,dI 0),(11,dO 2 0),(38,.d (DS q63 x3)),(39,dI (ln x3)),(40,dI (cnt 0 n0))]
def Apd (x0:Aa) (x1:A2) (n0:Nat) (z0:K2):List Res:=[.box 30 (d30 x0),.box 33 (d33 x1),.box 119 [I z0.1,.os 3,.os 4,.os 5,.os 6,.os 7,.os 8,I z0.2.1,DS q70 z0.2.2.1,DS q72 (g3_ z0),DS q81 (g4_ z0),I (g5_ z0),I (g6_ z0),.os 9,.os 10],v2_ (g7_ z0),v4_ (g8_ z0),v0_ (g9_ z0),v3_ (Dk z0),v5_ (G_ z0),v1_ (Ij z0),v1_ (Ii z0),v7_ (P9 z0)]
def Aq9  (z0:K2):St:=[(4,dO 0 0),(5,dO 1 0),(8,.d (.p (.v (.pointer none)))),(9,dI 0),(11,dO 2 0)]
def Aus (x0:Aa) (x1:A2) (z0:K2):List Res:=[.box 30 (d30 x0),.box 33 (d33 x1),.box 119 [I z0.1,.os 3,.os 4,.os 5,.os 6,.os 7,.os 8,I z0.2.1,DS q70 z0.2.2.1,DS q72 (g3_ z0),DS q81 (g4_ z0),I (g5_ z0),I (g6_ z0),.os 9,.os 10],v2_ (g7_ z0),v4_ (g8_ z0),v0_ (g9_ z0),v3_ (Dk z0),v5_ (G_ z0),v1_ (Ij z0),v1_ (Ii z0),v7_ (P9 z0)]
theorem k53 (x0:Aa) (x1:A2) (x2:As) (x3:List Am) (r:A3×Int) (h:F53 x0 x1 x2 x3=some r):CO 53 [.agg (d30 x0),.agg (d33 x1),.agg (d43 x2),.d (DS q63 x3)] [] (.tup [.d (.o 0 0),.d (I r.2)]) (.box 119 (I r.1.A0.Time :: .os 1 :: .os 2 :: .os 3 :: .os 4 :: .os 5 :: .os 6::zb r.1.Ak [.os 7,.os 8])::zp r.1.A0.Power [v5_ r.1.A0.A7,v1_ r.1.A0.Bc,v1_ r.1.events,v7_ r.1.states]):=by
 unfold F53 at h
 refine co 109 Tryz.func53 λ C hC=>?_
 obtain⟨y1,h2,h⟩:=Az h
 refine wn vO 29 [] [pc e29 (k29 x0 x1 x2 _ h2) []] [] 0 n3_ [3,4,5,6,8,9,10,19] hC [] ?_
 rcases cB h with⟨h3,h⟩ | ⟨h3,h⟩
 ·cases h
 ·rcases cB h with⟨h4,h⟩ | ⟨h4,h⟩
  ·cases h
  ·rcases cB h with⟨h5,h⟩ | ⟨h5,h⟩
   ·cases h
   ·obtain⟨y6,h7,y8,h9,h⟩:=Bb h
    refine ws vO 37 [false,false,false] [pl q63 x3,pc e74 (k74 x0 x2 _ h7) [],pc A5o (A43 y6 x2.Power _ h9) [3,4,5,6,7,8,9,10,11],pl q63 x3] [] 0 [0,1,3,4,5,6,7,8,9,10,12] (Ad6 x3 0 (y8.A0.Time,zt y8.Ak (zu y8.A0.Power (y8.A0.A7,y8.A0.Bc,y8.events,y8.states)))) (Apd x0 x1 0 (y8.A0.Time,zt y8.Ak (zu y8.A0.Power (y8.A0.A7,y8.A0.Bc,y8.events,y8.states)))) hC [pq h3,pq h4,pq h5] ?_
    obtain⟨w0,hm0,hret0,hnext0⟩:=Ar h
    clear h
    refine wc w0 (Aq9) (Aus x0 x1) ?_ λ z0 hs0=>?_
    ·refine wb ?_
     refine Bv 38 rfl λ hl0=>?_
     refine wl (Ad6 x3) (Apd x0 x1) hm0 (λ z0 hn0=>?_) λ n0 a0 z0 w0b hi0 hx0 h hb0 hr0=>?_
     ·clear hm0
      exact wx w0 (Aq9) (Aus x0 x1) vO 26 [false] [] [] 0 Anc _ hC [pq (Be hl0)] hn0
     ·unfold Au7 at h
      obtain⟨y10,h11,h⟩:=Az h
      exact wx w0b (Ad6 x3 (n0+1)) (Apd x0 x1 (n0+1)) vO 33 [true] [pt hx0 hl0,pc Ayd (Ax8 (⟨(⟨z0.1,(⟨(g7_ z0),(g8_ z0),(g9_ z0),(Dk z0)⟩:Ab),(G_ z0),(Ij z0)⟩:As),(⟨z0.2.1,z0.2.2.1,(g3_ z0),(g4_ z0),(g5_ z0),(g6_ z0)⟩:Aa),(Ii z0),(P9 z0)⟩:A3) a0 _ h11) [2,3,4,5,6,7,8,9,10]] [] 0 [0,1,2,12,13,14,15,7,8,16,17] _ hC [pq (A_ hi0 hl0)] (sI h).symm
    ·have h:=hnext0 _ hs0
     obtain⟨y12,h13,y14,h15,y16,h17,y18,h19,h⟩:=Cr h
     refine wn vO 11 [] [pc A5m (A41 (⟨(⟨z0.1,(⟨(g7_ z0),(g8_ z0),(g9_ z0),(Dk z0)⟩:Ab),(G_ z0),(Ij z0)⟩:As),(⟨z0.2.1,z0.2.2.1,(g3_ z0),(g4_ z0),(g5_ z0),(g6_ z0)⟩:Aa),(Ii z0),(P9 z0)⟩:A3) x1 _ h13) [2,3,4,5,6,7,8,9,10],⟨.call 78 [.agg (d30 x0),.agg [.os 0,.os 1,.os 2,.os 3],dI y12.A0.Time,.agg [I 7,I 0,I 0]] (zp y12.A0.Power []) (.tup [.agg [.os 4,.os 5,.os 6,.os 7],dI y14.2]) (zp y12.A0.Power (zp y14.1 [])) [11,12,13,14],⟨e78,((k78 x0 y12.A0.Power y12.A0.Time (⟨7,0,0⟩:Am) _ h15).lend (by kernel_rfl) (by kernel_rfl) (by kernel_rfl) ⟨Bh (λ _=>rfl),Bh (λ _=>rfl),Bh (λ _=>rfl),Bh (λ _=>rfl),trivial⟩ (by kernel_rfl) (by kernel_rfl))⟩⟩,pc A5n (A42 (⟨(⟨y12.A0.Time,y14.1,y12.A0.A7,y12.A0.Bc⟩:As),y12.Ak,y12.events,y12.states⟩:A3) y14.1 _ h17) [2,19,20,21,22,15,16,17,18],pa q65 5 h19] [.frz 24] 0 [2,15,16,17,19,20,21,22,23] [8,9,11,14] hC [] ?_
     obtain⟨y21,h20,y22,h23,h⟩:=Bb h
     replace h:=sI h
     subst h
     exact wr vO 24 [] [pl q65 y18,⟨.cut (y18.map q65) 5 (max 0 (w64 ((ln y18)-200))) (ln (y18.map q65)) (y21.map q65),Aj2 q65 5 (λ _=>rfl) h20⟩,pc e79 (k79 y21 _ h23) []] [] 0 [0,4,5,6,7,1,9,3,8] hC []
theorem e53:EN 53:=en Tryz.func53
def Av7:List Nat:=[0,1,2,3,4,5,6,8,9,10,11,12,22]
theorem k31 (x0:Aa) (x1:A2) (x2:As) (x3:List Am) (r:As×(List A6)×Int) (h:F31 x0 x1 x2 x3=some r):CO 31 [.agg (d30 x0),.agg (d33 x1),.agg (d43 x2),.d (DS q63 x3)] [] (.tup [.agg [I r.1.Time,.os 0,.os 1,.os 2,.os 3,.os 4,.os 5],.d (.os 6),.d (I r.2.2)]) (zp r.1.Power [v5_ r.1.A7,v1_ r.1.Bc,v1_ r.2.1]):=by
 unfold F31 at h
 refine co 33 Tryz.func31 λ C hC=>?_
 obtain⟨y1,h2,h⟩:=Az h
 refine wn Av7 28 [] [pc e53 (k53 x0 x1 x2 x3 _ h2) []] [.ownb 3 1 4 1,.ownb 3 2 93 4,.ownb 3 3 3 1,.ownb 3 4 96 2,.ownb 3 5 84 2,.ownb 3 6 65 5] 0 [3,4,5,6,7,8,9,10,11,12,13,14,15,16,17,18] [8,9,10,11,12,22] hC [] ?_
 rcases cB h with⟨h3,h⟩ | ⟨h3,h⟩
 ·replace h:=sI h
  subst h
  exact wr Av7 24 [true] [] [.ownb 0 1 4 1,.ownb 0 2 93 4,.ownb 0 3 3 1,.ownb 0 4 96 2,.ownb 0 5 84 2,.ownb 0 6 65 5,.own 9 65 5] 0 [16,17,18,19,20,21,22] hC [pq h3]
 ·replace h:=sI h
  subst h
  exact wr Av7 25 [false] [] [] 0 [2,3,4,5,6,7,8] hC [pq h3]
theorem e31:EN 31:=en Tryz.func31
def N1:List Nat:=[0,1,2,3,4,5,6,7,10,11,12,13,14,15,16,17,19,20,30,40,48,49,50,67]
def Aec (x3:List (List Am)) (x4:Int) (z0:Sg1):St:=[(3,.d (DS (pL q63) x3)),(4,dI x4),(5,dO 0 0),(6,dO 1 0),(10,.d (DS (pK .u64) [])),(11,dO 2 0),(12,dI 0),(14,dO 15 0),(15,dS 16),(48,dI (w64 ((ln x3)-x4))),(49,dI z0.1)]
def Apj (x0:Aa) (x1:A2) (z0:Sg1):List Res:=(.box 30 (d30 x0) :: .box 33 (d33 x1) :: .box 43 [I 0,.os 3,.os 4,.os 5,.os 6,.os 7,.os 8]::ze [v5_ ([]:List Aw),v1_ ([]:List A6),v2_ z0.2.1,v4_ z0.2.2.1,v0_ (g3_ z0),v3_ (g4_ z0),v5_ (g5_ z0),v1_ (g6_ z0),.box 43 [I (g7_ z0),.os 9,.os 10,.os 11,.os 12,.os 13,.os 14],.sl 67 1 (z0.2.2.2.2.2.2.2.2.map (pK .u64))])
def Arg  (z0:Sg1):St:=[(10,.d (DS (pK .u64) [])),(11,dO 0 0),(12,dI 0),(14,dO 13 0),(15,dS 14)]
def Auz  (z0:Sg1):List Res:=(.box 43 [I 0,.os 1,.os 2,.os 3,.os 4,.os 5,.os 6]::ze [v5_ ([]:List Aw),v1_ ([]:List A6),v2_ z0.2.1,v4_ z0.2.2.1,v0_ (g3_ z0),v3_ (g4_ z0),v5_ (g5_ z0),v1_ (g6_ z0),.box 43 [I (g7_ z0),.os 7,.os 8,.os 9,.os 10,.os 11,.os 12],.sl 67 1 (z0.2.2.2.2.2.2.2.2.map (pK .u64))])
theorem k15 (x0:Aa) (x1:A2) (x2:As) (x3:List (List Am)) (x4:Int) (r:(List Int)×As×Int) (h:F15 x0 x1 x2 x3 x4=some r):CO 15 [.agg (d30 x0),.agg (d33 x1),.agg (d43 x2),.d (DS (pL q63) x3),.d (I x4)] [] (.tup [.d (.os 0),.agg [I r.2.1.Time,.os 1,.os 2,.os 3,.os 4,.os 5,.os 6],.d (I r.2.2)]) (.sl 67 1 (r.1.map (pK .u64))::zp r.2.1.Power [v5_ r.2.1.A7,v1_ r.2.1.Bc]):=by
 unfold F15 at h
 refine co 79 Tryz.func15 λ C hC=>?_
 rcases cB h with⟨h1,h⟩ | ⟨h1,h⟩
 ·replace h:=sI h
  subst h
  exact wr N1 30 [true] [pL_ [(decide (x4<0),false)] (pL q63) x3] [.own 10 67 1,.ownb 3 1 4 1,.ownb 3 2 93 4,.ownb 3 3 3 1,.ownb 3 4 96 2,.ownb 3 5 84 2,.ownb 3 6 65 5] 0 [4,5,6,7,8,9,10] hC [pq h1]
 ·rcases cB h with⟨h2,h⟩ | ⟨h2,h⟩
  ·replace h:=sI h
   subst h
   exact wr N1 33 [false,true] [pL_ [(decide (x4<0),false)] (pL q63) x3,pl (pL q63) x3] [.own 10 67 1,.ownb 3 1 4 1,.ownb 3 2 93 4,.ownb 3 3 3 1,.ownb 3 4 96 2,.ownb 3 5 84 2,.ownb 3 6 65 5] 0 [4,5,6,7,8,9,10] hC [pq h1,pq h2]
  ·obtain⟨y3,h4,h⟩:=Az h
   refine wn N1 38 [false,false] [pL_ [(decide (x4<0),false)] (pL q63) x3,pl (pL q63) x3,pc e29 (k29 x0 x1 x2 _ h4) []] [.ownb 3 1 4 1,.ownb 3 2 93 4,.ownb 3 3 3 1,.ownb 3 4 96 2,.ownb 3 5 84 2,.ownb 3 6 65 5] 0 Gs [3,4,5,6,7,10,11,12,13,40] hC [pq h1,pq h2] ?_
   rcases cB h with⟨h5,h⟩ | ⟨h5,h⟩
   ·replace h:=sI h
    subst h
    exact wr N1 24 [true] [] [.own 10 67 1,.ownb 3 1 4 1,.ownb 3 2 93 4,.ownb 3 3 3 1,.ownb 3 4 96 2,.ownb 3 5 84 2,.ownb 3 6 65 5] 0 [10,11,12,13,14,15,16] hC [pq h5]
   ·obtain⟨y6,h7,h⟩:=Az h
    refine ws N1 30 [false] [pc e30 (k30 x2 _ h7) [],pl (pL q63) x3] [.own 15 67 1] 0 [0,1,3,4,5,6,7,8,9,10,11,12,13,14,15,16,17] (Aec x3 x4 (0,zu y6.Power (y6.A7,y6.Bc,y6.Time,([]:List Int)))) (Apj x0 x1 (0,zu y6.Power (y6.A7,y6.Bc,y6.Time,([]:List Int)))) hC [pq h5] ?_
    obtain⟨w0,hm0,hret0,hnext0⟩:=Ar h
    clear h
    refine wc w0 (Arg) (Auz) ?_ λ z0 hs0=>?_
    ·refine wb ?_
     refine ww (Aec x3 x4) (Apj x0 x1) hm0 λ z0 w0b h hb0 hr0=>?_
     unfold Ai7 at h
     rcases cB h with⟨h8,h⟩ | ⟨h8,h⟩
     ·obtain⟨y9,h10,y11,h12,h⟩:=Bb h
      refine wn N1 35 [true] [⟨.flts [.box 43 [I 0,.p (.v (.slice none 0 0)),.p (.v (.slice none 0 0)),.p (.v (.slice none 0 0)),.p (.v (.slice none 0 0)),.p (.v (.slice none 0 0)),.p (.v (.slice none 0 0))]],trivial⟩,pr (pL q63) h10,⟨.call 31 [.agg (d30 x0),.agg (d33 x1),.agg [I (g7_ z0),.os 0,.os 1,.os 2,.os 3,.os 4,.os 5],.d (DS q63 y9)] [v2_ z0.2.1,v4_ z0.2.2.1,v0_ (g3_ z0),v3_ (g4_ z0),v5_ (g5_ z0),v1_ (g6_ z0)] (.tup [.agg [I y11.1.Time,.os 6,.os 7,.os 8,.os 9,.os 10,.os 11],dS 12,dI y11.2.2]) (v2_ z0.2.1::v4_ z0.2.2.1::v0_ (g3_ z0)::v3_ (g4_ z0)::v5_ (g5_ z0)::v1_ (g6_ z0)::zp y11.1.Power [v5_ y11.1.A7,v1_ y11.1.Bc,v1_ y11.2.1]) [9,10,11,12,13,14],⟨e31,((k31 x0 x1 (⟨(g7_ z0),(⟨z0.2.1,z0.2.2.1,(g3_ z0),(g4_ z0)⟩:Ab),(g5_ z0),(g6_ z0)⟩:As) y9 _ h12).lend (by kernel_rfl) (by kernel_rfl) (by kernel_rfl) ⟨Bh (λ _=>rfl),Bh (λ _=>rfl),Bh (λ _=>rfl),Bh (λ _=>rfl),Bh (λ _=>rfl),Bh (λ _=>rfl),Bh (λ _=>rfl),trivial⟩ (by kernel_rfl) (by kernel_rfl))⟩⟩,⟨.flt 17 (.box 43 [I 0,.p (.v (.slice none 0 0)),.p (.v (.slice none 0 0)),.p (.v (.slice none 0 0)),.p (.v (.slice none 0 0)),.p (.v (.slice none 0 0)),.p (.v (.slice none 0 0))]) (.box 43 [I 0,.p (.v (.slice none 0 0)),.p (.v (.slice none 0 0)),.p (.v (.slice none 0 0)),.p (.v (.slice none 0 0)),.p (.v (.slice none 0 0)),.p (.v (.slice none 0 0))]),rfl⟩] [] 0 A6d [3,4,5,6,10,11,12,14,15,17,19,48,49,67] hC [pq h8] ?_
      rcases cB h with⟨h13,h⟩ | ⟨h13,h⟩
      ·have hq:=hret0 _ (hr0 _ (sI h).symm)
       replace hq:=sI hq
       subst hq
       exact wr N1 24 [true] [] [.own 10 67 1,.ownb 2 1 4 1,.ownb 2 2 93 4,.ownb 2 3 3 1,.ownb 2 4 96 2,.ownb 2 5 84 2,.ownb 2 6 65 5] 0 [24,25,26,27,28,29,30] hC [pq h13]
      ·obtain⟨y14,h15,y16,h17,h⟩:=Bb h
       exact wx w0b (Aec x3 x4) (Apj x0 x1) N1 28 [false] [pb e23 (k23 y11.1 _ h15),pa (pK .u64) 1 h17] [] 0 [0,1,2,3,4,5,6,7,8,18,19,20,21,22,23,15,24] _ hC [pq h13] (sI h).symm
     ·exact wx w0 (Arg) (Auz) N1 26 [false] [] [] 0 [2,3,4,5,6,7,8,9,10,11,12,13,14,15,16] (z0.1,z0.2.1,z0.2.2.1,(g3_ z0),(g4_ z0),(g5_ z0),(g6_ z0),(g7_ z0),(vW z0)) hC [pq h8] (hb0 _ (sI h).symm)
    ·have h:=hnext0 _ hs0
     replace h:=sI h
     subst h
     exact wr N1 23 [] [] [] 0 [14,7,8,9,10,11,12] hC []
theorem e15:EN 15:=en Tryz.func15
theorem k14 (x0:Aa) (x1:A2) (x2:As) (x3:List (List Am)) (r:(List Int)×As×Int) (h:F14 x0 x1 x2 x3=some r):CO 14 [.agg (d30 x0),.agg (d33 x1),.agg (d43 x2),.d (DS (pL q63) x3)] [] (.tup [.d (.os 0),.agg [I r.2.1.Time,.os 1,.os 2,.os 3,.os 4,.os 5,.os 6],.d (I r.2.2)]) (.sl 67 1 (r.1.map (pK .u64))::zp r.2.1.Power [v5_ r.2.1.A7,v1_ r.2.1.Bc]):=by
 unfold F14 at h
 refine co 19 Tryz.func14 λ C hC=>?_
 obtain⟨y1,h2,h⟩:=Az h
 replace h:=sI h
 subst h
 exact wr [0,1,2,3,4,5,6,8,9,10] 25 [] [pc e15 (k15 x0 x1 x2 x3 0 _ h2) []] [] 0 [4,5,6,7,8,9,10] hC []
theorem e14:EN 14:=en Tryz.func14
def Afo:List Nat:=[0,1,2,3,4,5,6,7,10,11,12,14,15,27,39]
theorem k18 (x0:Aa) (x1:A2) (x2:As) (x3:List (List Am)) (x4:List (List Am)) (r:Int×Int) (h:F18 x0 x1 x2 x3 x4=some r):CO 18 [.agg (d30 x0),.agg (d33 x1),.agg (d43 x2),.d (DS (pL q63) x3),.d (DS (pL q63) x4)] [] (.tup [.d (I r.1),.d (I r.2)]) []:=by
 unfold F18 at h
 refine co 44 Tryz.func18 λ C hC=>?_
 obtain⟨y1,h2,h⟩:=Az h
 refine wn Afo 28 [] [pc e14 (k14 x0 x1 x2 x3 _ h2) []] [] 0 n4_ [4,5,6,7,10,11,12,14,27] hC [] ?_
 rcases cB h with⟨h3,h⟩ | ⟨h3,h⟩
 ·replace h:=sI h
  subst h
  exact wr Afo 24 [true] [] [] 0 [] hC [pq h3]
 ·obtain⟨y4,h5,h⟩:=Az h
  refine wn Afo 28 [false] [pc e14 (k14 x0 x1 x2 x4 _ h5) []] [] 0 [3,4] [10,11,12,14,15,39] hC [pq h3] ?_
  rcases cB h with⟨h6,h⟩ | ⟨h6,h⟩
  ·replace h:=sI h
   subst h
   exact wr Afo 24 [true] [] [] 0 [] hC [pq h6]
  ·obtain⟨y7,h8,h⟩:=Az h
   replace h:=sI h
   subst h
   exact wr Afo 25 [false] [pb e25 (k25 y1.1 y4.1 _ h8)] [] 0 [] hC [pq h6]
theorem e18:EN 18:=en Tryz.func18
theorem k8  (r:Bool) (h:F8  = some r):CO 8 [] [] (.d (Bo r)) []:=by
 unfold F8 at h
 refine co 59 Tryz.func8 λ C hC=>?_
 obtain⟨y1,h2,y3,h4,y5,h6,h⟩:=B0 h
 obtain⟨y7,h8,y9,h10,h⟩:=Bb h
 replace h:=sI h
 subst h
 exact wr n8_ 33 [] [pc e24 (k24 (⟨1,[(⟨2,0,0⟩:Aj)],[(⟨10,0,0⟩:Bg)],[],0,0⟩:Aa) (⟨80,10,1⟩:A2) _ h2) [],pb e18 (k18 (⟨1,[(⟨2,0,0⟩:Aj)],[(⟨10,0,0⟩:Bg)],[],0,0⟩:Aa) (⟨80,10,1⟩:A2) y1.1 [([]:List Am),([]:List Am),([]:List Am),[(⟨3,0,0⟩:Am)],([]:List Am)] [([]:List Am),([]:List Am),([]:List Am),([]:List Am),([]:List Am)] _ h4),pv e22 (λ hg=>k22 y1.1 _ (Bf h6 hg)),pw e25 (λ hg=>k25 [1,2] [1,3] _ (Bf h8 hg)) [],pw e25 (λ hg=>k25 [1] [1] _ (Bf h10 hg)) []] [] 0 [] hC []
theorem e8:EN 8:=en Tryz.func8
def lv5:List Nat:=[0,2,3,4,5,6,7,8,9,10,13]
theorem k5 (x0:List Int) (r:Bool) (h:F5 x0=some r):CO 5 [.d (DS pI x0)] [] (.d (Bo r)) []:=by
 unfold F5 at h
 refine co 54 Tryz.func5 λ C hC=>?_
 rcases cB h with⟨h1,h⟩ | ⟨h1,h⟩
 ·obtain⟨y2,h3,h⟩:=Az h
  replace h:=sI h
  subst h
  exact wr lv5 29 [true] [pl pI x0,pc e8 (k8  _ h3) []] [] 0 [] hC [pq h1]
 ·obtain⟨y4,h5,y6,h7,y8,h9,y10,h11,h⟩:=Cr h
  obtain⟨y12,h13,y14,h15,y16,h17,h⟩:=B0 h
  refine wn lv5 18 [false] [pl pI x0,pc e9 (k9 x0 _ h5) [],pc e10 (k10 y4 _ h7) [0],pc e11 (k11 y6.2 _ h9) [0],pc A5x (A5c y8.2 y6.1 _ h11) n4_,pc A5w (A5b y10.2 y6.1 4 _ h13) n4_,pa (pL q63) 1 h15,pl (pL q63) y14,pc e19 (k19 y12.2 (ln y14) _ h17) [0]] [.frz 14] 0 [1,2,3,4,5,6,7,8,9,10,11,12] [2,4,5,6,7,8] hC [pq h1] ?_
  obtain⟨y19,h18,y20,h21,y22,h23,h⟩:=B0 h
  replace h:=sI h
  subst h
  exact wr lv5 24 [] [⟨.cut (y14.map (pL q63)) 1 0 y16.1 (y19.map (pL q63)),Vl (pL q63) 1 (λ _=>rfl) h18⟩,pb e18 (k18 y6.1 y8.1 y10.1 y14 y19 _ h21),pw e8 (λ hg=>k8  _ (Bf h23 hg)) []] [] 0 [] hC []
end Go.Proofs.YtpdbkiafikdgpaaGreatDoor
