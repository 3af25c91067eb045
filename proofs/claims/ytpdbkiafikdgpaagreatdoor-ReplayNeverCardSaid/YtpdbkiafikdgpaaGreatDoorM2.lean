import Derived.Test.YtpdbkiafikdgpaaGreatDoorM1
set_option linter.unusedVariables false
set_option maxHeartbeats 4000000
namespace Go.Proofs.YtpdbkiafikdgpaaGreatDoor
open Go.SL
def Xx:List Nat:=[0,1,2,3,4,5,6,7,8,9,18,22,36,43]
theorem k29 (x0:Aa) (x1:A5) (x2:Ar) (r:Int) (h:F29 x0 x1 x2=some r):CO 29 [.agg (d30 x0),.agg (d33 x1),.agg (d43 x2)] [] (.d (I r)) []:=by
 unfold F29 at h
 refine co 55 Tryz.func29 λ C hC=>?_
 obtain⟨y1,h2,h⟩:=Az h
 refine wn Xx 31 [] [pc e47 (k47 x0 x2.Power _ h2) []] [] 0 n9_ [3,4,5,6,7,8,9,18] hC [] ?_
 rcases cB h with⟨h3,h⟩ | ⟨h3,h⟩
 ·replace h:=sI h
  subst h
  exact wr Xx 24 [true] [] [] 0 [] hC [pq h3]
 ·rcases cB h with⟨h4,h⟩ | ⟨h4,h⟩
  ·replace h:=sI h
   subst h
   exact wr Xx 27 [false,true] [pc e49 (k49 x1 _ rfl) []] [] 0 [] hC [pq h3,pq h4]
  ·rcases cB h with⟨h5,h⟩ | ⟨h5,h⟩
   ·replace h:=sI h
    subst h
    exact wr Xx 30 [false,false,true] [pc e49 (k49 x1 _ rfl) [],pl q84 x2.A2] [] 0 [] hC [pq h3,pq h4,pq h5]
   ·obtain⟨y6,h7,y8,h9,h⟩:=Bc h
    refine wn Xx 30 [false,false,false] [pc e49 (k49 x1 _ rfl) [],pl q84 x2.A2,pb e50 (k50 x2.Power y1.1 _ h7),⟨.whenR [(!y6,false)] (.call 51 [.d (DS q84 x2.A2),.d (.fn (.func 52) [] [.o 0 0])] [.box 111 [.fn (.func 48) [] [.o 1 0]],.box 43 (d43 x2)] (dB y8.1) [.box 111 [.fn (.func 48) [] [.o 1 0]],.box 43 (d43 y8.2)] [8,2]),⟨λ hg=>⟨A7d,(A6v x2.A2 x2 _ (Ba h9 hg))⟩,λ hg=>by have e:=Hu h9 hg;subst e;rfl⟩⟩] [] 0 [] [6,43] hC [pq h3,pq h4,pq h5] ?_
    rcases cB h with⟨h10,h⟩ | ⟨h10,h⟩
    ·replace h:=sI h
     subst h
     exact wr Xx 24 [true] [] [] 0 [] hC [pq h10]
    ·replace h:=sI h
     subst h
     exact wr Xx 26 [false] [] [] 0 [] hC [pq h10]
theorem e29:EN 29:=en Tryz.func29
def An7:List Nat:=[0,1,2,3,4,6,7,8,20]
theorem Aod (x0:Aa) (x1:Ab) (x2:Int) (r:Int×Bool) (h:Uh x0 x1 x2=some r):CO 170 [.agg (d30 x0),.agg (d39 x1),.d (I x2)] [] (.tup [.d (I r.1),.d (Bo r.2)]) []:=by
 unfold Uh at h
 refine co 25 Tryz.func170 λ C hC=>?_
 obtain⟨y1,h2,h⟩:=Az h
 refine wn An7 28 [] [pc Tp (S5 x0 x1 x2 _ h2) [],pl pI y1.1.Ac] [] 0 [2] [6,7,8,20] hC [] ?_
 rcases cB h with⟨h3,h⟩ | ⟨h3,h⟩
 ·replace h:=sI h
  subst h
  exact wr An7 24 [true] [] [] 0 [] hC [pq h3]
 ·obtain⟨y4,h5,h⟩:=Az h
  replace h:=sI h
  subst h
  exact wr An7 25 [false] [pr pI h5] [] 0 [] hC [pq h3]
theorem Aot:EN 170:=en Tryz.func170
theorem Axy (x0:Aa) (x1:Ab) (x2:Int) (r:Bool) (h:Y3 x0 x1 x2=some r):CO 106 [.agg (d30 x0),.agg (d39 x1),.d (I x2)] [] (.d (Bo r)) []:=by
 unfold Y3 at h
 refine co 20 Tryz.func106 λ C hC=>?_
 obtain⟨y1,h2,h⟩:=Az h
 replace h:=sI h
 subst h
 exact wr [0,1,2,3,4,6,7] 27 [] [pc Tp (S5 x0 x1 x2 _ h2) [],pl pI y1.1.Ac] [] 0 [] hC []
theorem Ayh:EN 106:=en Tryz.func106
def Zy:List Nat:=[0,1,2,3,4,6,7,9,11,20,21,22,23,29]
def Vb (y1:Ah×Bool) (n0:Nat) (z0:Int):St:=[(4,dO 0 0),(6,dI 0),(7,dO 1 0),(9,dI z0),(20,.d (DS pI y1.1.Ae)),(21,dI (ln y1.1.Ae)),(22,dI (cnt 0 n0))]
def qC (x1:Ab) (y1:Ah×Bool) (n0:Nat) (z0:Int):List Res:=[.box 39 (d39 x1),.box 137 (H9 y1.1)]
def Ala  (z0:Int):St:=[(6,dI 0),(9,dI z0)]
def Amr  (z0:Int):List Res:=[]
theorem Axv (x0:Aa) (x1:Ab) (x2:Int) (r:Int) (h:Ui x0 x1 x2=some r):CO 168 [.agg (d30 x0),.agg (d39 x1),.d (I x2)] [] (.d (I r)) []:=by
 unfold Ui at h
 refine co 39 Tryz.func168 λ C hC=>?_
 obtain⟨y1,h2,h⟩:=Az h
 refine ws Zy 30 [] [pc Tp (S5 x0 x1 x2 _ h2) [],pl pI y1.1.Ae] [] 0 [1,2] (Vb y1 0 0) (qC x1 y1 0 0) hC [] ?_
 obtain⟨w0,hm0,hret0,hnext0⟩:=As h
 clear h
 refine wc w0 (Ala) (Amr) ?_ λ z0 hs0=>?_
 ·refine wb ?_
  refine Bt 20 rfl λ hl0=>?_
  refine wl (Vb y1) (qC x1 y1) hm0 (λ z0 hn0=>?_) λ n0 a0 z0 w0b hi0 hx0 h hb0 hr0=>?_
  ·clear hm0
   exact wx w0 (Ala) (Amr) Zy 26 [false] [] [] 0 [] _ hC [pq (Bf hl0)] hn0
  ·unfold Wj at h
   rcases cB h with⟨h3,h⟩ | ⟨h3,h⟩
   ·obtain⟨y4,h5,h⟩:=Az h
    exact wx w0b (Vb y1 (n0+1)) (qC x1 y1 (n0+1)) Zy 36 [true,true] [pt hx0 hl0,pl pI y1.1.Ac,pr pI h5] [] 0 [0,1] _ hC [pq (A9 hi0 hl0),pq h3] (sI h).symm
   ·exact wx w0b (Vb y1 (n0+1)) (qC x1 y1 (n0+1)) Zy 36 [true,false] [pt hx0 hl0,pl pI y1.1.Ac] [] 0 [0,1] _ hC [pq (A9 hi0 hl0),pq h3] (sI h).symm
 ·have h:=hnext0 _ hs0
  replace h:=sI h
  subst h
  exact wr Zy 23 [] [] [] 0 [] hC []
theorem Aye:EN 168:=en Tryz.func168
def Acw:List Nat:=[0,1,2,3,4,6,7,9,11,20,21,22,23]
def uP (y1:Ah×Bool) (n0:Nat) (z0:Int):St:=[(3,dO 0 0),(6,dI 0),(9,dI z0),(20,.d (DS pI y1.1.Ac)),(21,dI (ln y1.1.Ac)),(22,dI (cnt 0 n0))]
def Aic (x0:Aa) (n0:Nat) (z0:Int):List Res:=[.box 30 (d30 x0)]
def Alb  (z0:Int):St:=[(6,dI 0),(9,dI z0)]
def Ams  (z0:Int):List Res:=[]
theorem Axw (x0:Aa) (x1:Ab) (x2:Int) (r:Int) (h:Uj x0 x1 x2=some r):CO 167 [.agg (d30 x0),.agg (d39 x1),.d (I x2)] [] (.d (I r)) []:=by
 unfold Uj at h
 refine co 36 Tryz.func167 λ C hC=>?_
 obtain⟨y1,h2,h⟩:=Az h
 refine ws Acw 30 [] [pc Tp (S5 x0 x1 x2 _ h2) [],pl pI y1.1.Ac] [] 0 [0] (uP y1 0 0) (Aic x0 0 0) hC [] ?_
 obtain⟨w0,hm0,hret0,hnext0⟩:=As h
 clear h
 refine wc w0 (Alb) (Ams) ?_ λ z0 hs0=>?_
 ·refine wb ?_
  refine Bt 20 rfl λ hl0=>?_
  refine wl (uP y1) (Aic x0) hm0 (λ z0 hn0=>?_) λ n0 a0 z0 w0b hi0 hx0 h hb0 hr0=>?_
  ·clear hm0
   exact wx w0 (Alb) (Ams) Acw 26 [false] [] [] 0 [] _ hC [pq (Bf hl0)] hn0
  ·unfold zH at h
   obtain⟨y3,h4,h⟩:=Az h
   exact wx w0b (uP y1 (n0+1)) (Aic x0 (n0+1)) Acw 33 [true] [pt hx0 hl0,pr q72 h4] [] 0 [0] _ hC [pq (A9 hi0 hl0)] (sI h).symm
 ·have h:=hnext0 _ hs0
  replace h:=sI h
  subst h
  exact wr Acw 23 [] [] [] 0 [] hC []
theorem Ayf:EN 167:=en Tryz.func167
def Jc:List Nat:=[0,1,2,3,4,6,7,8,9,11,12,13,22,23,24,25,26,30,31,32,33,47]
def uV  (n0:Nat) (z0:Unit):St:=[(3,dO 0 0),(4,dO 1 0),(6,dI 0),(7,dB false),(8,dO 2 0),(23,.d (DS pI [2,1,0])),(24,dI ([2,1,0].length:Int)),(25,dI (cnt 0 n0))]
def Aii (x0:Aa) (x1:Ab) (y1:Ah×Bool) (n0:Nat) (z0:Unit):List Res:=[.box 30 (d30 x0),.box 39 (d39 x1),.box 137 (H9 y1.1)]
def Alj  (z0:Unit):St:=[(6,dI 0),(7,dB false)]
def Am0  (z0:Unit):List Res:=[]
def uU (x1:Ab) (n0:Nat) (a0:Int) (n1:Nat) (z1:Unit):St:=[(3,dO 0 0),(4,dO 1 0),(6,dI 0),(7,dB false),(8,dO 2 0),(11,dI a0),(23,.d (DS pI [2,1,0])),(24,dI ([2,1,0].length:Int)),(25,dI (cnt 0 n0)),(30,.d (DS q93 x1.Ac)),(31,dI (ln x1.Ac)),(32,dI (cnt 0 n1))]
def Aih (x0:Aa) (x1:Ab) (y1:Ah×Bool) (n1:Nat) (z1:Unit):List Res:=[.box 30 (d30 x0),.box 39 (d39 x1),.box 137 (H9 y1.1)]
def Ali (n0:Nat) (z1:Unit):St:=[(3,dO 0 0),(4,dO 1 0),(6,dI 0),(7,dB false),(8,dO 2 0),(23,.d (DS pI [2,1,0])),(24,dI ([2,1,0].length:Int)),(25,dI (cnt 0 n0))]
def Amz (x0:Aa) (x1:Ab) (y1:Ah×Bool) (z1:Unit):List Res:=[.box 30 (d30 x0),.box 39 (d39 x1),.box 137 (H9 y1.1)]
theorem A8n (x0:Aa) (x1:Ab) (x2:Int) (r:Int×Bool) (h:Aj1 x0 x1 x2=some r):CO 132 [.agg (d30 x0),.agg (d39 x1),.d (I x2)] [] (.tup [.d (I r.1),.d (Bo r.2)]) []:=by
 unfold Aj1 at h
 refine co 51 Tryz.func132 λ C hC=>?_
 obtain⟨y1,h2,h⟩:=Az h
 refine wn Jc 28 [] [pc Tp (S5 x0 x1 x2 _ h2) []] [] 0 n3_ [3,4,6,7,8,22] hC [] ?_
 rcases cB h with⟨h3,h⟩ | ⟨h3,h⟩
 ·replace h:=sI h
  subst h
  exact wr Jc 24 [true] [] [] 0 [] hC [pq h3]
 ·refine ws Jc 26 [false] [pl pI [2,1,0]] [] 0 n3_ (uV 0 ()) (Aii x0 x1 y1 0 ()) hC [pq h3] ?_
  obtain⟨w0,hm0,hret0,hnext0⟩:=As h
  clear h
  refine wc w0 (Alj) (Am0) ?_ λ z0 hs0=>?_
  ·refine wb ?_
   refine Bt 23 rfl λ hl0=>?_
   refine wl (uV) (Aii x0 x1 y1) hm0 (λ z0 hn0=>?_) λ n0 a0 z0 w0b hi0 hx0 h hb0 hr0=>?_
   ·clear hm0
    exact wx w0 (Alj) (Am0) Jc 26 [false] [] [] 0 [] _ hC [pq (Bf hl0)] hn0
   ·unfold zO at h
    refine ws Jc 32 [true] [pt hx0 hl0,pl q93 x1.Ac] [] 0 n3_ (uU x1 n0 a0 0 ()) (Aih x0 x1 y1 0 ()) hC [pq (A9 hi0 hl0)] ?_
    obtain⟨w1,hm1,hret1,hnext1⟩:=As h
    clear h
    refine wc w1 (Ali n0) (Amz x0 x1 y1) ?_ λ z1 hs1=>?_
    ·refine wb ?_
     refine Bt 30 rfl λ hl1=>?_
     refine wl (uU x1 n0 a0) (Aih x0 x1 y1) hm1 (λ z1 hn1=>?_) λ n1 a1 z1 w1b hi1 hx1 h hb1 hr1=>?_
     ·clear hm1
      exact wx w1 (Ali n0) (Amz x0 x1 y1) Jc 26 [false] [] [] 0 n3_ _ hC [pq (Bf hl1)] hn1
     ·unfold zN at h
      obtain⟨y4,h5,h⟩:=Az h
      refine wn Jc 32 [true] [pt hx1 hl1,pw A9e (λ hg=>A8d x0 x1 y1.1 (cnt 0 n1) _ (Ba h5 hg)) []] [] 0 n3_ [3,4,6,7,8,11,12,23,24,25,30,31,32,47] hC [pq (A9 hi1 hl1)] ?_
      rcases cB h with⟨h6,h⟩ | ⟨h6,h⟩
      ·have hq:=hret1 _ (hr1 _ (sI h).symm)
       replace hq:=hret0 _ (hr0 _ (sI hq).symm)
       replace hq:=sI hq
       subst hq
       exact wr Jc 24 [true] [] [] 0 [] hC [pq h6]
      ·exact wx w1b (uU x1 n0 a0 (n1+1)) (Aih x0 x1 y1 (n1+1)) Jc 25 [false] [] [] 0 n3_ _ hC [pq h6] (sI h).symm
    ·have h:=hnext1 _ hs1
     exact wx w0b (uV (n0+1)) (Aii x0 x1 y1 (n0+1)) Jc 23 [] [] [] 0 n3_ _ hC [] (sI h).symm
  ·have h:=hnext0 _ hs0
   replace h:=sI h
   subst h
   exact wr Jc 23 [] [] [] 0 [] hC []
theorem A9o:EN 132:=en Tryz.func132
def Axl:List Nat:=[0,1,2,3,4,5,6,11]
theorem k45 (x0:Aa) (x1:Ab) (r:Ab×Int) (h:F45 x0 x1=some r):CO 45 [.agg (d30 x0),.agg (d39 x1)] [] (.tup [.agg [.os 0,.os 1,.os 2,.os 3],.d (I r.2)]) (zp r.1 []):=by
 unfold F45 at h
 refine co 17 Tryz.func45 λ C hC=>?_
 obtain⟨y1,h2,h⟩:=Az h
 refine wn Axl 28 [] [pc e62 (k62 x0 x1 _ h2) []] [.ownb 2 0 4 1,.ownb 2 1 93 4,.ownb 2 2 3 1,.ownb 2 3 96 2] 0 n7_ [2,3,4,5,6,11] hC [] ?_
 rcases cB h with⟨h3,h⟩ | ⟨h3,h⟩
 ·replace h:=sI h
  subst h
  exact wr Axl 24 [true] [] [.ownb 2 0 4 1,.ownb 2 1 93 4,.ownb 2 2 3 1,.ownb 2 3 96 2] 0 [7,8,9,10] hC [pq h3]
 ·obtain⟨y4,h5,h⟩:=Az h
  replace h:=sI h
  subst h
  exact wr Axl 25 [false] [pc e63 (k63 x0 x1 _ h5) []] [] 0 [7,8,9,10] hC [pq h3]
theorem e45:EN 45:=en Tryz.func45
def Zv:List Nat:=[0,1,2,3,4,5,6,7,8,9,10,20,22,23,49]
theorem A76 (x0:Aa) (x1:Ab) (x2:Ai) (r:Bool) (h:Ajp x0 x1 x2=some r):CO 200 [.agg (d30 x0),.agg (d39 x1),.agg (d70 x2)] [] (.d (Bo r)) []:=by
 unfold Ajp at h
 refine co 64 Tryz.func200 λ C hC=>?_
 obtain⟨y1,h2,h⟩:=Az h
 refine wn Zv 28 [] [pc Aot (Aod x0 x1 x2.A _ h2) []] [] 0 n3_ [3,4,5,6,7,20] hC [] ?_
 rcases cB h with⟨h3,h⟩ | ⟨h3,h⟩
 ·replace h:=sI h
  subst h
  exact wr Zv 24 [true] [] [] 0 [] hC [pq h3]
 ·rcases cB h with⟨h4,h⟩ | ⟨h4,h⟩
  ·obtain⟨y5,h6,y7,h8,y9,h10,h⟩:=B3 h
   replace h:=sI h
   subst h
   exact wr Zv 34 [false,true] [pc Aot (Aod x0 x1 x2.B _ h6) [],pR q93 h8,pR q93 h10,⟨.when [(!y5.2,false)] (.call 210 [.agg (d30 x0),.agg (d93 y7),.agg (d93 y9)] [] (dB (Ajn x0 y7 y9)) [] []),λ hg=>⟨A4m,(A27 x0 y7 y9 _ rfl)⟩⟩] [] 0 [] hC [pq h3,pq h4]
  ·rcases cB h with⟨h11,h⟩ | ⟨h11,h⟩
   ·obtain⟨y12,h13,y14,h15,h⟩:=Bc h
    replace h:=sI h
    subst h
    exact wr Zv 35 [false,false,true] [pr q93 h13,pr q93 h15,pc A4m (A27 x0 y12 y14 _ rfl) []] [] 0 [] hC [pq h3,pq h4,pq h11]
   ·replace h:=sI h
    subst h
    exact wr Zv 37 [false,false,false] [] [] 0 [] hC [pq h3,pq h4,pq h11]
theorem A87:EN 200:=en Tryz.func200
def Nv:List Nat:=[0,1,2,3,4,5,8,9,10,11,12,13,14,15,16,17,23,44,63,76]
theorem A8k (x0:Aa) (x1:Ab) (x2:Int) (x3:Int) (r:Ab×Int) (h:Ajy x0 x1 x2 x3=some r):CO 138 [.agg (d30 x0),.agg (d39 x1),.d (I x2),.d (I x3)] [] (.tup [.agg [.os 0,.os 1,.os 2,.os 3],.d (I r.2)]) (zp r.1 []):=by
 unfold Ajy at h
 refine co 95 Tryz.func138 λ C hC=>?_
 obtain⟨y1,h2,h⟩:=Az h
 refine wn Nv 28 [] [pc e65 (k65 x0 x1 _ h2) []] [.ownb 2 0 4 1,.ownb 2 1 93 4,.ownb 2 2 3 1,.ownb 2 3 96 2] 0 n7_ [2,3,4,5,8,9,10,23] hC [] ?_
 rcases cB h with⟨h3,h⟩ | ⟨h3,h⟩
 ·replace h:=sI h
  subst h
  exact wr Nv 24 [true] [] [.ownb 2 0 4 1,.ownb 2 1 93 4,.ownb 2 2 3 1,.ownb 2 3 96 2] 0 [7,8,9,10] hC [pq h3]
 ·rcases cB h with⟨h4,h⟩ | ⟨h4,h⟩
  ·replace h:=sI h
   subst h
   exact wr Nv 29 [false,true] [pL_ [(decide (x2<0),false)] q72 x0.Ac] [.ownb 2 0 4 1,.ownb 2 1 93 4,.ownb 2 2 3 1,.ownb 2 3 96 2] 0 [7,8,9,10] hC [pq h3,pq h4]
  ·obtain⟨y5,h6,y7,h8,h⟩:=Bc h
   refine wn Nv 33 [false,false] [pL_ [(decide (x2<0),false)] q72 x0.Ac,pc Aot (Aod x0 x1 x3 _ h6) [],pR q93 h8] [] 0 n7_ [2,4,5,8,9,11,63] hC [pq h3,pq h4] ?_
   rcases cB h with⟨h9,h⟩ | ⟨h9,h⟩
   ·replace h:=sI h
    subst h
    exact wr Nv 24 [true] [] [.ownb 2 0 4 1,.ownb 2 1 93 4,.ownb 2 2 3 1,.ownb 2 3 96 2] 0 [7,8,9,10] hC [pq h9]
   ·obtain⟨y10,h11,y12,h13,h⟩:=Bc h
    refine wn Nv 32 [false] [pc e66 (k66 x1 _ h11) [],pc A4z (A3k x0 x1 x2 _ h13) []] [] 0 Fo [4,5,8,9,11,13,14,15,76] hC [pq h9] ?_
    rcases cB h with⟨h14,h⟩ | ⟨h14,h⟩
    ·obtain⟨y15,h16,y17,h18,y19,h20,h⟩:=B3 h
     replace h:=sI h
     subst h
     exact wr Nv 29 [true] [pc Tp (S5 x0 x1 y12.1 _ h16) [],pr q93 h18,pc Aor (Aob y10 y15.1.Ac y17 _ h20) [7,8,9,10]] [] 0 [7,8,9,10] hC [pq h14]
    ·obtain⟨y21,h22,y23,h24,h⟩:=Bc h
     replace h:=sI h
     subst h
     exact wr Nv 27 [false] [pr q93 h22,pc Aor (Aob y10 [x2] y21 _ h24) [7,8,9,10]] [] 0 [7,8,9,10] hC [pq h14]
theorem A9l:EN 138:=en Tryz.func138
theorem A3o (x0:Ai) (x1:Ay) (r:Bool×Ay) (h:Uq x0 x1=some r):CO 158 [.agg (d70 x0),.d (.o 0 0)] (.box 190 [.o 1 0] :: .box 214 (zb x1.Al [.os 2,.os 3,.os 4,.os 5,.os 6])::zp x1.Au [v6_ x1.acts]) (.d (Bo r.1)) (.box 190 [.o 1 0] :: .box 214 (zb r.2.Al [.os 2,.os 3,.os 4,.os 5,.os 6])::zp r.2.Au [v6_ r.2.acts]):=by
 unfold Uq at h
 refine co 21 Tryz.func158 λ C hC=>?_
 obtain⟨y1,h2,h⟩:=Az h
 replace h:=sI h
 subst h
 exact wr n4_ 25 [] [pv Ayh (λ hg=>Axy x1.Al x1.Au x0.A _ (Ba h2 hg))] [] 7 n7_ hC []
theorem A43:EN 158:=en Tryz.func158
theorem As8 (x0:Ay) (x1:Int) (r:Int) (h:Pj x0 x1=some r):CO 193 [.d (.ip [.v (.int .i64 x0.Al.An),.s (x0.Al.Ad.map q70),.s (x0.Al.Ac.map q72),.s (x0.Al.Ae.map q81),.v (.int .i64 x0.Al.Phase),.v (.int .i64 x0.Al.Aq),.s (x0.Au.Ag.map pB),.s (x0.Au.Ac.map q93),.s (x0.Au.Ap.map pI),.s (x0.Au.Am.map q96),.s (x0.acts.map q63)]),.d (I x1)] [] (.d (I r)) []:=by
 unfold Pj at h
 refine co 27 Tryz.func193 λ C hC=>?_
 obtain⟨y1,h2,y3,h4,h⟩:=Bc h
 replace h:=sI h
 subst h
 exact wr [0,1,4] 25 [] [pc Aye (Axv x0.Al x0.Au x1 _ h2) [],pc Ayf (Axw x0.Al x0.Au x1 _ h4) []] [] 0 [] hC []
theorem At2:EN 193:=en Tryz.func193
def Lf:List Nat:=[0,1,2,3,4,5,6,7,8,9,10,13,14,30,33,34,35,40,61]
def Aij (x0:Aa) (x1:A5) (x2:Ab) (x3:Int) (z0:Unit):List Res:=[.box 30 (d30 x0),.box 33 (d33 x1),.box 39 (d39 x2),.box 3 [I x3],.box 3 [I 0],.box 4 [Bo false],.non]
def Amn (x0:Aa) (x1:A5) (x2:Ab) (x3:Int) (v129_0:Int×Bool):List Res:=[.box 30 (d30 x0),.box 33 (d33 x1),.box 39 (d39 x2),.box 3 [I x3],.box 3 [I v129_0.1],.box 4 [Bo v129_0.2],.non]
theorem A8p (x0:Aa) (x1:A5) (x2:Ab) (x3:Int) (r:Int×Bool) (h:Aj3 x0 x1 x2 x3=some r):CO 129 [.agg (d30 x0),.agg (d33 x1),.agg (d39 x2),.d (I x3)] [] (.tup [.d (I r.1),.d (Bo r.2)]) []:=by
 unfold Aj3 at h
 refine co 63 Tryz.func129 λ C hC=>?_
 obtain⟨y1,h2,h⟩:=Az h
 refine wn Lf 28 [] [pc Tp (S5 x0 x2 x3 _ h2) [],pc e49 (k49 x1 _ rfl) [],pL_ [(!(F49 x1),false)] pI y1.1.Ac] [] 0 n7_ [4,5,6,7,8,9,10,30] hC [] ?_
 rcases cB h with⟨h3,h⟩ | ⟨h3,h⟩
 ·replace h:=sI h
  subst h
  exact wr Lf 24 [true] [] [] 0 [] hC [pq h3]
 ·refine ws Lf 27 [false] [pc A9f (A8e y1.1.Ac) []] [] 0 [0,1,2,3,4,5,7] [(4,dO 0 0),(5,dO 1 0),(6,dO 2 0),(7,dO 3 0),(8,dO 4 0),(9,dO 5 0),(33,.d (.fn (.func 197) [] [.o 6 0]))] [.box 30 (d30 x0),.box 33 (d33 x1),.box 39 (d39 x2),.box 3 [I x3],.box 3 [I 0],.box 4 [Bo false],.box 22 [DS pI y1.1.Ac]] hC [pq h3] ?_
  obtain⟨w0,hm0,hret0,hnext0⟩:=As h
  clear h
  refine Ay2 (by kernel_rfl) (t:=33) (d:=13) (p:=35) (gf:=197) (j:=6) (ty:=22) V6 (bw y1.1.Ac) (Wm x0 x1 x2 x3) (Aij x0 x1 x2 x3) (Amn x0 x1 x2 x3) w0 () (λ a0=>dI a0.2) hm0 (A2e y1.1.Ac) (by kernel_rfl) (by kernel_rfl) (by kernel_rfl) (by kernel_rfl) (by kernel_rfl) [(4,dO 0 0),(5,dO 1 0),(6,dO 2 0),(7,dO 3 0),(8,dO 4 0),(9,dO 5 0)] (by kernel_rfl) (by kernel_rfl) (A7m (a:=34) (b:=35) (by kernel_rfl)) (A53 34 35 (by kernel_rfl) (by decide) (by decide)) (by decide) rfl (dx rfl) 7 (by kernel_rfl) (aJ hC (bm rfl)) (λ C2 z0 hh hup2 hs0=>?_) (λ C2 v129_0 hh hup2 hr0 a w hsR=>?_) (λ l C' a0 z0 w0b hlen hdf h hkr=>?_)
  ·have hC:C2.h.length<=0:=by rw [hh];exact hC
   have h:=hnext0 _ hs0
   replace h:=sI h
   subst h
   exact Amm (bs:=[]) mixed Lf 24 [] [] [] [.cell 8 3,.cell 9 4] 0 [] rfl hC trivial trivial (by kernel_rfl) hup2
  ·have hC:C2.h.length<=0:=by rw [hh];exact hC
   have h:=hret0 _ hr0
   replace h:=sI h
   subst h
   exact hsR.retM [] [.cell 8 3,.cell 9 4] 0 [] rfl hC (by kernel_rfl) hup2
  ·have hC:C'.h.length<=7:=hlen
   unfold Wm at h
   obtain⟨y4,h5,y6,h7,h⟩:=Bc h
   refine wn Lf 25 [] [pc Aou (Aoe x0 a0.2 _ h5) [],pc K4 (K2 x2 2 y4 _ h7) []] [] 7 n7_ [4,5,6,7,8,9,13,40] hC [] ?_
   rcases cB h with⟨h8,h⟩ | ⟨h8,h⟩
   ·exact wx w0b (λ _=>[]) (Aij x0 x1 x2 x3) Lf 23 [true] [] [] 7 n7_ _ hC [pq h8] (sI h).symm
   ·obtain⟨y9,h10,y11,h12,y13,h14,h⟩:=B3 h
    refine wn Lf 27 [false] [pc Ayf (Axw x0 x2 x3 _ h10) [],pr q72 h12,pc Aye (Axv x0 x2 x3 _ h14) []] [] 7 n7_ [8,9,13,61] hC [pq h8] ?_
    rcases cB h with⟨h15,h⟩ | ⟨h15,h⟩
    ·exact A2n (bs:=[((Aup x1 y9 y11 y13),true)]) (Rr:=(Amn x0 x1 x2 x3)) mixed Lf 24 [true] [] [] 7 n7_ (a0.2,true) hC trivial ⟨h15,trivial⟩ (by kernel_rfl) (sI h).symm
    ·exact wx w0b (λ _=>[]) (Aij x0 x1 x2 x3) Lf 24 [false] [] [] 7 n7_ _ hC [pq h15] (sI h).symm
theorem A9q:EN 129:=en Tryz.func129
theorem A8o (x0:Aa) (x1:A5) (x2:Ab) (x3:Int) (r:Bool) (h:Aj2 x0 x1 x2 x3=some r):CO 131 [.agg (d30 x0),.agg (d33 x1),.agg (d39 x2),.d (I x3)] [] (.d (Bo r)) []:=by
 unfold Aj2 at h
 refine co 32 Tryz.func131 λ C hC=>?_
 obtain⟨y1,h2,y3,h4,y5,h6,h⟩:=B3 h
 replace h:=sI h
 subst h
 exact wr [0,1,2,3,4,5,6,8] 25 [] [pc e49 (k49 x1 _ rfl) [],pw Ayh (λ hg=>Axy x0 x2 x3 _ (Ba h2 hg)) [],pw Aye (λ hg=>Axv x0 x2 x3 _ (Ba h4 hg)) [],pw Ayf (λ hg=>Axw x0 x2 x3 _ (Ba h6 hg)) []] [] 0 [] hC []
theorem A9p:EN 131:=en Tryz.func131
def vY:List Nat:=[0,1,2,3,4,5,8,9,10,12,19,20,25]
theorem A31 (x0:Aa) (x1:Ab) (x2:Int) (x3:Int) (r:(List Ao)×Bool) (h:U3 x0 x1 x2 x3=some r):CO 133 [.agg (d30 x0),.agg [.os 0,.os 1,.os 2,.os 3],.d (I x2),.d (I x3)] (zp x1 []) (.tup [.d (DS q63 r.1),.d (Bo r.2)]) (zp x1 []):=by
 unfold U3 at h
 refine co 49 Tryz.func133 λ C hC=>?_
 obtain⟨y1,h2,h⟩:=Az h
 rcases cB h with⟨h3,h⟩ | ⟨h3,h⟩
 ·replace h:=sI h
  subst h
  exact wr vY 32 [true] [pr q93 h2,pn q93 h2] [] 4 n4_ hC [pq h3]
 ·rcases cB h with⟨h4,h⟩ | ⟨h4,h⟩
  ·obtain⟨y5,h6,y7,h8,y9,h10,h⟩:=B3 h
   replace h:=sI h
   subst h
   exact wr vY 39 [false,true] [pr q93 h2,pn q93 h2,pb Aot (Aod x0 x1 x2 _ h6),pb A4z (A3k x0 x1 y5.1 _ h8),pc Aou (Aoe x0 x3 _ h10) []] [] 4 n4_ hC [pq h3,pq h4]
  ·replace h:=sI h
   subst h
   exact wr vY 37 [false,false] [pr q93 h2,pn q93 h2] [] 4 n4_ hC [pq h3,pq h4]
theorem A5g:EN 133:=en Tryz.func133
theorem A6x (x0:Aj) (x1:Aa) (r:Ab×Aj) (h:qS x0 x1=some r):CO 28 [.d (.o 0 0),.agg [I x1.An,.os 1,.os 2,.os 3,I x1.Phase,I x1.Aq]] (.box 77 (d77 x0)::zs x1 []) (.agg [.os 4,.os 5,.os 6,.os 7]) (.box 77 (d77 r.2)::zs x1 (zp r.1 [])):=by
 unfold qS at h
 refine co 16 Tryz.func28 λ C hC=>?_
 obtain⟨y1,h2,y3,h4,h⟩:=Bc h
 replace h:=sI h
 subst h
 exact wr [0,1,3,4,5] 27 [] [⟨.flts [.box 39 [.p (.v (.slice none 0 0)),.p (.v (.slice none 0 0)),.p (.v (.slice none 0 0)),.p (.v (.slice none 0 0))]],trivial⟩,pc A7e (A6w x0 x1 _ h2) n4_,⟨.call 45 [.agg [I x1.An,.os 0,.os 1,.os 2,I x1.Phase,I x1.Aq],.agg [.os 3,.os 4,.os 5,.os 6]] (zs x1 (zp y1.1 [])) (.tup [.agg [.os 7,.os 8,.os 9,.os 10],dI y3.2]) (zs x1 (zp y1.1 (zp y3.1 []))) [1,2,3,7,8,9,10],⟨e45,((k45 x1 y1.1 _ h4).lend (by kernel_rfl) (by kernel_rfl) (by kernel_rfl) ⟨Be (λ _=>rfl),Be (λ _=>rfl),Be (λ _=>rfl),Be (λ _=>rfl),trivial⟩ (by kernel_rfl) (by kernel_rfl))⟩⟩,⟨.flt 6 (.box 39 [.p (.v (.slice none 0 0)),.p (.v (.slice none 0 0)),.p (.v (.slice none 0 0)),.p (.v (.slice none 0 0))]) (.box 39 [.p (.v (.slice none 0 0)),.p (.v (.slice none 0 0)),.p (.v (.slice none 0 0)),.p (.v (.slice none 0 0))]),rfl⟩] [] 4 [0,1,2,3,11,12,13,14] hC []
theorem A7f:EN 28:=en Tryz.func28
def Nu:List Nat:=[0,1,2,3,4,6,7,8,9,11,15,19,29,66]
theorem A8c (x0:Aa) (x1:Ab) (x2:Int) (r:Int) (h:Ajs x0 x1 x2=some r):CO 174 [.agg (d30 x0),.agg (d39 x1),.d (I x2)] [] (.d (I r)) []:=by
 unfold Ajs at h
 refine co 67 Tryz.func174 λ C hC=>?_
 obtain⟨y1,h2,h⟩:=Az h
 refine wn Nu 29 [] [pc e65 (k65 x0 x1 _ h2) []] [] 0 [0,1] [2,3,4,6,7,15] hC [] ?_
 rcases cB h with⟨h3,h⟩ | ⟨h3,h⟩
 ·replace h:=sI h
  subst h
  exact wr Nu 24 [true] [] [] 0 [] hC [pq h3]
 ·rcases cB h with⟨h4,h⟩ | ⟨h4,h⟩
  ·replace h:=sI h
   subst h
   exact wr Nu 27 [false,true] [pL_ [(decide (x2<0),false)] q70 x0.Ad] [] 0 [] hC [pq h3,pq h4]
  ·obtain⟨y5,h6,h⟩:=Az h
   refine wn Nu 27 [false,false] [pL_ [(decide (x2<0),false)] q70 x0.Ad,pc A88 (A77 x0 x1 x2 _ h6) []] [] 0 [0,1] [2,3,4,6,29] hC [pq h3,pq h4] ?_
   rcases cB h with⟨h7,h⟩ | ⟨h7,h⟩
   ·replace h:=sI h
    subst h
    exact wr Nu 24 [true] [] [] 0 [] hC [pq h7]
   ·obtain⟨y8,h9,y10,h11,y12,h13,y14,h15,h⟩:=Cv h
    refine wn Nu 33 [false] [pr q70 h9,pc Tp (S5 x0 x1 y8.A _ h11) [],pw X7 (λ hg=>X1 y10.1.An y8.B _ (Ba h13 hg)) [],pw A87 (λ hg=>A76 x0 x1 y8 _ (Ba h15 hg)) []] [] 0 [] [6,66] hC [pq h7] ?_
    rcases cB h with⟨h16,h⟩ | ⟨h16,h⟩
    ·replace h:=sI h
     subst h
     exact wr Nu 24 [true] [] [] 0 [] hC [pq h16]
    ·replace h:=sI h
     subst h
     exact wr Nu 25 [false] [] [] 0 [] hC [pq h16]
theorem A9d:EN 174:=en Tryz.func174
def Hj:List Nat:=[0,1,4,5,6,8,13,14,15,16,32,38,39,40,41]
def Nh (x0:Ay) (n0:Nat) (z0:Sg8):St:=[(0,dO 0 0),(1,.d (.fn (.func 158) [] [.o 6 0])),(4,dS 7),(13,.d (DS q70 x0.Al.Ad)),(14,dI (ln x0.Al.Ad)),(15,dI (cnt 0 n0))]
def Q2  (n0:Nat) (z0:Sg8):List Res:=[.box 214 [I z0.1,DS q70 z0.2.1,DS q72 z0.2.2.1,DS q81 (g3_ z0),I (g4_ z0),I (g5_ z0),.os 8,.os 9,.os 10,.os 11,.os 12],.non,.non,.non,.non,.non,.box 190 [.o 0 0],v0_ (g6_ z0),v2_ (g7_ z0),v4_ (g8_ z0),v0_ (g9_ z0),v3_ (Dp z0),v6_ (Ie z0)]
def Aa2  (z0:Sg8):St:=[(0,dO 0 0),(4,dS 7)]
def Ab7  (z0:Sg8):List Res:=[.box 214 [I z0.1,DS q70 z0.2.1,DS q72 z0.2.2.1,DS q81 (g3_ z0),I (g4_ z0),I (g5_ z0),.os 8,.os 9,.os 10,.os 11,.os 12],.non,.non,.non,.non,.non,.box 190 [.o 0 0],v0_ (g6_ z0),v2_ (g7_ z0),v4_ (g8_ z0),v0_ (g9_ z0),v3_ (Dp z0),v6_ (Ie z0)]
def Sf (z0:Sg8) (n1:Nat) (z1:Sg7):St:=[(0,dO 0 0),(38,dS 7),(39,dI (ln (g6_ z0))),(40,dI (cnt 0 n1))]
def Yq (z0:Sg8) (n1:Nat) (z1:Sg7):List Res:=[.box 214 [I z1.1,DS q70 z1.2.1,DS q72 z1.2.2.1,DS q81 (g3_ z1),I (g4_ z1),I (g5_ z1),.os 8,.os 9,.os 10,.os 11,.os 12],.non,.non,.non,.non,.non,.box 190 [.o 0 0],v0_ (g6_ z0),v2_ (g6_ z1),v4_ (g7_ z1),v0_ (g8_ z1),v3_ (g9_ z1),v6_ (Fu z1)]
def Aa1  (z1:Sg7):St:=[]
def Ab6  (z1:Sg7):List Res:=[.box 214 [I z1.1,DS q70 z1.2.1,DS q72 z1.2.2.1,DS q81 (g3_ z1),I (g4_ z1),I (g5_ z1),.os 7,.os 8,.os 9,.os 10,.os 11],.non,.non,.non,.non,.non,.box 190 [.o 0 0],v2_ (g6_ z1),v4_ (g7_ z1),v0_ (g8_ z1),v3_ (g9_ z1),v6_ (Fu z1)]
theorem A3r (x0:Ay) (r:Ay) (h:Uv x0=some r):CO 156 [.d (.o 0 0),.d (.fn (.func 158) [] [.o 6 0])] (.box 214 (zb x0.Al [.os 1,.os 2,.os 3,.os 4,.os 5])::zp x0.Au [v6_ x0.acts,.box 190 [.o 0 0]]) (.tup []) (.box 214 (zb r.Al [.os 7,.os 8,.os 9,.os 10,.os 11]) :: .non :: .non :: .non :: .non :: .non :: .box 190 [.o 0 0]::zp r.Au [v6_ r.acts]):=by
 unfold Uv at h
 refine co 48 Tryz.func156 λ C hC=>?_
 refine ws Hj 26 [] [pl q70 x0.Al.Ad] [.own 4 3 1,.mv 1,.mv 2,.mv 3,.mv 4,.mv 5] 7 H7 (Nh x0 0 (zt x0.Al (([]:List Int),zu x0.Au x0.acts))) (Q2 0 (zt x0.Al (([]:List Int),zu x0.Au x0.acts))) hC [] ?_
 obtain⟨w0,hm0,hret0,hnext0⟩:=As h
 clear h
 refine wc w0 (Aa2) (Ab7) ?_ λ z0 hs0=>?_
 ·refine wb ?_
  refine Bt 13 rfl λ hl0=>?_
  refine wl (Nh x0) (Q2) hm0 (λ z0 hn0=>?_) λ n0 a0 z0 w0b hi0 hx0 h hb0 hr0=>?_
  ·clear hm0
   exact wx w0 (Aa2) (Ab7) Hj 26 [false] [] [] 7 H7 _ hC [pq (Bf hl0)] hn0
  ·unfold Uu at h
   obtain⟨y1,h2,y3,h4,h⟩:=Bc h
   refine wn Hj 32 [true] [pt hx0 hl0,pr pB h2,pn pB h2,⟨.whenR [(y1,true)] (.call 158 [.agg (d70 a0),dO 0 0] [.box 190 [.o 1 0],.box 214 [I z0.1,DS q70 z0.2.1,DS q72 z0.2.2.1,DS q81 (g3_ z0),I (g4_ z0),I (g5_ z0),.os 2,.os 3,.os 4,.os 5,.os 6],v2_ (g7_ z0),v4_ (g8_ z0),v0_ (g9_ z0),v3_ (Dp z0),v6_ (Ie z0)] (dB y3.1) (.box 190 [.o 1 0] :: .box 214 (zb y3.2.Al [.os 2,.os 3,.os 4,.os 5,.os 6])::zp y3.2.Au [v6_ y3.2.acts]) [6,0,8,9,10,11,12]),⟨λ hg=>⟨A43,(A3o a0 (⟨(⟨z0.1,z0.2.1,z0.2.2.1,(g3_ z0),(g4_ z0),(g5_ z0)⟩:Aa),(⟨(g7_ z0),(g8_ z0),(g9_ z0),(Dp z0)⟩:Ab),(Ie z0)⟩:Ay) _ (Ba h4 hg))⟩,λ hg=>by have e:=Hu h4 hg;subst e;rfl⟩⟩] [] 7 H7 [0,1,4,5,13,14,15,32] hC [pq (A9 hi0 hl0)] ?_
   rcases cB h with⟨h5,h⟩ | ⟨h5,h⟩
   ·obtain⟨y6,h7,h⟩:=Az h
    exact wx w0b (Nh x0 (n0+1)) (Q2 (n0+1)) Hj 25 [true] [pa pI 1 h7] [] 7 [0,1,2,3,4,5,6,13,8,9,10,11,12] _ hC [pq h5] (sI h).symm
   ·exact wx w0b (Nh x0 (n0+1)) (Q2 (n0+1)) Hj 25 [false] [] [] 7 H7 _ hC [pq h5] (sI h).symm
 ·have h:=hnext0 _ hs0
  refine ws Hj 23 [] [pl pI (g6_ z0)] [] 7 H7 (Sf z0 0 (z0.1,z0.2.1,z0.2.2.1,(g3_ z0),(g4_ z0),(g5_ z0),(g7_ z0),(g8_ z0),(g9_ z0),(Dp z0),(Ie z0))) (Yq z0 0 (z0.1,z0.2.1,z0.2.2.1,(g3_ z0),(g4_ z0),(g5_ z0),(g7_ z0),(g8_ z0),(g9_ z0),(Dp z0),(Ie z0))) hC [] ?_
  obtain⟨w1,hm1,hret1,hnext1⟩:=As h
  clear h
  refine wc w1 (Aa1) (Ab6) ?_ λ z1 hs1=>?_
  ·refine wb ?_
   refine Cm 38 7 rfl rfl λ hl1=>?_
   refine wl (Sf z0) (Yq z0) hm1 (λ z1 hn1=>?_) λ n1 a1 z1 w1b hi1 hx1 h hb1 hr1=>?_
   ·clear hm1
    exact wx w1 (Aa1) (Ab6) Hj 26 [false] [] [] 7 [0,1,2,3,4,5,6,8,9,10,11,12] _ hC [pq (Bf hl1)] hn1
   ·unfold Ach at h
    obtain⟨y8,h9,h⟩:=Az h
    exact wx w1b (Sf z0 (n1+1)) (Yq z0 (n1+1)) Hj 33 [true] [pr pI (Bp hx1 hl1),pn pI (Bp hx1 hl1),pc Ag1 (Af8 (⟨(⟨z1.1,z1.2.1,z1.2.2.1,(g3_ z1),(g4_ z1),(g5_ z1)⟩:Aa),(⟨(g6_ z1),(g7_ z1),(g8_ z1),(g9_ z1)⟩:Ab),(Fu z1)⟩:Ay) a1 _ h9) [0,8,9,10,11,12]] [] 7 [0,1,2,3,4,5,6,7,8,9,10,11,13] _ hC [pq (A9 hi1 hl1)] (sI h).symm
  ·have h:=hnext1 _ hs1
   replace h:=sI h
   subst h
   exact wf Hj 20 [] [] [] 7 Fo hC []
theorem A46:EN 156:=en Tryz.func156
def Lw:List Nat:=[0,1,2,7,8,9,10,11,12,38]
def Nc (x1:List Int) (x2:Int) (n0:Nat) (z0:(List Int)×(List Ao)):St:=[(0,dO 0 0),(2,dI x2),(9,dS 6),(10,dI (ln x1)),(11,dI (cnt 0 n0))]
def Qz (x0:Ay) (x1:List Int) (n0:Nat) (z0:(List Int)×(List Ao)):List Res:=[.box 214 (zb x0.Al [.os 7,.os 8,.os 9,.os 10,.os 11]),.non,.non,.non,.non,.non,v0_ x1,v2_ x0.Au.Ag,v4_ x0.Au.Ac,v0_ z0.1,v3_ x0.Au.Am,v6_ z0.2]
def Aax  (z0:(List Int)×(List Ao)):St:=[]
def Ab2 (x0:Ay) (x1:List Int) (z0:(List Int)×(List Ao)):List Res:=[.box 214 (zb x0.Al [.os 7,.os 8,.os 9,.os 10,.os 11]),.non,.non,.non,.non,.non,v0_ x1,v2_ x0.Au.Ag,v4_ x0.Au.Ac,v0_ z0.1,v3_ x0.Au.Am,v6_ z0.2]
theorem A3m (x0:Ay) (x1:List Int) (x2:Int) (r:Ay) (h:Pm x0 x1 x2=some r):CO 162 [.d (.o 0 0),.d (.os 6),.d (I x2)] (.box 214 (zb x0.Al [.os 1,.os 2,.os 3,.os 4,.os 5])::zp x0.Au [v6_ x0.acts,v0_ x1]) (.tup []) (.box 214 (zb r.Al [.os 7,.os 8,.os 9,.os 10,.os 11]) :: .non :: .non :: .non :: .non :: .non::v0_ x1::zp r.Au [v6_ r.acts]):=by
 unfold Pm at h
 refine co 70 Tryz.func162 λ C hC=>?_
 refine ws Lw 23 [] [pl pI x1] [.mv 1,.mv 2,.mv 3,.mv 4,.mv 5] 7 Fo (Nc x1 x2 0 (x0.Au.Ap,x0.acts)) (Qz x0 x1 0 (x0.Au.Ap,x0.acts)) hC [] ?_
 obtain⟨w0,hm0,hret0,hnext0⟩:=As h
 clear h
 refine wc w0 (Aax) (Ab2 x0 x1) ?_ λ z0 hs0=>?_
 ·refine wb ?_
  refine Cm 9 6 rfl rfl λ hl0=>?_
  refine wl (Nc x1 x2) (Qz x0 x1) hm0 (λ z0 hn0=>?_) λ n0 a0 z0 w0b hi0 hx0 h hb0 hr0=>?_
  ·clear hm0
   exact wx w0 (Aax) (Ab2 x0 x1) Lw 26 [false] [] [] 7 Fo _ hC [pq (Bf hl0)] hn0
  ·unfold Um at h
   obtain⟨y1,h2,y3,h4,y5,h6,h⟩:=B3 h
   refine wn Lw 34 [true] [pr pI (Bp hx0 hl0),pn pI (Bp hx0 hl0),pb At2 (As8 (⟨x0.Al,(⟨x0.Au.Ag,x0.Au.Ac,z0.1,x0.Au.Am⟩:Ab),z0.2⟩:Ay) x2 _ h2),pr pI h4,pn pI h4,pr q81 h6] [] 7 Fo [0,2,7,8,9,10,11,38] hC [pq (A9 hi0 hl0)] ?_
   rcases cB h with⟨h7,h⟩ | ⟨h7,h⟩
   ·obtain⟨y8,h9,y10,h11,y12,h13,h⟩:=B3 h
    exact wx w0b (Nc x1 x2 (n0+1)) (Qz x0 x1 (n0+1)) Lw 27 [true] [pr pI h4,pn pI h4,pr pI h4,pu pI h4 h9,pr pI h11,pn pI h11,pa q63 3 h13] [] 7 [0,1,2,3,4,5,6,7,8,9,10,12] _ hC [pq h7] (sI h).symm
   ·exact wx w0b (Nc x1 x2 (n0+1)) (Qz x0 x1 (n0+1)) Lw 25 [false] [] [] 7 Fo _ hC [pq h7] (sI h).symm
 ·have h:=hnext0 _ hs0
  replace h:=sI h
  subst h
  exact wf Lw 20 [] [] [] 7 Fo hC []
theorem A41:EN 162:=en Tryz.func162
def Lv:List Nat:=[0,1,2,7,8,9,10,11,28]
def Nb (x1:List Int) (x2:Int) (n0:Nat) (z0:Sg7):St:=[(0,dO 0 0),(2,dI x2),(8,dS 6),(9,dI (ln x1)),(10,dI (cnt 0 n0))]
def Qy (x1:List Int) (n0:Nat) (z0:Sg7):List Res:=[.box 214 [I z0.1,DS q70 z0.2.1,DS q72 z0.2.2.1,DS q81 (g3_ z0),I (g4_ z0),I (g5_ z0),.os 7,.os 8,.os 9,.os 10,.os 11],.non,.non,.non,.non,.non,v0_ x1,v2_ (g6_ z0),v4_ (g7_ z0),v0_ (g8_ z0),v3_ (g9_ z0),v6_ (Fu z0)]
def Aaw  (z0:Sg7):St:=[]
def Ab1 (x1:List Int) (z0:Sg7):List Res:=[.box 214 [I z0.1,DS q70 z0.2.1,DS q72 z0.2.2.1,DS q81 (g3_ z0),I (g4_ z0),I (g5_ z0),.os 7,.os 8,.os 9,.os 10,.os 11],.non,.non,.non,.non,.non,v0_ x1,v2_ (g6_ z0),v4_ (g7_ z0),v0_ (g8_ z0),v3_ (g9_ z0),v6_ (Fu z0)]
theorem A3l (x0:Ay) (x1:List Int) (x2:Int) (r:Ay) (h:Pl x0 x1 x2=some r):CO 163 [.d (.o 0 0),.d (.os 6),.d (I x2)] (.box 214 (zb x0.Al [.os 1,.os 2,.os 3,.os 4,.os 5])::zp x0.Au [v6_ x0.acts,v0_ x1]) (.tup []) (.box 214 (zb r.Al [.os 7,.os 8,.os 9,.os 10,.os 11]) :: .non :: .non :: .non :: .non :: .non::v0_ x1::zp r.Au [v6_ r.acts]):=by
 unfold Pl at h
 refine co 33 Tryz.func163 λ C hC=>?_
 refine ws Lv 23 [] [pl pI x1] [.mv 1,.mv 2,.mv 3,.mv 4,.mv 5] 7 Fo (Nb x1 x2 0 (zt x0.Al (zu x0.Au x0.acts))) (Qy x1 0 (zt x0.Al (zu x0.Au x0.acts))) hC [] ?_
 obtain⟨w0,hm0,hret0,hnext0⟩:=As h
 clear h
 refine wc w0 (Aaw) (Ab1 x1) ?_ λ z0 hs0=>?_
 ·refine wb ?_
  refine Cm 8 6 rfl rfl λ hl0=>?_
  refine wl (Nb x1 x2) (Qy x1) hm0 (λ z0 hn0=>?_) λ n0 a0 z0 w0b hi0 hx0 h hb0 hr0=>?_
  ·clear hm0
   exact wx w0 (Aaw) (Ab1 x1) Lv 26 [false] [] [] 7 Fo _ hC [pq (Bf hl0)] hn0
  ·unfold Ul at h
   obtain⟨y1,h2,y3,h4,h⟩:=Bc h
   refine wn Lv 32 [true] [pr pI (Bp hx0 hl0),pn pI (Bp hx0 hl0),pr pI h2,pn pI h2,pv At2 (λ hg=>As8 (⟨(⟨z0.1,z0.2.1,z0.2.2.1,(g3_ z0),(g4_ z0),(g5_ z0)⟩:Aa),(⟨(g6_ z0),(g7_ z0),(g8_ z0),(g9_ z0)⟩:Ab),(Fu z0)⟩:Ay) x2 _ (Ba h4 hg))] [] 7 H7 [0,2,7,8,9,10,28] hC [pq (A9 hi0 hl0)] ?_
   rcases cB h with⟨h5,h⟩ | ⟨h5,h⟩
   ·obtain⟨y6,h7,h⟩:=Az h
    exact wx w0b (Nb x1 x2 (n0+1)) (Qy x1 (n0+1)) Lv 25 [true] [pc A45 (A3q (⟨(⟨z0.1,z0.2.1,z0.2.2.1,(g3_ z0),(g4_ z0),(g5_ z0)⟩:Aa),(⟨(g6_ z0),(g7_ z0),(g8_ z0),(g9_ z0)⟩:Ab),(Fu z0)⟩:Ay) a0 _ h7) [0,7,8,9,10,11,12]] [] 7 [0,1,2,3,4,5,6,13,14,15,16,17] _ hC [pq h5] (sI h).symm
   ·exact wx w0b (Nb x1 x2 (n0+1)) (Qy x1 (n0+1)) Lv 25 [false] [] [] 7 Fo _ hC [pq h5] (sI h).symm
 ·have h:=hnext0 _ hs0
  replace h:=sI h
  subst h
  exact wf Lv 20 [] [] [] 7 Fo hC []
theorem A40:EN 163:=en Tryz.func163
def E8:List Nat:=[0,1,2,3,4,5,6,7,8,10,11,12,13,14,15,16,17,18,19,20,21,22,27,32,59,114,123,138]
def Sn (y6:Int×Bool) (y13:(List Ao)×Bool) (z0:Int):St:=[(6,dO 4 0),(7,dO 5 0),(10,dO 6 0),(11,dO 7 0),(12,dO 8 0),(13,.d (DS q63 [])),(14,dI 0),(17,dI y6.1),(21,.d (DS q63 y13.1))]
def T7 (x0:Aa) (x1:A5) (x2:Ab) (x4:Int) (x5:Av) (y6:Int×Bool) (z0:Int):List Res:=(zp x2 [.box 30 (d30 x0),.box 33 (d33 x1),.box 3 [I x4],.box 84 [I z0,I (Ir x5.Low y6.2 x4)],.box 84 [I 0,I 0]])
theorem A4b (x0:Aa) (x1:A5) (x2:Ab) (x3:Int) (x4:Int) (x5:Av) (r:Av×(List Ao)×Int) (h:U8 x0 x1 x2 x3 x4 x5=some r):CO 107 [.agg (d30 x0),.agg (d33 x1),.agg [.os 0,.os 1,.os 2,.os 3],.d (I x3),.d (I x4),.agg (d84 x5)] (zp x2 []) (.tup [.agg (d84 r.1),.d (DS q63 r.2.1),.d (I r.2.2)]) (zp x2 []):=by
 unfold U8 at h
 refine co 149 Tryz.func107 λ C hC=>?_
 obtain⟨y1,h2,h⟩:=Az h
 refine wn E8 31 [] [pb e65 (k65 x0 x2 _ h2)] [] 4 Gx [3,6,7,8,10,11,12,13,14,15,16,27] hC [] ?_
 rcases cB h with⟨h3,h⟩ | ⟨h3,h⟩
 ·replace h:=sI h
  subst h
  exact wr E8 24 [true] [] [] 4 n4_ hC [pq h3]
 ·refine wn E8 24 [false] [pc e49 (k49 x1 _ rfl) [],⟨.when [((((!(F49 x1)) || (decide (x4<0))) || (decide (x4>2147483648))),false)] (.callB 128 [dI x5.High,.d (.ip [.v (.int .i64 x4)])] (dB (Kx x5.High x4)) [[]] 0 []),λ hg=>Iz ⟨At5,(Atb x5.High x4 _ rfl)⟩⟩,⟨.when [(((((!(F49 x1)) || (decide (x4<0))) || (decide (x4>2147483648))) || (!(Kx x5.High x4))),false)] (.callB 128 [dI x5.Low,.d (.ip [.v (.int .i64 x4)])] (dB (Kx x5.Low x4)) [[]] 0 []),λ hg=>Iz ⟨At5,(Atb x5.Low x4 _ rfl)⟩⟩] [] 4 Gx [3,6,7,8,10,11,12,13,14,32] hC [pq h3] ?_
  rcases cB h with⟨h4,h⟩ | ⟨h4,h⟩
  ·replace h:=sI h
   subst h
   exact wr E8 24 [true] [] [] 4 n4_ hC [pq h4]
  ·rcases cB h with⟨h5,h⟩ | ⟨h5,h⟩
   ·replace h:=sI h
    subst h
    exact wr E8 27 [false,true] [] [] 4 n4_ hC [pq h4,pq h5]
   ·obtain⟨y6,h7,y8,h9,y10,h11,h⟩:=B3 h
    refine wn E8 36 [false,false] [pb A9q (A8p x0 x1 x2 x3 _ h7),pb A9p (A8o x0 x1 x2 x3 _ h9),pc A5h (A32 x5.High y8 x4 _ rfl) [],pc A5h (A32 x5.Low y6.2 x4 _ rfl) [],pb A9o (A8n x0 x2 x3 _ h11)] [] 4 Gx [3,6,7,8,10,11,12,13,14,17,19,114] hC [pq h4,pq h5] ?_
    rcases cB h with⟨h12,h⟩ | ⟨h12,h⟩
    ·obtain⟨y13,h14,h⟩:=Az h
     refine wn E8 27 [true] [pc A5g (A31 x0 x2 x3 y10.1 _ h14) n4_] [] 4 [0,1,2,3,4,5,7,8,9] [6,7,10,11,12,13,14,17,21,123] hC [pq h12] ?_
     obtain⟨w0,h,hret0,hnext0⟩:=As h
     refine wc w0 (Sn y6 y13) (T7 x0 x1 x2 x4 x5 y6) ?_ λ z0 hs0=>?_
     ·unfold U7 at h
      rcases cB h with⟨h15,h⟩ | ⟨h15,h⟩
      ·exact wx w0 (Sn y6 y13) (T7 x0 x1 x2 x4 x5 y6) E8 23 [true] [] [] 4 n9_ _ hC [pq h15] (sI h).symm
      ·exact wx w0 (Sn y6 y13) (T7 x0 x1 x2 x4 x5 y6) E8 23 [false] [] [] 4 n9_ _ hC [pq h15] (sI h).symm
     ·clear h;have h:=hnext0 _ hs0
      replace h:=sI h
      subst h
      exact wr E8 23 [] [] [] 4 n4_ hC []
    ·rcases cB h with⟨h16,h⟩ | ⟨h16,h⟩
     ·obtain⟨y17,h18,h⟩:=Az h
      replace h:=sI h
      subst h
      exact wr E8 31 [false,true] [pc Aou (Aoe x0 y6.1 _ h18) []] [] 4 n4_ hC [pq h12,pq h16]
     ·replace h:=sI h
      subst h
      exact wr E8 30 [false,false] [] [] 4 n4_ hC [pq h12,pq h16]
theorem A5q:EN 107:=en Tryz.func107
def Z3:List Nat:=[0,1,3,4,5,6,16]
def Xm  (z0:Sg5):St:=[(0,dO 0 0),(3,dO 4 0),(4,dO 5 0),(5,dO 6 0),(6,dI z0.1)]
def zF (x1:Aa) (y1:Int×Aj) (y3:Ab×Aj) (z0:Sg5):List Res:=(.box 77 [DS pI z0.2.1,I z0.2.2.1]::zs x1 (.box 30 [I x1.An,.os 1,.os 2,.os 3,I x1.Phase,I x1.Aq] :: .box 43 [I 0,.os 11,.os 12,.os 13,.os 14,.os 15,.os 16] :: .box 43 [I y1.1,.os 7,.os 8,.os 9,.os 10,.os 17,.os 18]::zp y3.1 (ze [v5_ ([]:List Av),v1_ ([]:List A6),v5_ (Fp z0),v1_ ([]:List A6)])))
def Afe  (z0:Sg5):St:=[(4,dO 4 0),(5,dO 5 0)]
def Ah6 (x1:Aa) (y1:Int×Aj) (y3:Ab×Aj) (z0:Sg5):List Res:=(.box 77 [DS pI z0.2.1,I z0.2.2.1]::zs x1 (.box 43 [I 0,.os 10,.os 11,.os 12,.os 13,.os 14,.os 15] :: .box 43 [I y1.1,.os 6,.os 7,.os 8,.os 9,.os 16,.os 17]::zp y3.1 (ze [v5_ ([]:List Av),v1_ ([]:List A6),v5_ (Fp z0),v1_ ([]:List A6)])))
theorem A6y (x0:Aj) (x1:Aa) (r:Ar×Aj) (h:uA x0 x1=some r):CO 12 [.d (.o 0 0),.agg [I x1.An,.os 1,.os 2,.os 3,I x1.Phase,I x1.Aq]] (.box 77 (d77 x0)::zs x1 []) (.agg [I r.1.Time,.os 4,.os 5,.os 6,.os 7,.os 8,.os 9]) (.box 77 (d77 r.2)::zs x1 (zp r.1.Power [v5_ r.1.A2,v1_ r.1.A8])):=by
 unfold uA at h
 refine co 30 Tryz.func12 λ C hC=>?_
 obtain⟨y1,h2,y3,h4,h⟩:=Bc h
 refine ws Z3 28 [] [⟨.flts [.box 43 [I 0,.p (.v (.slice none 0 0)),.p (.v (.slice none 0 0)),.p (.v (.slice none 0 0)),.p (.v (.slice none 0 0)),.p (.v (.slice none 0 0)),.p (.v (.slice none 0 0))]],trivial⟩,pc e26 (k26 x0 5 20 _ h2) [0],pc A7f (A6x y1.2 x1 _ h4) n4_,⟨.flt 6 (.box 43 [I 0,.p (.v (.slice none 0 0)),.p (.v (.slice none 0 0)),.p (.v (.slice none 0 0)),.p (.v (.slice none 0 0)),.p (.v (.slice none 0 0)),.p (.v (.slice none 0 0))]) (.box 43 [I 0,.p (.v (.slice none 0 0)),.p (.v (.slice none 0 0)),.p (.v (.slice none 0 0)),.p (.v (.slice none 0 0)),.p (.v (.slice none 0 0)),.p (.v (.slice none 0 0))]),rfl⟩] [.ownb 5 1 4 1,.ownb 5 2 93 4,.ownb 5 3 3 1,.ownb 5 4 96 2,.ownb 5 5 84 2,.ownb 5 6 65 5,.ownb 6 5 84 2,.ownb 6 6 65 5] 4 A70 (Xm (0,y3.2.L,y3.2.At,([]:List Av))) (zF x1 y1 y3 (0,y3.2.L,y3.2.At,([]:List Av))) hC [] ?_
 obtain⟨w0,hm0,hret0,hnext0⟩:=As h
 clear h
 refine wc w0 (Afe) (Ah6 x1 y1 y3) ?_ λ z0 hs0=>?_
 ·refine wb ?_
  refine ww (Xm) (zF x1 y1 y3) hm0 λ z0 w0b h hb0 hr0=>?_
  unfold Y2 at h
  rcases cB h with⟨h5,h⟩ | ⟨h5,h⟩
  ·obtain⟨y6,h7,y8,h9,y10,h11,h⟩:=B3 h
   exact wx w0b (Xm) (zF x1 y1 y3) Z3 31 [true] [pc e26 (k26 (⟨z0.2.1,z0.2.2.1⟩:Aj) (-1) 4 _ h7) [0],pc e26 (k26 y6.2 (-1) 4 _ h9) [0],pa q84 2 h11] [] 4 [0,1,2,3,4,5,6,7,8,9,10,11,12,13,14,15,16,19,18] _ hC [pq h5] (sI h).symm
  ·exact wx w0 (Afe) (Ah6 x1 y1 y3) Z3 26 [false] [] [] 4 [0,1,2,3,5,6,7,8,9,10,11,12,13,14,15,16,17,18] (z0.1,z0.2.1,z0.2.2.1,(Fp z0)) hC [pq h5] (hb0 _ (sI h).symm)
 ·have h:=hnext0 _ hs0
  replace h:=sI h
  subst h
  exact wr Z3 23 [] [] [] 4 [0,1,2,3,6,7,8,9,16,17] hC []
theorem A7g:EN 12:=en Tryz.func12
def An8:List Nat:=[0,1,2,3,4,6,7,8,9,15]
theorem A8m (x0:Aa) (x1:Ab) (x2:Int) (r:Ab×Int) (h:Aj0 x0 x1 x2=some r):CO 136 [.agg (d30 x0),.agg (d39 x1),.d (I x2)] [] (.tup [.agg [.os 0,.os 1,.os 2,.os 3],.d (I r.2)]) (zp r.1 []):=by
 unfold Aj0 at h
 refine co 29 Tryz.func136 λ C hC=>?_
 obtain⟨y1,h2,h⟩:=Az h
 refine wn An8 28 [] [pc A9d (A8c x0 x1 x2 _ h2) []] [.ownb 2 0 4 1,.ownb 2 1 93 4,.ownb 2 2 3 1,.ownb 2 3 96 2] 0 n7_ [2,3,4,6,7,8,15] hC [] ?_
 rcases cB h with⟨h3,h⟩ | ⟨h3,h⟩
 ·replace h:=sI h
  subst h
  exact wr An8 24 [true] [] [.ownb 2 0 4 1,.ownb 2 1 93 4,.ownb 2 2 3 1,.ownb 2 3 96 2] 0 [7,8,9,10] hC [pq h3]
 ·obtain⟨y4,h5,y6,h7,y8,h9,y10,h11,h⟩:=Cv h
  replace h:=sI h
  subst h
  exact wr An8 29 [false] [pc e66 (k66 x1 _ h5) [],pr pB h7,pu pB h7 h9,⟨.call 47 [.agg (d30 x0),.agg [.os 0,.os 1,.os 2,.os 3]] [v2_ y8,v4_ y4.Ac,v0_ y4.Ap,v3_ y4.Am] (.tup [.agg [.os 4,.os 5,.os 6,.os 7],dI y10.2]) (v2_ y8::v4_ y4.Ac::v0_ y4.Ap::v3_ y4.Am::zp y10.1 []) [7,8,9,10],⟨e47,((k47 x0 (⟨y8,y4.Ac,y4.Ap,y4.Am⟩:Ab) _ h11).lend (by kernel_rfl) (by kernel_rfl) (by kernel_rfl) ⟨Be (λ _=>rfl),Be (λ _=>rfl),Be (λ _=>rfl),Be (λ _=>rfl),trivial⟩ (by kernel_rfl) (by kernel_rfl))⟩⟩] [] 0 [12,13,14,15] hC [pq h3]
theorem A9n:EN 136:=en Tryz.func136
theorem A34 (x0:Ay) (r:Ay) (h:U5 x0=some r):CO 124 [.d (.o 0 0)] (.box 214 (zb x0.Al [.os 1,.os 2,.os 3,.os 4,.os 5])::zp x0.Au [v6_ x0.acts]) (.tup []) (.box 214 (zb r.Al [.os 6,.os 7,.os 8,.os 9,.os 10]) :: .non :: .non :: .non :: .non :: .non::zp r.Au [v6_ r.acts]):=by
 unfold U5 at h
 refine co 24 Tryz.func124 λ C hC=>?_
 obtain⟨y1,h2,y3,h4,y5,h6,h⟩:=B3 h
 replace h:=sI h
 subst h
 exact wf [0,1] 27 [] [pc A47 (A3s x0 _ h2) n6_,pc A46 (A3r y1 _ h4) [0,7,8,9,10,11,6],⟨.call 47 [.agg (d30 y3.Al),.agg [.os 0,.os 1,.os 2,.os 3]] (zp y3.Au []) (.tup [.agg [.os 4,.os 5,.os 6,.os 7],dI y5.2]) (zp y3.Au (zp y5.1 [])) [12,13,14,15],⟨e47,((k47 y3.Al y3.Au _ h6).lend (by kernel_rfl) (by kernel_rfl) (by kernel_rfl) ⟨Be (λ _=>rfl),Be (λ _=>rfl),Be (λ _=>rfl),Be (λ _=>rfl),trivial⟩ (by kernel_rfl) (by kernel_rfl))⟩⟩] [] 6 [0,1,2,3,4,5,17,18,19,20,16] hC []
theorem A5j:EN 124:=en Tryz.func124
def Ly:List Nat:=[0,2,4,5,19,20,21,22,32]
def Nk (y3:(List Ah)) (n0:Nat) (z0:Sg7):St:=[(0,dO 0 0),(2,dS 6),(19,dS 7),(20,dI (ln y3)),(21,dI (cnt 0 n0))]
def Q5 (y1:(List Int)) (y3:(List Ah)) (n0:Nat) (z0:Sg7):List Res:=[.box 214 [I z0.1,DS q70 z0.2.1,DS q72 z0.2.2.1,DS q81 (g3_ z0),I (g4_ z0),I (g5_ z0),.os 8,.os 9,.os 10,.os 11,.os 12],.non,.non,.non,.non,.non,v0_ y1,v8_ y3,v2_ (g6_ z0),v4_ (g7_ z0),v0_ (g8_ z0),v3_ (g9_ z0),v6_ (Fu z0)]
def Aa6  (z0:Sg7):St:=[]
def Acb  (z0:Sg7):List Res:=[.box 214 [I z0.1,DS q70 z0.2.1,DS q72 z0.2.2.1,DS q81 (g3_ z0),I (g4_ z0),I (g5_ z0),.os 6,.os 7,.os 8,.os 9,.os 10],.non,.non,.non,.non,.non,v2_ (g6_ z0),v4_ (g7_ z0),v0_ (g8_ z0),v3_ (g9_ z0),v6_ (Fu z0)]
theorem A33 (x0:Ay) (r:Ay) (h:Po x0=some r):CO 125 [.d (.o 0 0)] (.box 214 (zb x0.Al [.os 1,.os 2,.os 3,.os 4,.os 5])::zp x0.Au [v6_ x0.acts]) (.tup []) (.box 214 (zb r.Al [.os 6,.os 7,.os 8,.os 9,.os 10]) :: .non :: .non :: .non :: .non :: .non::zp r.Au [v6_ r.acts]):=by
 unfold Po at h
 refine co 48 Tryz.func125 λ C hC=>?_
 obtain⟨y1,h2,y3,h4,h⟩:=Bc h
 refine ws Ly 25 [] [pc A9h (A8g x0.Al _ h2) [],pc Azt (Azo x0.Al x0.Au _ h4) [1,2,3,4],pl Bg y3] [.mv 1,.mv 2,.mv 3,.mv 4,.mv 5] 6 H7 (Nk y3 0 (zt x0.Al (zu x0.Au x0.acts))) (Q5 y1 y3 0 (zt x0.Al (zu x0.Au x0.acts))) hC [] ?_
 obtain⟨w0,hm0,hret0,hnext0⟩:=As h
 clear h
 refine wc w0 (Aa6) (Acb) ?_ λ z0 hs0=>?_
 ·refine wb ?_
  refine Cm 19 7 rfl rfl λ hl0=>?_
  refine wl (Nk y3) (Q5 y1 y3) hm0 (λ z0 hn0=>?_) λ n0 a0 z0 w0b hi0 hx0 h hb0 hr0=>?_
  ·clear hm0
   exact wx w0 (Aa6) (Acb) Ly 26 [false] [] [] 6 [0,1,2,3,4,5,8,9,10,11,12] _ hC [pq (Bf hl0)] hn0
  ·unfold U4 at h
   obtain⟨y5,h6,y7,h8,h⟩:=Bc h
   refine wn Ly 34 [true] [pr Bg (Bp hx0 hl0),pn Bg (Bp hx0 hl0),⟨.call 95 [dS 0] [v0_ y1] (dS 1) [v0_ y1,v0_ y5] [6],⟨e95,((k95 y1 _ h6).lend (by kernel_rfl) (by kernel_rfl) (by kernel_rfl) ⟨Be (λ _=>rfl),trivial⟩ (by kernel_rfl) (by kernel_rfl))⟩⟩,pc A42 (A3n y5 a0 _ h8) [14,13],pl pI y7.2.Ac] [] 6 [0,1,2,3,4,5,6,7,8,9,10,11,12,13,15] [0,2,4,5,19,20,21,32] hC [pq (A9 hi0 hl0)] ?_
   rcases cB h with⟨h9,h⟩ | ⟨h9,h⟩
   ·obtain⟨y10,h11,y12,h13,y14,h15,y16,h17,h⟩:=Cv h
    exact wx w0b (Nk y3 (n0+1)) (Q5 y1 y3 (n0+1)) Ly 27 [true] [pr pI h11,pc A41 (A3m (⟨(⟨z0.1,z0.2.1,z0.2.2.1,(g3_ z0),(g4_ z0),(g5_ z0)⟩:Aa),(⟨(g6_ z0),(g7_ z0),(g8_ z0),(g9_ z0)⟩:Ab),(Fu z0)⟩:Ay) y7.1 y10 _ h13) [0,8,9,10,11,12,14],pr pI h15,pc A40 (A3l y12 y7.1 y14 _ h17) [0,15,16,17,18,19,14]] [] 6 [0,1,2,3,4,5,6,7,20,21,22,23,24] _ hC [pq h9] (sI h).symm
   ·exact wx w0b (Nk y3 (n0+1)) (Q5 y1 y3 (n0+1)) Ly 25 [false] [] [] 6 H7 _ hC [pq h9] (sI h).symm
 ·have h:=hnext0 _ hs0
  replace h:=sI h
  subst h
  exact wf Ly 20 [] [] [] 6 An3 hC []
theorem A5i:EN 125:=en Tryz.func125
def Ix:List Nat:=[0,1,3,4,6,17,36,55,76,82,88,96]
theorem A39 (x0 : A1) (x1 : Ao) (r : Int × A1) (h : M_ x0 x1 = some r) : CO 109 [.d (.o 0 0), .agg (d63 x1)] (.box 175 (zb x0.Al [.os 1, .os 2, .os 3, .os 4, I x0.time]) :: zp x0.Au []) (.d (I r.1)) (.box 175 (zb r.2.Al [.os 5, .os 6, .os 7, .os 8, I r.2.time]) :: .non :: .non :: .non :: .non :: zp r.2.Au []) := by
 unfold M_ at h
 refine co 101 Tryz.func109 λ C hC=>?_
 rcases cB h with⟨h1,h⟩ | ⟨h1,h⟩
 ·obtain⟨y2,h3,h⟩:=Az h
  replace h:=sI h
  subst h
  exact wr Ix 34 [true] [⟨.call 136 [.agg (d30 x0.Al),.agg [.os 0,.os 1,.os 2,.os 3],dI x1.Unit] (zp x0.Au []) (.tup [.agg [.os 4,.os 5,.os 6,.os 7],dI y2.2]) (zp x0.Au (zp y2.1 [])) [1,2,3,4],⟨A9n,((A8m x0.Al x0.Au x1.Unit _ h3).lend (by kernel_rfl) (by kernel_rfl) (by kernel_rfl) ⟨Be (λ _=>rfl),Be (λ _=>rfl),Be (λ _=>rfl),Be (λ _=>rfl),trivial⟩ (by kernel_rfl) (by kernel_rfl))⟩⟩] [.frz 1,.frz 2,.frz 3,.frz 4] 5 [0,1,2,3,4,6,7,8,9] hC [pq h1]
 ·rcases cB h with⟨h4,h⟩ | ⟨h4,h⟩
  ·obtain⟨y5,h6,h⟩:=Az h
   replace h:=sI h
   subst h
   exact wr Ix 37 [false,true] [⟨.call 137 [.agg (d30 x0.Al),.agg [.os 0,.os 1,.os 2,.os 3],dI x1.Unit] (zp x0.Au []) (.tup [.agg [.os 4,.os 5,.os 6,.os 7],dI y5.2]) (zp x0.Au (zp y5.1 [])) [1,2,3,4],⟨A9m,((A8l x0.Al x0.Au x1.Unit _ h6).lend (by kernel_rfl) (by kernel_rfl) (by kernel_rfl) ⟨Be (λ _=>rfl),Be (λ _=>rfl),Be (λ _=>rfl),Be (λ _=>rfl),trivial⟩ (by kernel_rfl) (by kernel_rfl))⟩⟩] [.frz 1,.frz 2,.frz 3,.frz 4] 5 [0,1,2,3,4,6,7,8,9] hC [pq h1,pq h4]
  ·rcases cB h with⟨h7,h⟩ | ⟨h7,h⟩
   ·obtain⟨y8,h9,h⟩:=Az h
    replace h:=sI h
    subst h
    exact wr Ix 40 [false,false,true] [⟨.call 138 [.agg (d30 x0.Al),.agg [.os 0,.os 1,.os 2,.os 3],dI x1.Unit,dI x1.Value] (zp x0.Au []) (.tup [.agg [.os 4,.os 5,.os 6,.os 7],dI y8.2]) (zp x0.Au (zp y8.1 [])) [1,2,3,4],⟨A9l,((A8k x0.Al x0.Au x1.Unit x1.Value _ h9).lend (by kernel_rfl) (by kernel_rfl) (by kernel_rfl) ⟨Be (λ _=>rfl),Be (λ _=>rfl),Be (λ _=>rfl),Be (λ _=>rfl),trivial⟩ (by kernel_rfl) (by kernel_rfl))⟩⟩] [.frz 1,.frz 2,.frz 3,.frz 4] 5 [0,1,2,3,4,6,7,8,9] hC [pq h1,pq h4,pq h7]
   ·rcases cB h with⟨h10,h⟩ | ⟨h10,h⟩
    ·obtain⟨y11,h12,h⟩:=Az h
     replace h:=sI h
     subst h
     exact wr Ix 43 [false,false,false,true] [pc A5f (A30 x0 x1.Unit _ h12) n5_] [.mv 1,.mv 2,.mv 3,.mv 4] 5 [0,1,2,3,4,6,7,8,9] hC [pq h1,pq h4,pq h7,pq h10]
    ·rcases cB h with⟨h13,h⟩ | ⟨h13,h⟩
     ·obtain⟨y14,h15,h⟩:=Az h
      replace h:=sI h
      subst h
      exact wr Ix 46 [false,false,false,false,true] [pc A5e (A3z x0 x1.Unit _ h15) n5_] [.mv 1,.mv 2,.mv 3,.mv 4] 5 [0,1,2,3,4,6,7,8,9] hC [pq h1,pq h4,pq h7,pq h10,pq h13]
     ·rcases cB h with⟨h16,h⟩ | ⟨h16,h⟩
      ·obtain⟨y17,h18,h⟩:=Az h
       replace h:=sI h
       subst h
       exact wr Ix 49 [false,false,false,false,false,true] [pc A5d (A3y x0 x1.Unit x1.Value _ h18) n5_] [.mv 1,.mv 2,.mv 3,.mv 4] 5 [0,1,2,3,4,6,7,8,9] hC [pq h1,pq h4,pq h7,pq h10,pq h13,pq h16]
      ·rcases cB h with⟨h19,h⟩ | ⟨h19,h⟩
       ·obtain⟨y20,h21,h⟩:=Az h
        replace h:=sI h
        subst h
        exact wr Ix 52 [false,false,false,false,false,false,true] [pc A5c (A3x x0 _ h21) n5_] [] 5 [0,1,2,3,4,6,7,8,9] hC [pq h1,pq h4,pq h7,pq h10,pq h13,pq h16,pq h19]
       ·obtain⟨y22,h23,h⟩:=Az h
        replace h:=sI h
        subst h
        exact wr Ix 52 [false,false,false,false,false,false,false] [pc A5b (A3w x0 (⟨x1.Value,x1.Unit⟩:Ak) (x1.Kind==8) _ h23) n5_] [] 5 [0,1,2,3,4,6,7,8,9] hC [pq h1,pq h4,pq h7,pq h10,pq h13,pq h16,pq h19]
theorem A5o:EN 109:=en Tryz.func109
theorem A35 (x0:Ay) (r:Ay) (h:uB x0=some r):CO 123 [.d (.o 0 0)] (.box 214 (zb x0.Al [.os 1,.os 2,.os 3,.os 4,.os 5])::zp x0.Au [v6_ x0.acts]) (.tup []) (.box 214 (zb r.Al [.os 6,.os 7,.os 8,.os 9,.os 10]) :: .non :: .non :: .non :: .non :: .non::zp r.Au [v6_ r.acts]):=by
 unfold uB at h
 refine co 6 Tryz.func123 λ C hC=>?_
 obtain⟨y1,h2,y3,h4,h⟩:=Bc h
 replace h:=sI h
 subst h
 exact wf [0] 23 [] [pc A5j (A34 x0 _ h2) n6_,pc A5i (A33 y1 _ h4) [0,6,7,8,9,10]] [] 6 [0,1,2,3,4,5,11,12,13,14,15] hC []
theorem A5k:EN 123:=en Tryz.func123
def Xv:List Nat:=[0,1,2,3,4,5,7,8,9,10,11,12,16,21,39,55]
theorem k78 (x0:Aa) (x1:Ab) (x2:Int) (x3:Ao) (r:Ab×Int) (h:F78 x0 x1 x2 x3=some r):CO 78 [.agg (d30 x0),.agg (d39 x1),.d (I x2),.agg (d63 x3)] [] (.tup [.agg [.os 0,.os 1,.os 2,.os 3],.d (I r.2)]) (zp r.1 []):=by
 unfold F78 at h
 refine co 62 Tryz.func78 λ C hC=>?_
 obtain⟨y1,h2,h⟩:=Az h
 refine wn Xv 29 [] [pc e65 (k65 x0 x1 _ h2) []] [.ownb 3 0 4 1,.ownb 3 1 93 4,.ownb 3 2 3 1,.ownb 3 3 96 2] 0 n8_ [2,4,5,7,8,9,10,16] hC [] ?_
 rcases cB h with⟨h3,h⟩ | ⟨h3,h⟩
 ·replace h:=sI h
  subst h
  exact wr Xv 24 [true] [] [.ownb 3 0 4 1,.ownb 3 1 93 4,.ownb 3 2 3 1,.ownb 3 3 96 2] 0 [8,9,10,11] hC [pq h3]
 ·rcases cB h with⟨h4,h⟩ | ⟨h4,h⟩
  ·replace h:=sI h
   subst h
   exact wr Xv 27 [false,true] [] [.ownb 3 0 4 1,.ownb 3 1 93 4,.ownb 3 2 3 1,.ownb 3 3 96 2] 0 [8,9,10,11] hC [pq h3,pq h4]
  ·obtain⟨y5,h6,h⟩:=Az h
   rcases cB h with⟨h7,h⟩ | ⟨h7,h⟩
   ·replace h:=sI h
    subst h
    exact wr Xv 30 [false,false,true] [pc A5p (A4a x0 x3 _ h6) []] [.ownb 3 0 4 1,.ownb 3 1 93 4,.ownb 3 2 3 1,.ownb 3 3 96 2] 0 [8,9,10,11] hC [pq h3,pq h4,pq h7]
   ·obtain⟨y8,h9,y10,h11,h⟩:=Bc h
    refine wn Xv 37 [false,false,false] [pc A5p (A4a x0 x3 _ h6) [],pc e66 (k66 x1 _ h9) [],pc A5o (A39 (⟨x0,y8,x2⟩:A1) x3 _ h11) [12,8,9,10,11]] [] 0 [3,4,5,6,7,12,13,14,15,16] [8,9,11,12,55] hC [pq h3,pq h4,pq h7] ?_
    rcases cB h with⟨h12,h⟩ | ⟨h12,h⟩
    ·replace h:=sI h
     subst h
     exact wr Xv 24 [true] [] [.ownb 0 0 4 1,.ownb 0 1 93 4,.ownb 0 2 3 1,.ownb 0 3 96 2] 0 [10,11,12,13] hC [pq h12]
    ·replace h:=sI h
     subst h
     exact wr Xv 25 [false] [] [] 0 [6,7,8,9] hC [pq h12]
theorem e78:EN 78:=en Tryz.func78
def Vr:List Nat:=[0,1,2,3,4,6,7,8,9,10,15]
theorem A36 (x0:Aa) (x1:Ab) (r:Ab×(List Ao)×Int) (h:uC x0 x1=some r):CO 122 [.agg (d30 x0),.agg (d39 x1),.d (.fn (.func 123) [] [])] [] (.tup [.agg [.os 0,.os 1,.os 2,.os 3],.d (.os 4),.d (I r.2.2)]) (zp r.1 [v6_ r.2.1]):=by
 unfold uC at h
 refine co 34 Tryz.func122 λ C hC=>?_
 obtain⟨y1,h2,h⟩:=Az h
 refine wn Vr 28 [] [pc e65 (k65 x0 x1 _ h2) []] [.ownb 2 0 4 1,.ownb 2 1 93 4,.ownb 2 2 3 1,.ownb 2 3 96 2] 0 n7_ [2,3,4,6,7,8,9,15] hC [] ?_
 rcases cB h with⟨h3,h⟩ | ⟨h3,h⟩
 ·replace h:=sI h
  subst h
  exact wr Vr 24 [true] [] [.ownb 2 0 4 1,.ownb 2 1 93 4,.ownb 2 2 3 1,.ownb 2 3 96 2,.own 7 63 3] 0 [7,8,9,10,11] hC [pq h3]
 ·obtain⟨y4,h5,h⟩:=Az h
  refine wn Vr 5 [false] [pc e66 (k66 x1 _ h5) []] [.ownb 11 10 63 3] 0 [2,3,4,5,6,7,8,9,10,11,12] [2,6,7,8,10] hC [pq h3] ?_
  obtain⟨y6,h7,h⟩:=Az h
  replace h:=sI h
  subst h
  exact wr Vr 24 [] [pc A5k (A35 (⟨x0,y4,([]:List Ao)⟩:Ay) _ h7) [9,5,6,7,8,10]] [] 0 [11,12,13,14,15] hC []
theorem A5l:EN 122:=en Tryz.func122
theorem A8y (x0:Aa) (x1:Ab) (r:Ab×(List Ao)×Int) (h:Aj8 x0 x1=some r):CO 104 [.agg (d30 x0),.agg (d39 x1)] [] (.tup [.agg [.os 0,.os 1,.os 2,.os 3],.d (.os 4),.d (I r.2.2)]) (zp r.1 [v6_ r.2.1]):=by
 unfold Aj8 at h
 refine co 13 Tryz.func104 λ C hC=>?_
 obtain⟨y1,h2,h⟩:=Az h
 replace h:=sI h
 subst h
 exact wr n7_ 25 [] [pc A5l (A36 x0 x1 _ h2) []] [] 0 [3,4,5,6,7] hC []
theorem A9z:EN 104:=en Tryz.func104
def Fy:List Nat:=[0,1,3,4,5,6,7,10,32,38,52,53,54,55,63,83]
def Xp  (z0:Int):St:=[(0,dO 0 0),(3,dO 9 0),(4,dO 10 0),(5,dI z0)]
def Yh (x0:A4) (x1:Ao) (y1:Ab×Int) (z0:Int):List Res:=(.box 119 (I x0.A0.Time :: .os 1 :: .os 2 :: .os 3 :: .os 4 :: .os 5 :: .os 6::zb x0.Al [.os 7,.os 8])::zp x0.A0.Power (v5_ x0.A0.A2::v1_ x0.A0.A8::v1_ x0.events::v7_ x0.states :: .box 63 (d63 x1) :: .box 39 [.os 11,.os 12,.os 13,.os 14]::zp y1.1 []))
def Pw (y9:Ab×(List Ao)×Int) (n1:Nat) (z1:yT):St:=[(0,dO 0 0),(4,dO 9 0),(6,dO 16 0),(52,dS 21),(53,dI (ln y9.2.1)),(54,dI (cnt 0 n1))]
def Wa (y1:Ab×Int) (y9:Ab×(List Ao)×Int) (n1:Nat) (z1:yT):List Res:=(.box 119 [I z1.1,.os 1,.os 2,.os 3,.os 4,.os 5,.os 6,I z1.2.1,DS q70 z1.2.2.1,DS q72 (g3_ z1),DS q81 (g4_ z1),I (g5_ z1),I (g6_ z1),.os 14,.os 15]::v2_ (g7_ z1)::v4_ (g8_ z1)::v0_ (g9_ z1)::v3_ (Dp z1)::v5_ (He z1)::v1_ (Io z1) :: .non :: .non :: .box 39 [.os 10,.os 11,.os 12,.os 13]::v2_ (Im z1)::v4_ y1.1.Ac::v0_ (Ac0 z1)::v3_ y1.1.Am::v1_ (Td z1)::v7_ (Aoj z1) :: .box 39 [.os 17,.os 18,.os 19,.os 20]::zp y9.1 [v6_ y9.2.1])
def Ae2  (z1:yT):St:=[(0,dO 0 0),(4,dO 9 0),(6,dO 16 0)]
def Ahu (y1:Ab×Int) (y9:Ab×(List Ao)×Int) (z1:yT):List Res:=(.box 119 [I z1.1,.os 1,.os 2,.os 3,.os 4,.os 5,.os 6,I z1.2.1,DS q70 z1.2.2.1,DS q72 (g3_ z1),DS q81 (g4_ z1),I (g5_ z1),I (g6_ z1),.os 14,.os 15]::v2_ (g7_ z1)::v4_ (g8_ z1)::v0_ (g9_ z1)::v3_ (Dp z1)::v5_ (He z1)::v1_ (Io z1) :: .non :: .non :: .box 39 [.os 10,.os 11,.os 12,.os 13]::v2_ (Im z1)::v4_ y1.1.Ac::v0_ (Ac0 z1)::v3_ y1.1.Am::v1_ (Td z1)::v7_ (Aoj z1) :: .box 39 [.os 17,.os 18,.os 19,.os 20]::zp y9.1 [])
set_option maxHeartbeats 4000000 in
theorem Azn (x0:A4) (x1:Ao) (r:A4) (h:Wg x0 x1=some r):CO 76 [.d (.o 0 0),.agg (d63 x1)] (.box 119 (I x0.A0.Time :: .os 1 :: .os 2 :: .os 3 :: .os 4 :: .os 5 :: .os 6::zb x0.Al [.os 7,.os 8])::zp x0.A0.Power [v5_ x0.A0.A2,v1_ x0.A0.A8,v1_ x0.events,v7_ x0.states]) (.tup []) (.box 119 (I r.A0.Time :: .os 9 :: .os 10 :: .os 11 :: .os 12 :: .os 5 :: .os 6::zb r.Al [.os 13,.os 14]) :: .non :: .non :: .non :: .non::v5_ r.A0.A2::v1_ r.A0.A8 :: .non :: .non::zp r.A0.Power [v1_ r.events,v7_ r.states]):=by
 unfold Wg at h
 refine co 92 Tryz.func76 λ C hC=>?_
 obtain⟨y1,h2,h⟩:=Az h
 refine wn Fy 28 [] [⟨.flts [.box 39 [.p (.v (.slice none 0 0)),.p (.v (.slice none 0 0)),.p (.v (.slice none 0 0)),.p (.v (.slice none 0 0))]],trivial⟩,⟨.call 78 [.agg (d30 x0.Al),.agg [.os 0,.os 1,.os 2,.os 3],dI x0.A0.Time,.agg (d63 x1)] (zp x0.A0.Power []) (.tup [.agg [.os 4,.os 5,.os 6,.os 7],dI y1.2]) (zp x0.A0.Power (zp y1.1 [])) [1,2,3,4],⟨e78,((k78 x0.Al x0.A0.Power x0.A0.Time x1 _ h2).lend (by kernel_rfl) (by kernel_rfl) (by kernel_rfl) ⟨Be (λ _=>rfl),Be (λ _=>rfl),Be (λ _=>rfl),Be (λ _=>rfl),trivial⟩ (by kernel_rfl) (by kernel_rfl))⟩⟩,⟨.flt 10 (.box 39 [.p (.v (.slice none 0 0)),.p (.v (.slice none 0 0)),.p (.v (.slice none 0 0)),.p (.v (.slice none 0 0))]) (.box 39 [.p (.v (.slice none 0 0)),.p (.v (.slice none 0 0)),.p (.v (.slice none 0 0)),.p (.v (.slice none 0 0))]),rfl⟩] [] 9 Eh [0,3,4,5,32] hC [] ?_
 obtain⟨w0,h,hret0,hnext0⟩:=As h
 refine wc w0 (Xp) (Yh x0 x1 y1) ?_ λ z0 hs0=>?_
 ·unfold Yv at h
  rcases cB h with⟨h3,h⟩ | ⟨h3,h⟩
  ·exact wx w0 (Xp) (Yh x0 x1 y1) Fy 23 [true] [] [] 9 Eh _ hC [pq h3] (sI h).symm
  ·exact wx w0 (Xp) (Yh x0 x1 y1) Fy 23 [false] [] [] 9 Eh _ hC [pq h3] (sI h).symm
 ·clear h;have h:=hnext0 _ hs0
  obtain⟨y4,h5,h⟩:=Az h
  refine wn Fy 26 [] [pc At7 (Atd x0 x1 z0 _ h5) n9_] [] 9 [0,1,2,3,4,5,6,7,8,10,11,12,13,14,15] [0,4,38] hC [] ?_
  rcases cB h with⟨h6,h⟩ | ⟨h6,h⟩
  ·replace h:=sI h
   subst h
   exact wr Fy 22 [true] [] [.mv 1,.mv 2,.mv 3,.mv 4,.mv 8] 9 [0,1,2,3,4,5,6,7,8,15,16,17,18,14,19] hC [pq h6]
  ·obtain⟨y7,h8,y9,h10,h⟩:=Bc h
   refine ws Fy 30 [false] [pc Ac2 (Acz y4 y1.1 _ h8) [0,1,2,3,4,5,6,14,8,10,11,12,13],⟨.flts [.box 39 [.p (.v (.slice none 0 0)),.p (.v (.slice none 0 0)),.p (.v (.slice none 0 0)),.p (.v (.slice none 0 0))]],trivial⟩,⟨.call 104 [.agg (d30 y7.Al),.agg [.os 0,.os 1,.os 2,.os 3]] (zp y1.1 []) (.tup [.agg [.os 4,.os 5,.os 6,.os 7],dS 8,dI y9.2.2]) (zp y1.1 (zp y9.1 [v6_ y9.2.1])) [10,11,12,13],⟨A9z,((A8y y7.Al y1.1 _ h10).lend (by kernel_rfl) (by kernel_rfl) (by kernel_rfl) ⟨Be (λ _=>rfl),Be (λ _=>rfl),Be (λ _=>rfl),Be (λ _=>rfl),Be (λ _=>rfl),trivial⟩ (by kernel_rfl) (by kernel_rfl))⟩⟩,⟨.flt 16 (.box 39 [.p (.v (.slice none 0 0)),.p (.v (.slice none 0 0)),.p (.v (.slice none 0 0)),.p (.v (.slice none 0 0))]) (.box 39 [.p (.v (.slice none 0 0)),.p (.v (.slice none 0 0)),.p (.v (.slice none 0 0)),.p (.v (.slice none 0 0))]),rfl⟩,pl q63 y9.2.1] [] 9 A7y (Pw y9 0 (y7.A0.Time,zt y7.Al (zu y7.A0.Power (y7.A0.A2,y7.A0.A8,y1.1.Ag,y7.events,y7.states,y1.1.Ap)))) (Wa y1 y9 0 (y7.A0.Time,zt y7.Al (zu y7.A0.Power (y7.A0.A2,y7.A0.A8,y1.1.Ag,y7.events,y7.states,y1.1.Ap)))) hC [pq h6] ?_
   obtain⟨w1,hm1,hret1,hnext1⟩:=As h
   clear h
   refine wc w1 (Ae2) (Ahu y1 y9) ?_ λ z1 hs1=>?_
   ·refine wb ?_
    refine Cm 52 21 rfl rfl λ hl1=>?_
    refine wl (Pw y9) (Wa y1 y9) hm1 (λ z1 hn1=>?_) λ n1 a1 z1 w1b hi1 hx1 h hb1 hr1=>?_
    ·clear hm1
     exact wx w1 (Ae2) (Ahu y1 y9) Fy 26 [false] [] [] 9 A7z _ hC [pq (Bf hl1)] hn1
    ·unfold Yw at h
     obtain⟨y11,h12,h⟩:=Az h
     refine wn Fy 35 [true] [pr q63 (Bp hx1 hl1),pn q63 (Bp hx1 hl1),pc At7 (Atd (⟨(⟨z1.1,(⟨(g7_ z1),(g8_ z1),(g9_ z1),(Dp z1)⟩:Ab),(He z1),(Io z1)⟩:Ar),(⟨z1.2.1,z1.2.2.1,(g3_ z1),(g4_ z1),(g5_ z1),(g6_ z1)⟩:Aa),(Td z1),(Aoj z1)⟩:A4) a1 0 _ h12) [0,1,2,3,4,5,6,14,15]] [] 9 [0,1,2,3,4,5,6,7,8,9,10,11,12,13,15,16,17,18,19,20,21,22,23] [0,4,6,10,52,53,54,63] hC [pq (A9 hi1 hl1)] ?_
     rcases cB h with⟨h13,h⟩ | ⟨h13,h⟩
     ·obtain⟨y14,h15,y16,h17,y18,h19,h⟩:=B3 h
      exact wx w1b (Pw y9 (n1+1)) (Wa y1 y9 (n1+1)) Fy 26 [true] [pr pB h15,pu pB h15 h17,pc Ac2 (Acz y11 (⟨y16,y1.1.Ac,(Ac0 z1),y1.1.Am⟩:Ab) _ h19) [0,1,2,3,4,5,6,22,14,10,11,12,13]] [] 9 [0,1,2,3,4,5,6,7,8,9,10,11,12,13,22,23,15,16,17,18,19,20] _ hC [pq h13] (sI h).symm
     ·obtain⟨y20,h21,y22,h23,y24,h25,h⟩:=B3 h
      exact wx w1b (Pw y9 (n1+1)) (Wa y1 y9 (n1+1)) Fy 26 [false] [pr pI h21,pu pI h21 h23,pc Ac2 (Acz y11 (⟨(Im z1),y1.1.Ac,y22,y1.1.Am⟩:Ab) _ h25) [0,1,2,3,4,5,6,22,14,10,11,12,13]] [] 9 [0,1,2,3,4,5,6,7,8,9,10,11,12,13,22,23,15,16,17,18,19,20] _ hC [pq h13] (sI h).symm
   ·have h:=hnext1 _ hs1
    obtain⟨y26,h27,h⟩:=Az h
    refine wn Fy 24 [] [pb e50 (k50 (⟨(Im z1),y1.1.Ac,(Ac0 z1),y1.1.Am⟩:Ab) y9.1 _ h27)] [] 9 [0,1,2,3,4,5,6,7,8,14,15,16,17,18,19,20] [0,6,83] hC [] ?_
    rcases cB h with⟨h28,h⟩ | ⟨h28,h⟩
    ·obtain⟨y29,h30,h⟩:=Az h
     replace h:=sI h
     subst h
     exact wf Fy 23 [true] [pc Ac2 (Acz (⟨(⟨z1.1,(⟨(g7_ z1),(g8_ z1),(g9_ z1),(Dp z1)⟩:Ab),(He z1),(Io z1)⟩:Ar),(⟨z1.2.1,z1.2.2.1,(g3_ z1),(g4_ z1),(g5_ z1),(g6_ z1)⟩:Aa),(Td z1),(Aoj z1)⟩:A4) y9.1 _ h30) [0,1,2,3,4,5,6,9,10,12,13,14,15]] [.frz 1,.frz 2,.frz 3,.frz 4] 9 [0,1,2,3,4,5,6,7,8,12,13,14,15,9,16] hC [pq h28]
    ·replace h:=sI h
     subst h
     exact wf Fy 23 [false] [] [.frz 1,.frz 2,.frz 3,.frz 4] 9 [0,1,2,3,4,5,6,7,8,12,13,14,15,9,10] hC [pq h28]
theorem Azs:EN 76:=en Tryz.func76
def Jb:List Nat:=[0,1,3,4,6,7,8,9,12,28,29,30,31,55,89,90,91,92]
def Pv (y3:(List Ah)) (n0:Nat) (z0:yS):St:=[(0,dO 0 0),(3,dO 9 0),(4,dS 10),(28,dS 11),(29,dI (ln y3)),(30,dI (cnt 0 n0))]
def V_ (x1:A5) (y3:(List Ah)) (n0:Nat) (z0:yS):List Res:=[.box 119 [I z0.1,.os 12,.os 13,.os 14,.os 15,.os 16,.os 17,I z0.2.1,DS q70 z0.2.2.1,DS q72 (g3_ z0),DS q81 (g4_ z0),I (g5_ z0),I (g6_ z0),.os 18,.os 19],.non,.non,.non,.non,.non,.non,.non,.non,.box 33 (d33 x1),v5_ (g7_ z0),v8_ y3,v2_ (g8_ z0),v4_ (g9_ z0),v0_ (Dp z0),v3_ (He z0),v5_ (Io z0),v1_ (Im z0),v1_ (Td z0),v7_ (Ac1 z0)]
def Ae1  (z0:yS):St:=[(0,dO 0 0),(4,dS 9)]
def Aht  (z0:yS):List Res:=[.box 119 [I z0.1,.os 10,.os 11,.os 12,.os 13,.os 14,.os 15,I z0.2.1,DS q70 z0.2.2.1,DS q72 (g3_ z0),DS q81 (g4_ z0),I (g5_ z0),I (g6_ z0),.os 16,.os 17],.non,.non,.non,.non,.non,.non,.non,.non,v5_ (g7_ z0),v2_ (g8_ z0),v4_ (g9_ z0),v0_ (Dp z0),v3_ (He z0),v5_ (Io z0),v1_ (Im z0),v1_ (Td z0),v7_ (Ac1 z0)]
def Xe (y3:(List Ah)) (n0:Nat) (y12:Av×(List Ao)×Int) (n1:Nat) (z1:K_):St:=[(0,dO 0 0),(3,dO 9 0),(4,dS 10),(28,dS 11),(29,dI (ln y3)),(30,dI (cnt 0 n0)),(89,.d (DS q63 y12.2.1)),(90,dI (ln y12.2.1)),(91,dI (cnt 0 n1))]
def yW (x1:A5) (y3:(List Ah)) (y16:List Av) (n1:Nat) (z1:K_):List Res:=[.box 119 [I z1.1,.os 12,.os 13,.os 14,.os 15,.os 16,.os 17,I z1.2.1,DS q70 z1.2.2.1,DS q72 (g3_ z1),DS q81 (g4_ z1),I (g5_ z1),I (g6_ z1),.os 18,.os 19],.non,.non,.non,.non,.non,.non,.non,.non,.box 33 (d33 x1),v5_ y16,v8_ y3,v2_ (g7_ z1),v4_ (g8_ z1),v0_ (g9_ z1),v3_ (Dp z1),v5_ (He z1),v1_ (Io z1),v1_ (Im z1),v7_ (Ql z1)]
def Ae0 (y3:(List Ah)) (n0:Nat) (z1:K_):St:=[(0,dO 0 0),(3,dO 9 0),(4,dS 10),(28,dS 11),(29,dI (ln y3)),(30,dI (cnt 0 n0))]
def Ahs (x1:A5) (y3:(List Ah)) (y16:List Av) (z1:K_):List Res:=[.box 119 [I z1.1,.os 12,.os 13,.os 14,.os 15,.os 16,.os 17,I z1.2.1,DS q70 z1.2.2.1,DS q72 (g3_ z1),DS q81 (g4_ z1),I (g5_ z1),I (g6_ z1),.os 18,.os 19],.non,.non,.non,.non,.non,.non,.non,.non,.box 33 (d33 x1),v5_ y16,v8_ y3,v2_ (g7_ z1),v4_ (g8_ z1),v0_ (g9_ z1),v3_ (Dp z1),v5_ (He z1),v1_ (Io z1),v1_ (Im z1),v7_ (Ql z1)]
theorem A6q (x0:A4) (x1:A5) (r:A4) (h:qJ x0 x1=some r):CO 77 [.d (.o 0 0),.agg (d33 x1)] (.box 119 (I x0.A0.Time :: .os 1 :: .os 2 :: .os 3 :: .os 4 :: .os 5 :: .os 6::zb x0.Al [.os 7,.os 8])::zp x0.A0.Power [v5_ x0.A0.A2,v1_ x0.A0.A8,v1_ x0.events,v7_ x0.states]) (.tup []) (.box 119 (I r.A0.Time :: .os 9 :: .os 10 :: .os 11 :: .os 12 :: .os 13 :: .os 14::zb r.Al [.os 15,.os 16]) :: .non :: .non :: .non :: .non :: .non :: .non :: .non :: .non::zp r.A0.Power [v5_ r.A0.A2,v1_ r.A0.A8,v1_ r.events,v7_ r.states]):=by
 unfold qJ at h
 refine co 105 Tryz.func77 λ C hC=>?_
 obtain⟨y1,h2,y3,h4,h⟩:=Bc h
 refine ws Jb 28 [] [pc A9y (A8x x0.Al.An _ h2) [],pc Azt (Azo x0.Al x0.A0.Power _ h4) [1,2,3,4],pl Bg y3] [.mv 1,.mv 2,.mv 3,.mv 4,.mv 5,.mv 6,.mv 7,.mv 8] 9 vJ (Pv y3 0 (x0.A0.Time,zt x0.Al (y1,zu x0.A0.Power (x0.A0.A2,x0.A0.A8,x0.events,x0.states)))) (V_ x1 y3 0 (x0.A0.Time,zt x0.Al (y1,zu x0.A0.Power (x0.A0.A2,x0.A0.A8,x0.events,x0.states)))) hC [] ?_
 obtain⟨w0,hm0,hret0,hnext0⟩:=As h
 clear h
 refine wc w0 (Ae1) (Aht) ?_ λ z0 hs0=>?_
 ·refine wb ?_
  refine Cm 28 11 rfl rfl λ hl0=>?_
  refine wl (Pv y3) (V_ x1 y3) hm0 (λ z0 hn0=>?_) λ n0 a0 z0 w0b hi0 hx0 h hb0 hr0=>?_
  ·clear hm0
   exact wx w0 (Ae1) (Aht) Jb 26 [false] [] [] 9 [0,1,2,3,4,5,6,7,8,10,12,13,14,15,16,17,18,19] _ hC [pq (Bf hl0)] hn0
  ·unfold Yu at h
   obtain⟨y5,h6,y7,h8,h⟩:=Bc h
   refine wn Jb 35 [true] [pr Bg (Bp hx0 hl0),pn Bg (Bp hx0 hl0),pr pI h6,pl pI a0.Ac,pv Ayh (λ hg=>Axy (⟨z0.2.1,z0.2.2.1,(g3_ z0),(g4_ z0),(g5_ z0),(g6_ z0)⟩:Aa) (⟨(g8_ z0),(g9_ z0),(Dp z0),(He z0)⟩:Ab) y5 _ (Ba h8 hg))] [] 9 vJ [0,3,4,7,28,29,30,55] hC [pq (A9 hi0 hl0)] ?_
   rcases cB h with⟨h9,h⟩ | ⟨h9,h⟩
   ·exact wx w0b (Pv y3 (n0+1)) (V_ x1 y3 (n0+1)) Jb 24 [true] [] [] 9 vJ _ hC [pq h9] (sI h).symm
   ·obtain⟨y10,h11,y12,h13,y14,h15,y16,h17,h⟩:=Cv h
    refine ws Jb 29 [false] [⟨.flts [.box 84 [I 0,I 0]],trivial⟩,pr q84 h11,pn q84 h11,pc A5q (A4b (⟨z0.2.1,z0.2.2.1,(g3_ z0),(g4_ z0),(g5_ z0),(g6_ z0)⟩:Aa) x1 (⟨(g8_ z0),(g9_ z0),(Dp z0),(He z0)⟩:Ab) y5 z0.1 y10 _ h13) [12,13,14,15],⟨.flt 20 (.box 84 [I 0,I 0]) (.box 84 [I 0,I 0]),rfl⟩,pr q84 h15,pu q84 h15 h17,pl q63 y12.2.1] [] 9 vJ (Xe y3 n0 y12 0 (z0.1,z0.2.1,z0.2.2.1,(g3_ z0),(g4_ z0),(g5_ z0),(g6_ z0),(g8_ z0),(g9_ z0),(Dp z0),(He z0),(Io z0),(Im z0),(Td z0),(Ac1 z0))) (yW x1 y3 y16 0 (z0.1,z0.2.1,z0.2.2.1,(g3_ z0),(g4_ z0),(g5_ z0),(g6_ z0),(g8_ z0),(g9_ z0),(Dp z0),(He z0),(Io z0),(Im z0),(Td z0),(Ac1 z0))) hC [pq h9] ?_
    obtain⟨w1,hm1,hret1,hnext1⟩:=As h
    clear h
    refine wc w1 (Ae0 y3 n0) (Ahs x1 y3 y16) ?_ λ z1 hs1=>?_
    ·refine wb ?_
     refine Bt 89 rfl λ hl1=>?_
     refine wl (Xe y3 n0 y12) (yW x1 y3 y16) hm1 (λ z1 hn1=>?_) λ n1 a1 z1 w1b hi1 hx1 h hb1 hr1=>?_
     ·clear hm1
      exact wx w1 (Ae0 y3 n0) (Ahs x1 y3 y16) Jb 26 [false] [] [] 9 vJ _ hC [pq (Bf hl1)] hn1
     ·unfold Q9 at h
      obtain⟨y18,h19,h⟩:=Az h
      exact wx w1b (Xe y3 n0 y12 (n1+1)) (yW x1 y3 y16 (n1+1)) Jb 33 [true] [pt hx1 hl1,pc Azs (Azn (⟨(⟨z1.1,(⟨(g7_ z1),(g8_ z1),(g9_ z1),(Dp z1)⟩:Ab),(He z1),(Io z1)⟩:Ar),(⟨z1.2.1,z1.2.2.1,(g3_ z1),(g4_ z1),(g5_ z1),(g6_ z1)⟩:Aa),(Im z1),(Ql z1)⟩:A4) a1 _ h19) [0,12,13,14,15,16,17,18,19]] [] 9 [0,1,2,3,4,5,6,7,8,9,10,11,21,22,23,24,16,17,25,26] _ hC [pq (A9 hi1 hl1)] (sI h).symm
    ·have h:=hnext1 _ hs1
     exact wx w0b (Pv y3 (n0+1)) (V_ x1 y3 (n0+1)) Jb 23 [] [] [] 9 vJ _ hC [] (sI h).symm
 ·have h:=hnext0 _ hs0
  replace h:=sI h
  subst h
  exact wf Jb 21 [] [] [] 9 [0,1,2,3,4,5,6,7,8,10,11,12,13,9,15,16,17] hC []
theorem A68:EN 77:=en Tryz.func77
def vU:List Nat:=[0,1,2,3,4,5,6,8,9,10,11,13,14,19,23,27,38,39,40,41]
def Aei (x3:List Ao) (n0:Nat) (z0:K_):St:=[(4,dO 0 0),(5,dO 1 0),(8,.d (.p (.v (.pointer none)))),(9,dI 0),(11,dO 2 0),(38,.d (DS q63 x3)),(39,dI (ln x3)),(40,dI (cnt 0 n0))]
def Ap5 (x0:Aa) (x1:A5) (n0:Nat) (z0:K_):List Res:=[.box 30 (d30 x0),.box 33 (d33 x1),.box 119 [I z0.1,.os 3,.os 4,.os 5,.os 6,.os 7,.os 8,I z0.2.1,DS q70 z0.2.2.1,DS q72 (g3_ z0),DS q81 (g4_ z0),I (g5_ z0),I (g6_ z0),.os 9,.os 10],v2_ (g7_ z0),v4_ (g8_ z0),v0_ (g9_ z0),v3_ (Dp z0),v5_ (He z0),v1_ (Io z0),v1_ (Im z0),v7_ (Ql z0)]
def Asa  (z0:K_):St:=[(4,dO 0 0),(5,dO 1 0),(8,.d (.p (.v (.pointer none)))),(9,dI 0),(11,dO 2 0)]
def Av2 (x0:Aa) (x1:A5) (z0:K_):List Res:=[.box 30 (d30 x0),.box 33 (d33 x1),.box 119 [I z0.1,.os 3,.os 4,.os 5,.os 6,.os 7,.os 8,I z0.2.1,DS q70 z0.2.2.1,DS q72 (g3_ z0),DS q81 (g4_ z0),I (g5_ z0),I (g6_ z0),.os 9,.os 10],v2_ (g7_ z0),v4_ (g8_ z0),v0_ (g9_ z0),v3_ (Dp z0),v5_ (He z0),v1_ (Io z0),v1_ (Im z0),v7_ (Ql z0)]
theorem k53 (x0:Aa) (x1:A5) (x2:Ar) (x3:List Ao) (r:A4×Int) (h:F53 x0 x1 x2 x3=some r):CO 53 [.agg (d30 x0),.agg (d33 x1),.agg (d43 x2),.d (DS q63 x3)] [] (.tup [.d (.o 0 0),.d (I r.2)]) (.box 119 (I r.1.A0.Time :: .os 1 :: .os 2 :: .os 3 :: .os 4 :: .os 5 :: .os 6::zb r.1.Al [.os 7,.os 8])::zp r.1.A0.Power [v5_ r.1.A0.A2,v1_ r.1.A0.A8,v1_ r.1.events,v7_ r.1.states]):=by
 unfold F53 at h
 refine co 109 Tryz.func53 λ C hC=>?_
 obtain⟨y1,h2,h⟩:=Az h
 refine wn vU 29 [] [pc e29 (k29 x0 x1 x2 _ h2) []] [] 0 n3_ [3,4,5,6,8,9,10,19] hC [] ?_
 rcases cB h with⟨h3,h⟩ | ⟨h3,h⟩
 ·cases h
 ·rcases cB h with⟨h4,h⟩ | ⟨h4,h⟩
  ·cases h
  ·rcases cB h with⟨h5,h⟩ | ⟨h5,h⟩
   ·cases h
   ·obtain⟨y6,h7,y8,h9,h⟩:=Bc h
    refine ws vU 37 [false,false,false] [pl q63 x3,pc e74 (k74 x0 x2 _ h7) [],pc A7a (A6s y6 x2.Power _ h9) [3,4,5,6,7,8,9,10,11],pl q63 x3] [] 0 [0,1,3,4,5,6,7,8,9,10,12] (Aei x3 0 (y8.A0.Time,zt y8.Al (zu y8.A0.Power (y8.A0.A2,y8.A0.A8,y8.events,y8.states)))) (Ap5 x0 x1 0 (y8.A0.Time,zt y8.Al (zu y8.A0.Power (y8.A0.A2,y8.A0.A8,y8.events,y8.states)))) hC [pq h3,pq h4,pq h5] ?_
    obtain⟨w0,hm0,hret0,hnext0⟩:=As h
    clear h
    refine wc w0 (Asa) (Av2 x0 x1) ?_ λ z0 hs0=>?_
    ·refine wb ?_
     refine Bt 38 rfl λ hl0=>?_
     refine wl (Aei x3) (Ap5 x0 x1) hm0 (λ z0 hn0=>?_) λ n0 a0 z0 w0b hi0 hx0 h hb0 hr0=>?_
     ·clear hm0
      exact wx w0 (Asa) (Av2 x0 x1) vU 26 [false] [] [] 0 An3 _ hC [pq (Bf hl0)] hn0
     ·unfold Awm at h
      obtain⟨y10,h11,h⟩:=Az h
      exact wx w0b (Aei x3 (n0+1)) (Ap5 x0 x1 (n0+1)) vU 33 [true] [pt hx0 hl0,pc Azs (Azn (⟨(⟨z0.1,(⟨(g7_ z0),(g8_ z0),(g9_ z0),(Dp z0)⟩:Ab),(He z0),(Io z0)⟩:Ar),(⟨z0.2.1,z0.2.2.1,(g3_ z0),(g4_ z0),(g5_ z0),(g6_ z0)⟩:Aa),(Im z0),(Ql z0)⟩:A4) a0 _ h11) [2,3,4,5,6,7,8,9,10]] [] 0 [0,1,2,12,13,14,15,7,8,16,17] _ hC [pq (A9 hi0 hl0)] (sI h).symm
    ·have h:=hnext0 _ hs0
     obtain⟨y12,h13,y14,h15,y16,h17,y18,h19,h⟩:=Cv h
     refine wn vU 11 [] [pc A68 (A6q (⟨(⟨z0.1,(⟨(g7_ z0),(g8_ z0),(g9_ z0),(Dp z0)⟩:Ab),(He z0),(Io z0)⟩:Ar),(⟨z0.2.1,z0.2.2.1,(g3_ z0),(g4_ z0),(g5_ z0),(g6_ z0)⟩:Aa),(Im z0),(Ql z0)⟩:A4) x1 _ h13) [2,3,4,5,6,7,8,9,10],⟨.call 78 [.agg (d30 x0),.agg [.os 0,.os 1,.os 2,.os 3],dI y12.A0.Time,.agg [I 7,I 0,I 0]] (zp y12.A0.Power []) (.tup [.agg [.os 4,.os 5,.os 6,.os 7],dI y14.2]) (zp y12.A0.Power (zp y14.1 [])) [11,12,13,14],⟨e78,((k78 x0 y12.A0.Power y12.A0.Time (⟨7,0,0⟩:Ao) _ h15).lend (by kernel_rfl) (by kernel_rfl) (by kernel_rfl) ⟨Be (λ _=>rfl),Be (λ _=>rfl),Be (λ _=>rfl),Be (λ _=>rfl),trivial⟩ (by kernel_rfl) (by kernel_rfl))⟩⟩,pc A69 (A6r (⟨(⟨y12.A0.Time,y14.1,y12.A0.A2,y12.A0.A8⟩:Ar),y12.Al,y12.events,y12.states⟩:A4) y14.1 _ h17) [2,19,20,21,22,15,16,17,18],pa q65 5 h19] [.frz 24] 0 [2,15,16,17,19,20,21,22,23] [8,9,11,14] hC [] ?_
     obtain⟨y21,h20,y22,h23,h⟩:=Bc h
     replace h:=sI h
     subst h
     exact wr vU 24 [] [pl q65 y18,⟨.cut (y18.map q65) 5 (max 0 (w64 ((ln y18)-200))) (ln (y18.map q65)) (y21.map q65),Akq q65 5 (λ _=>rfl) h20⟩,pc e79 (k79 y21 _ h23) []] [] 0 [0,4,5,6,7,1,9,3,8] hC []
theorem e53:EN 53:=en Tryz.func53
def Axm:List Nat:=[0,1,2,3,4,5,6,8,9,10,11,12,22]
theorem k31 (x0:Aa) (x1:A5) (x2:Ar) (x3:List Ao) (r:Ar×(List A6)×Int) (h:F31 x0 x1 x2 x3=some r):CO 31 [.agg (d30 x0),.agg (d33 x1),.agg (d43 x2),.d (DS q63 x3)] [] (.tup [.agg [I r.1.Time,.os 0,.os 1,.os 2,.os 3,.os 4,.os 5],.d (.os 6),.d (I r.2.2)]) (zp r.1.Power [v5_ r.1.A2,v1_ r.1.A8,v1_ r.2.1]):=by
 unfold F31 at h
 refine co 33 Tryz.func31 λ C hC=>?_
 obtain⟨y1,h2,h⟩:=Az h
 refine wn Axm 28 [] [pc e53 (k53 x0 x1 x2 x3 _ h2) []] [.ownb 3 1 4 1,.ownb 3 2 93 4,.ownb 3 3 3 1,.ownb 3 4 96 2,.ownb 3 5 84 2,.ownb 3 6 65 5] 0 [3,4,5,6,7,8,9,10,11,12,13,14,15,16,17,18] [8,9,10,11,12,22] hC [] ?_
 rcases cB h with⟨h3,h⟩ | ⟨h3,h⟩
 ·replace h:=sI h
  subst h
  exact wr Axm 24 [true] [] [.ownb 0 1 4 1,.ownb 0 2 93 4,.ownb 0 3 3 1,.ownb 0 4 96 2,.ownb 0 5 84 2,.ownb 0 6 65 5,.own 9 65 5] 0 [16,17,18,19,20,21,22] hC [pq h3]
 ·replace h:=sI h
  subst h
  exact wr Axm 25 [false] [] [] 0 [2,3,4,5,6,7,8] hC [pq h3]
theorem e31:EN 31:=en Tryz.func31
def Oc:List Nat:=[0,1,2,3,4,5,6,7,10,11,12,13,14,15,16,17,19,20,30,40,48,49,50,67]
def Aet (x3:List (List Ao)) (x4:Int) (z0:Sg1):St:=[(3,.d (DS (pL q63) x3)),(4,dI x4),(5,dO 0 0),(6,dO 1 0),(10,.d (DS (pK .u64) [])),(11,dO 2 0),(12,dI 0),(14,dO 15 0),(15,dS 16),(48,dI (w64 ((ln x3)-x4))),(49,dI z0.1)]
def Aqg (x0:Aa) (x1:A5) (z0:Sg1):List Res:=(.box 30 (d30 x0) :: .box 33 (d33 x1) :: .box 43 [I 0,.os 3,.os 4,.os 5,.os 6,.os 7,.os 8]::ze [v5_ ([]:List Av),v1_ ([]:List A6),v2_ z0.2.1,v4_ z0.2.2.1,v0_ (g3_ z0),v3_ (g4_ z0),v5_ (g5_ z0),v1_ (g6_ z0),.box 43 [I (g7_ z0),.os 9,.os 10,.os 11,.os 12,.os 13,.os 14],.sl 67 1 (z0.2.2.2.2.2.2.2.2.map (pK .u64))])
def Aso  (z0:Sg1):St:=[(10,.d (DS (pK .u64) [])),(11,dO 0 0),(12,dI 0),(14,dO 13 0),(15,dS 14)]
def Awe  (z0:Sg1):List Res:=(.box 43 [I 0,.os 1,.os 2,.os 3,.os 4,.os 5,.os 6]::ze [v5_ ([]:List Av),v1_ ([]:List A6),v2_ z0.2.1,v4_ z0.2.2.1,v0_ (g3_ z0),v3_ (g4_ z0),v5_ (g5_ z0),v1_ (g6_ z0),.box 43 [I (g7_ z0),.os 7,.os 8,.os 9,.os 10,.os 11,.os 12],.sl 67 1 (z0.2.2.2.2.2.2.2.2.map (pK .u64))])
theorem k15 (x0:Aa) (x1:A5) (x2:Ar) (x3:List (List Ao)) (x4:Int) (r:(List Int)×Ar×Int) (h:F15 x0 x1 x2 x3 x4=some r):CO 15 [.agg (d30 x0),.agg (d33 x1),.agg (d43 x2),.d (DS (pL q63) x3),.d (I x4)] [] (.tup [.d (.os 0),.agg [I r.2.1.Time,.os 1,.os 2,.os 3,.os 4,.os 5,.os 6],.d (I r.2.2)]) (.sl 67 1 (r.1.map (pK .u64))::zp r.2.1.Power [v5_ r.2.1.A2,v1_ r.2.1.A8]):=by
 unfold F15 at h
 refine co 79 Tryz.func15 λ C hC=>?_
 rcases cB h with⟨h1,h⟩ | ⟨h1,h⟩
 ·replace h:=sI h
  subst h
  exact wr Oc 30 [true] [pL_ [(decide (x4<0),false)] (pL q63) x3] [.own 10 67 1,.ownb 3 1 4 1,.ownb 3 2 93 4,.ownb 3 3 3 1,.ownb 3 4 96 2,.ownb 3 5 84 2,.ownb 3 6 65 5] 0 [4,5,6,7,8,9,10] hC [pq h1]
 ·rcases cB h with⟨h2,h⟩ | ⟨h2,h⟩
  ·replace h:=sI h
   subst h
   exact wr Oc 33 [false,true] [pL_ [(decide (x4<0),false)] (pL q63) x3,pl (pL q63) x3] [.own 10 67 1,.ownb 3 1 4 1,.ownb 3 2 93 4,.ownb 3 3 3 1,.ownb 3 4 96 2,.ownb 3 5 84 2,.ownb 3 6 65 5] 0 [4,5,6,7,8,9,10] hC [pq h1,pq h2]
  ·obtain⟨y3,h4,h⟩:=Az h
   refine wn Oc 38 [false,false] [pL_ [(decide (x4<0),false)] (pL q63) x3,pl (pL q63) x3,pc e29 (k29 x0 x1 x2 _ h4) []] [.ownb 3 1 4 1,.ownb 3 2 93 4,.ownb 3 3 3 1,.ownb 3 4 96 2,.ownb 3 5 84 2,.ownb 3 6 65 5] 0 Gx [3,4,5,6,7,10,11,12,13,40] hC [pq h1,pq h2] ?_
   rcases cB h with⟨h5,h⟩ | ⟨h5,h⟩
   ·replace h:=sI h
    subst h
    exact wr Oc 24 [true] [] [.own 10 67 1,.ownb 3 1 4 1,.ownb 3 2 93 4,.ownb 3 3 3 1,.ownb 3 4 96 2,.ownb 3 5 84 2,.ownb 3 6 65 5] 0 [10,11,12,13,14,15,16] hC [pq h5]
   ·obtain⟨y6,h7,h⟩:=Az h
    refine ws Oc 30 [false] [pc e30 (k30 x2 _ h7) [],pl (pL q63) x3] [.own 15 67 1] 0 [0,1,3,4,5,6,7,8,9,10,11,12,13,14,15,16,17] (Aet x3 x4 (0,zu y6.Power (y6.A2,y6.A8,y6.Time,([]:List Int)))) (Aqg x0 x1 (0,zu y6.Power (y6.A2,y6.A8,y6.Time,([]:List Int)))) hC [pq h5] ?_
    obtain⟨w0,hm0,hret0,hnext0⟩:=As h
    clear h
    refine wc w0 (Aso) (Awe) ?_ λ z0 hs0=>?_
    ·refine wb ?_
     refine ww (Aet x3 x4) (Aqg x0 x1) hm0 λ z0 w0b h hb0 hr0=>?_
     unfold Aju at h
     rcases cB h with⟨h8,h⟩ | ⟨h8,h⟩
     ·obtain⟨y9,h10,y11,h12,h⟩:=Bc h
      refine wn Oc 35 [true] [⟨.flts [.box 43 [I 0,.p (.v (.slice none 0 0)),.p (.v (.slice none 0 0)),.p (.v (.slice none 0 0)),.p (.v (.slice none 0 0)),.p (.v (.slice none 0 0)),.p (.v (.slice none 0 0))]],trivial⟩,pr (pL q63) h10,⟨.call 31 [.agg (d30 x0),.agg (d33 x1),.agg [I (g7_ z0),.os 0,.os 1,.os 2,.os 3,.os 4,.os 5],.d (DS q63 y9)] [v2_ z0.2.1,v4_ z0.2.2.1,v0_ (g3_ z0),v3_ (g4_ z0),v5_ (g5_ z0),v1_ (g6_ z0)] (.tup [.agg [I y11.1.Time,.os 6,.os 7,.os 8,.os 9,.os 10,.os 11],dS 12,dI y11.2.2]) (v2_ z0.2.1::v4_ z0.2.2.1::v0_ (g3_ z0)::v3_ (g4_ z0)::v5_ (g5_ z0)::v1_ (g6_ z0)::zp y11.1.Power [v5_ y11.1.A2,v1_ y11.1.A8,v1_ y11.2.1]) [9,10,11,12,13,14],⟨e31,((k31 x0 x1 (⟨(g7_ z0),(⟨z0.2.1,z0.2.2.1,(g3_ z0),(g4_ z0)⟩:Ab),(g5_ z0),(g6_ z0)⟩:Ar) y9 _ h12).lend (by kernel_rfl) (by kernel_rfl) (by kernel_rfl) ⟨Be (λ _=>rfl),Be (λ _=>rfl),Be (λ _=>rfl),Be (λ _=>rfl),Be (λ _=>rfl),Be (λ _=>rfl),Be (λ _=>rfl),trivial⟩ (by kernel_rfl) (by kernel_rfl))⟩⟩,⟨.flt 17 (.box 43 [I 0,.p (.v (.slice none 0 0)),.p (.v (.slice none 0 0)),.p (.v (.slice none 0 0)),.p (.v (.slice none 0 0)),.p (.v (.slice none 0 0)),.p (.v (.slice none 0 0))]) (.box 43 [I 0,.p (.v (.slice none 0 0)),.p (.v (.slice none 0 0)),.p (.v (.slice none 0 0)),.p (.v (.slice none 0 0)),.p (.v (.slice none 0 0)),.p (.v (.slice none 0 0))]),rfl⟩] [] 0 A7x [3,4,5,6,10,11,12,14,15,17,19,48,49,67] hC [pq h8] ?_
      rcases cB h with⟨h13,h⟩ | ⟨h13,h⟩
      ·have hq:=hret0 _ (hr0 _ (sI h).symm)
       replace hq:=sI hq
       subst hq
       exact wr Oc 24 [true] [] [.own 10 67 1,.ownb 2 1 4 1,.ownb 2 2 93 4,.ownb 2 3 3 1,.ownb 2 4 96 2,.ownb 2 5 84 2,.ownb 2 6 65 5] 0 [24,25,26,27,28,29,30] hC [pq h13]
      ·obtain⟨y14,h15,y16,h17,h⟩:=Bc h
       exact wx w0b (Aet x3 x4) (Aqg x0 x1) Oc 28 [false] [pb e23 (k23 y11.1 _ h15),pa (pK .u64) 1 h17] [] 0 [0,1,2,3,4,5,6,7,8,18,19,20,21,22,23,15,24] _ hC [pq h13] (sI h).symm
     ·exact wx w0 (Aso) (Awe) Oc 26 [false] [] [] 0 [2,3,4,5,6,7,8,9,10,11,12,13,14,15,16] (z0.1,z0.2.1,z0.2.2.1,(g3_ z0),(g4_ z0),(g5_ z0),(g6_ z0),(g7_ z0),(yD z0)) hC [pq h8] (hb0 _ (sI h).symm)
    ·have h:=hnext0 _ hs0
     replace h:=sI h
     subst h
     exact wr Oc 23 [] [] [] 0 [14,7,8,9,10,11,12] hC []
theorem e15:EN 15:=en Tryz.func15
theorem k14 (x0:Aa) (x1:A5) (x2:Ar) (x3:List (List Ao)) (r:(List Int)×Ar×Int) (h:F14 x0 x1 x2 x3=some r):CO 14 [.agg (d30 x0),.agg (d33 x1),.agg (d43 x2),.d (DS (pL q63) x3)] [] (.tup [.d (.os 0),.agg [I r.2.1.Time,.os 1,.os 2,.os 3,.os 4,.os 5,.os 6],.d (I r.2.2)]) (.sl 67 1 (r.1.map (pK .u64))::zp r.2.1.Power [v5_ r.2.1.A2,v1_ r.2.1.A8]):=by
 unfold F14 at h
 refine co 19 Tryz.func14 λ C hC=>?_
 obtain⟨y1,h2,h⟩:=Az h
 replace h:=sI h
 subst h
 exact wr [0,1,2,3,4,5,6,8,9,10] 25 [] [pc e15 (k15 x0 x1 x2 x3 0 _ h2) []] [] 0 [4,5,6,7,8,9,10] hC []
theorem e14:EN 14:=en Tryz.func14
def Axn:List Nat:=[0,1,2,3,4,5,6,7,10,11,12,14,15,27,39]
theorem k18 (x0:Aa) (x1:A5) (x2:Ar) (x3:List (List Ao)) (x4:List (List Ao)) (r:Int×Int) (h:F18 x0 x1 x2 x3 x4=some r):CO 18 [.agg (d30 x0),.agg (d33 x1),.agg (d43 x2),.d (DS (pL q63) x3),.d (DS (pL q63) x4)] [] (.tup [.d (I r.1),.d (I r.2)]) []:=by
 unfold F18 at h
 refine co 44 Tryz.func18 λ C hC=>?_
 obtain⟨y1,h2,h⟩:=Az h
 refine wn Axn 28 [] [pc e14 (k14 x0 x1 x2 x3 _ h2) []] [] 0 n4_ [4,5,6,7,10,11,12,14,27] hC [] ?_
 rcases cB h with⟨h3,h⟩ | ⟨h3,h⟩
 ·cases h
 ·obtain⟨y4,h5,h⟩:=Az h
  refine wn Axn 28 [false] [pc e14 (k14 x0 x1 x2 x4 _ h5) []] [] 0 [3,4] [10,11,12,14,15,39] hC [pq h3] ?_
  rcases cB h with⟨h6,h⟩ | ⟨h6,h⟩
  ·cases h
  ·obtain⟨y7,h8,h⟩:=Az h
   replace h:=sI h
   subst h
   exact wr Axn 25 [false] [pb e25 (k25 y1.1 y4.1 _ h8)] [] 0 [] hC [pq h6]
theorem e18:EN 18:=en Tryz.func18
theorem k8  (r:Bool) (h:F8  = some r):CO 8 [] [] (.d (Bo r)) []:=by
 unfold F8 at h
 refine co 59 Tryz.func8 λ C hC=>?_
 obtain⟨y1,h2,y3,h4,y5,h6,h⟩:=B3 h
 obtain⟨y7,h8,y9,h10,h⟩:=Bc h
 replace h:=sI h
 subst h
 exact wr n8_ 33 [] [pc e24 (k24 (⟨1,[(⟨2,0,0⟩:Ai)],[(⟨10,0,0⟩:Bh)],[],0,0⟩:Aa) (⟨80,10,1⟩:A5) _ h2) [],pb e18 (k18 (⟨1,[(⟨2,0,0⟩:Ai)],[(⟨10,0,0⟩:Bh)],[],0,0⟩:Aa) (⟨80,10,1⟩:A5) y1.1 [([]:List Ao),([]:List Ao),([]:List Ao),[(⟨3,0,0⟩:Ao)],([]:List Ao)] [([]:List Ao),([]:List Ao),([]:List Ao),([]:List Ao),([]:List Ao)] _ h4),pv e22 (λ hg=>k22 y1.1 _ (Ba h6 hg)),pw e25 (λ hg=>k25 [1,2] [1,3] _ (Ba h8 hg)) [],pw e25 (λ hg=>k25 [1] [1] _ (Ba h10 hg)) []] [] 0 [] hC []
theorem e8:EN 8:=en Tryz.func8
theorem k7 (x0:List Int) (r:Bool) (h:F7 x0=some r):CO 7 [.d (DS pI x0)] [] (.d (Bo r)) []:=by
 unfold F7 at h
 refine co 78 Tryz.func7 λ C hC=>?_
 rcases cB h with⟨h1,h⟩ | ⟨h1,h⟩
 ·obtain⟨y2,h3,h⟩:=Az h
  replace h:=sI h
  subst h
  exact wr [0,2,3,4,5,6,7,8,9,10,11,12,15] 29 [true] [pl pI x0,pc e8 (k8  _ h3) []] [] 0 [] hC [pq h1]
 ·obtain⟨y4,h5,y6,h7,y8,h9,y10,h11,h⟩:=Cv h
  obtain⟨y12,h13,y14,h15,y16,h17,y18,h19,h⟩:=Cv h
  obtain⟨y20,h21,y22,h23,y24,h25,h⟩:=B3 h
  obtain⟨y26,h27,y28,h29,h⟩:=Bc h
  replace h:=sI h
  subst h
  exact wr [0,2,3,4,5,6,7,8,9,10,11,12,15] 40 [false] [pl pI x0,pc e9 (k9 x0 _ h5) [],pc e10 (k10 y4 _ h7) [0],pc e11 (k11 y6.2 _ h9) [0],pc A7g (A6y y8.2 y6.1 _ h11) n4_,⟨.flts [.zsl 58 1 (y12.map (pL q63)),.box 43 [I 0,.p (.v (.slice none 0 0)),.p (.v (.slice none 0 0)),.p (.v (.slice none 0 0)),.p (.v (.slice none 0 0)),.p (.v (.slice none 0 0)),.p (.v (.slice none 0 0))]],trivial⟩,⟨.fltm 13 (.roomZ (4*(24+1)) (List.replicate 4 ((pL q63) ([]:List Ao))) (y12.map (pL q63))) (.zsl 58 1 (y12.map (pL q63))) (.zsl 58 1 (y12.map (pL q63))),⟨Kn h13,rfl⟩⟩,⟨.call 14 [.agg [I y6.1.An,.os 0,.os 1,.os 2,I y6.1.Phase,I y6.1.Aq],.agg (d33 y8.1),.agg [I y10.1.Time,.os 3,.os 4,.os 5,.os 6,.os 7,.os 8],dS 9] (zs y6.1 (zp y10.1.Power [v5_ y10.1.A2,v1_ y10.1.A8,.zsl 58 1 (y12.map (pL q63))])) (.tup [dS 10,.agg [I y14.2.1.Time,.os 11,.os 12,.os 13,.os 14,.os 15,.os 16],dI y14.2.2]) (zs y6.1 (zp y10.1.Power (v5_ y10.1.A2::v1_ y10.1.A8 :: .zsl 58 1 (y12.map (pL q63)) :: .sl 67 1 (y14.1.map (pK .u64))::zp y14.2.1.Power [v5_ y14.2.1.A2,v1_ y14.2.1.A8]))) [1,2,3,6,7,8,9,10,11,13],⟨e14,((k14 y6.1 y8.1 y10.1 y12 _ h15).lend (by kernel_rfl) (by kernel_rfl) (by kernel_rfl) ⟨Be (λ _=>rfl),Be (λ _=>rfl),Be (λ _=>rfl),Be (λ _=>rfl),Be (λ _=>rfl),Be (λ _=>rfl),Be (λ _=>rfl),trivial⟩ (by kernel_rfl) (by kernel_rfl))⟩⟩,⟨.flt 14 (.box 43 [I 0,.p (.v (.slice none 0 0)),.p (.v (.slice none 0 0)),.p (.v (.slice none 0 0)),.p (.v (.slice none 0 0)),.p (.v (.slice none 0 0)),.p (.v (.slice none 0 0))]) (.box 43 [I 0,.p (.v (.slice none 0 0)),.p (.v (.slice none 0 0)),.p (.v (.slice none 0 0)),.p (.v (.slice none 0 0)),.p (.v (.slice none 0 0)),.p (.v (.slice none 0 0))]),rfl⟩,⟨.flts [.zsl 58 1 (y16.map (pL q63)),.box 43 [I 0,.p (.v (.slice none 0 0)),.p (.v (.slice none 0 0)),.p (.v (.slice none 0 0)),.p (.v (.slice none 0 0)),.p (.v (.slice none 0 0)),.p (.v (.slice none 0 0))]],trivial⟩,⟨.fltm 22 (.roomZ (4*(24+1)) (List.replicate 4 ((pL q63) ([]:List Ao))) (y16.map (pL q63))) (.zsl 58 1 (y16.map (pL q63))) (.zsl 58 1 (y16.map (pL q63))),⟨Kn h17,rfl⟩⟩,⟨.call 14 [.agg [I y6.1.An,.os 0,.os 1,.os 2,I y6.1.Phase,I y6.1.Aq],.agg (d33 y8.1),.agg [I y10.1.Time,.os 3,.os 4,.os 5,.os 6,.os 7,.os 8],dS 9] (zs y6.1 (zp y10.1.Power [v5_ y10.1.A2,v1_ y10.1.A8,.zsl 58 1 (y16.map (pL q63))])) (.tup [dS 10,.agg [I y18.2.1.Time,.os 11,.os 12,.os 13,.os 14,.os 15,.os 16],dI y18.2.2]) (zs y6.1 (zp y10.1.Power (v5_ y10.1.A2::v1_ y10.1.A8 :: .zsl 58 1 (y16.map (pL q63)) :: .sl 67 1 (y18.1.map (pK .u64))::zp y18.2.1.Power [v5_ y18.2.1.A2,v1_ y18.2.1.A8]))) [1,2,3,6,7,8,9,10,11,22],⟨e14,((k14 y6.1 y8.1 y10.1 y16 _ h19).lend (by kernel_rfl) (by kernel_rfl) (by kernel_rfl) ⟨Be (λ _=>rfl),Be (λ _=>rfl),Be (λ _=>rfl),Be (λ _=>rfl),Be (λ _=>rfl),Be (λ _=>rfl),Be (λ _=>rfl),trivial⟩ (by kernel_rfl) (by kernel_rfl))⟩⟩,⟨.flt 23 (.box 43 [I 0,.p (.v (.slice none 0 0)),.p (.v (.slice none 0 0)),.p (.v (.slice none 0 0)),.p (.v (.slice none 0 0)),.p (.v (.slice none 0 0)),.p (.v (.slice none 0 0))]) (.box 43 [I 0,.p (.v (.slice none 0 0)),.p (.v (.slice none 0 0)),.p (.v (.slice none 0 0)),.p (.v (.slice none 0 0)),.p (.v (.slice none 0 0)),.p (.v (.slice none 0 0))]),rfl⟩,pv e16 (λ hg=>k16 y14.1 y18.1 _ (Ba h21 hg)),pv e17 (λ hg=>k17 y14.2.1 y18.2.1 _ (Ba h23 hg)),pv e22 (λ hg=>k22 y14.2.1 _ (Ba h25 hg)),pv e22 (λ hg=>k22 y10.1 _ (Ba h27 hg)),pw e8 (λ hg=>k8  _ (Ba h29 hg)) []] [] 0 [] hC [pq h1]
end Go.Proofs.YtpdbkiafikdgpaaGreatDoor
