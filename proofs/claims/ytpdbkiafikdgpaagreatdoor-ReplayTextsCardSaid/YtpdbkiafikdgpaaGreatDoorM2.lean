import Derived.Test.YtpdbkiafikdgpaaGreatDoorM1
set_option linter.unusedVariables false
set_option maxHeartbeats 4000000
namespace Go.Proofs.YtpdbkiafikdgpaaGreatDoor
open Go.SL
theorem k31 (x0:Aa) (x1:Bd) (x2:Al) (x3:List A0) (r:Al×(List A3)×Int) (h:F31 x0 x1 x2 x3=some r):CO 31 [.agg (d30 x0),.agg (d33 x1),.agg (d43 x2),.d (DS q63 x3)] [] (.tup [.agg [I r.1.Time,.os 0,.os 1,.os 2,.os 3,.os 4,.os 5],.d (.os 6),.d (I r.2.2)]) (zp r.1.Power [v2_ r.1.Av,v1_ r.1.A7,v1_ r.2.1]):=by
 unfold F31 at h
 refine co 33 Tryz.func31 λ C hC=>?_
 obtain⟨y1,h2,h⟩:=Au h
 refine wn [0,1,2,3,4,5,6,8,9,10,11,12,22] 28 [] [pc e53 (k53 x0 x1 x2 x3 _ h2) []] [.ownb 3 1 4 1,.ownb 3 2 93 4,.ownb 3 3 3 1,.ownb 3 4 96 2,.ownb 3 5 84 2,.ownb 3 6 65 5] 0 [3,4,5,6,7,8,9,10,11,12,13,14,15,16,17,18] [8,9,10,11,12,22] hC [] ?_
 rcases cB h with⟨h3,h⟩ | ⟨h3,h⟩
 ·cases h
 ·replace h:=sI h
  subst h
  exact wr [0,1,2,3,4,5,6,8,9,10,11,12,22] 25 [false] [] [] 0 [2,3,4,5,6,7,8] hC [pq h3]
theorem e31:EN 31:=en Tryz.func31
def Sn:List Nat:=[0,1,2,3,4,5,6,7,10,11,12,13,14,15,16,17,19,20,30,40,48,49,50,67]
def Xk (x3:List (List A0)) (x4:Int) (z0:Sg1):St:=[(3,.d (DS (pL q63) x3)),(4,dI x4),(5,dO 0 0),(6,dO 1 0),(10,.d (DS (pK .u64) [])),(11,dO 2 0),(12,dI 0),(14,dO 15 0),(15,dS 16),(48,dI (w64 ((ln x3)-x4))),(49,dI z0.1)]
def Acx (x0:Aa) (x1:Bd) (z0:Sg1):List Res:=(.box 30 (d30 x0) :: .box 33 (d33 x1) :: .box 43 [I 0,.os 3,.os 4,.os 5,.os 6,.os 7,.os 8]::ze [v2_ ([]:List Ar),v1_ ([]:List A3),v3_ z0.2.1,v4_ z0.2.2.1,v0_ (g3_ z0),v5_ (g4_ z0),v2_ (g5_ z0),v1_ (g6_ z0),.box 43 [I (g7_ z0),.os 9,.os 10,.os 11,.os 12,.os 13,.os 14],.sl 67 1 (z0.2.2.2.2.2.2.2.2.map (pK .u64))])
def Aey  (z0:Sg1):St:=[(10,.d (DS (pK .u64) [])),(11,dO 0 0),(12,dI 0),(14,dO 13 0),(15,dS 14)]
def Aho  (z0:Sg1):List Res:=(.box 43 [I 0,.os 1,.os 2,.os 3,.os 4,.os 5,.os 6]::ze [v2_ ([]:List Ar),v1_ ([]:List A3),v3_ z0.2.1,v4_ z0.2.2.1,v0_ (g3_ z0),v5_ (g4_ z0),v2_ (g5_ z0),v1_ (g6_ z0),.box 43 [I (g7_ z0),.os 7,.os 8,.os 9,.os 10,.os 11,.os 12],.sl 67 1 (z0.2.2.2.2.2.2.2.2.map (pK .u64))])
theorem k15 (x0:Aa) (x1:Bd) (x2:Al) (x3:List (List A0)) (x4:Int) (r:(List Int)×Al×Int) (h:F15 x0 x1 x2 x3 x4=some r):CO 15 [.agg (d30 x0),.agg (d33 x1),.agg (d43 x2),.d (DS (pL q63) x3),.d (I x4)] [] (.tup [.d (.os 0),.agg [I r.2.1.Time,.os 1,.os 2,.os 3,.os 4,.os 5,.os 6],.d (I r.2.2)]) (.sl 67 1 (r.1.map (pK .u64))::zp r.2.1.Power [v2_ r.2.1.Av,v1_ r.2.1.A7]):=by
 unfold F15 at h
 refine co 79 Tryz.func15 λ C hC=>?_
 rcases cB h with⟨h1,h⟩ | ⟨h1,h⟩
 ·cases h
 ·rcases cB h with⟨h2,h⟩ | ⟨h2,h⟩
  ·cases h
  ·obtain⟨y3,h4,h⟩:=Au h
   refine wn Sn 38 [false,false] [pL_ [(decide (x4<0),false)] (pL q63) x3,pl (pL q63) x3,pc e29 (k29 x0 x1 x2 _ h4) []] [.ownb 3 1 4 1,.ownb 3 2 93 4,.ownb 3 3 3 1,.ownb 3 4 96 2,.ownb 3 5 84 2,.ownb 3 6 65 5] 0 Gl [3,4,5,6,7,10,11,12,13,40] hC [pq h1,pq h2] ?_
   rcases cB h with⟨h5,h⟩ | ⟨h5,h⟩
   ·cases h
   ·obtain⟨y6,h7,h⟩:=Au h
    refine ws Sn 30 [false] [pc e30 (k30 x2 _ h7) [],pl (pL q63) x3] [.own 15 67 1] 0 [0,1,3,4,5,6,7,8,9,10,11,12,13,14,15,16,17] (Xk x3 x4 (0,zu y6.Power (y6.Av,y6.A7,y6.Time,([]:List Int)))) (Acx x0 x1 (0,zu y6.Power (y6.Av,y6.A7,y6.Time,([]:List Int)))) hC [pq h5] ?_
    obtain⟨w0,hm0,hret0,hnext0⟩:=Ak h
    clear h
    refine wc w0 (Aey) (Aho) ?_ λ z0 hs0=>?_
    ·refine wb ?_
     refine ww (Xk x3 x4) (Acx x0 x1) hm0 λ z0 w0b h hb0 hr0=>?_
     unfold Aij at h
     rcases cB h with⟨h8,h⟩ | ⟨h8,h⟩
     ·obtain⟨y9,h10,y11,h12,h⟩:=Ba h
      refine wn Sn 35 [true] [⟨.flts [.box 43 [I 0,.p (.v (.slice none 0 0)),.p (.v (.slice none 0 0)),.p (.v (.slice none 0 0)),.p (.v (.slice none 0 0)),.p (.v (.slice none 0 0)),.p (.v (.slice none 0 0))]],trivial⟩,pr (pL q63) h10,⟨.call 31 [.agg (d30 x0),.agg (d33 x1),.agg [I (g7_ z0),.os 0,.os 1,.os 2,.os 3,.os 4,.os 5],.d (DS q63 y9)] [v3_ z0.2.1,v4_ z0.2.2.1,v0_ (g3_ z0),v5_ (g4_ z0),v2_ (g5_ z0),v1_ (g6_ z0)] (.tup [.agg [I y11.1.Time,.os 6,.os 7,.os 8,.os 9,.os 10,.os 11],dS 12,dI y11.2.2]) (v3_ z0.2.1::v4_ z0.2.2.1::v0_ (g3_ z0)::v5_ (g4_ z0)::v2_ (g5_ z0)::v1_ (g6_ z0)::zp y11.1.Power [v2_ y11.1.Av,v1_ y11.1.A7,v1_ y11.2.1]) [9,10,11,12,13,14],⟨e31,((k31 x0 x1 (⟨(g7_ z0),(⟨z0.2.1,z0.2.2.1,(g3_ z0),(g4_ z0)⟩:Ab),(g5_ z0),(g6_ z0)⟩:Al) y9 _ h12).lend (by kernel_rfl) (by kernel_rfl) (by kernel_rfl) ⟨Bc (λ _=>rfl),Bc (λ _=>rfl),Bc (λ _=>rfl),Bc (λ _=>rfl),Bc (λ _=>rfl),Bc (λ _=>rfl),Bc (λ _=>rfl),trivial⟩ (by kernel_rfl) (by kernel_rfl))⟩⟩,⟨.flt 17 (.box 43 [I 0,.p (.v (.slice none 0 0)),.p (.v (.slice none 0 0)),.p (.v (.slice none 0 0)),.p (.v (.slice none 0 0)),.p (.v (.slice none 0 0)),.p (.v (.slice none 0 0))]) (.box 43 [I 0,.p (.v (.slice none 0 0)),.p (.v (.slice none 0 0)),.p (.v (.slice none 0 0)),.p (.v (.slice none 0 0)),.p (.v (.slice none 0 0)),.p (.v (.slice none 0 0))]),rfl⟩] [] 0 Aqe [3,4,5,6,10,11,12,14,15,17,19,48,49,67] hC [pq h8] ?_
      rcases cB h with⟨h13,h⟩ | ⟨h13,h⟩
      ·cases h
      ·obtain⟨y14,h15,y16,h17,h⟩:=Ba h
       exact wx w0b (Xk x3 x4) (Acx x0 x1) Sn 28 [false] [pb e23 (k23 y11.1 _ h15),pa (pK .u64) 1 h17] [] 0 [0,1,2,3,4,5,6,7,8,18,19,20,21,22,23,15,24] _ hC [pq h13] (sI h).symm
     ·exact wx w0 (Aey) (Aho) Sn 26 [false] [] [] 0 [2,3,4,5,6,7,8,9,10,11,12,13,14,15,16] (z0.1,z0.2.1,z0.2.2.1,(g3_ z0),(g4_ z0),(g5_ z0),(g6_ z0),(g7_ z0),(Arb z0)) hC [pq h8] (hb0 _ (sI h).symm)
    ·have h:=hnext0 _ hs0
     replace h:=sI h
     subst h
     exact wr Sn 23 [] [] [] 0 [14,7,8,9,10,11,12] hC []
theorem e15:EN 15:=en Tryz.func15
theorem k14 (x0:Aa) (x1:Bd) (x2:Al) (x3:List (List A0)) (r:(List Int)×Al×Int) (h:F14 x0 x1 x2 x3=some r):CO 14 [.agg (d30 x0),.agg (d33 x1),.agg (d43 x2),.d (DS (pL q63) x3)] [] (.tup [.d (.os 0),.agg [I r.2.1.Time,.os 1,.os 2,.os 3,.os 4,.os 5,.os 6],.d (I r.2.2)]) (.sl 67 1 (r.1.map (pK .u64))::zp r.2.1.Power [v2_ r.2.1.Av,v1_ r.2.1.A7]):=by
 unfold F14 at h
 refine co 19 Tryz.func14 λ C hC=>?_
 obtain⟨y1,h2,h⟩:=Au h
 replace h:=sI h
 subst h
 exact wr [0,1,2,3,4,5,6,8,9,10] 25 [] [pc e15 (k15 x0 x1 x2 x3 0 _ h2) []] [] 0 [4,5,6,7,8,9,10] hC []
theorem e14:EN 14:=en Tryz.func14
def Ai9:List Nat:=[0,1,2,3,4,5,6,7,10,11,12,14,15,27,39]
theorem k18 (x0:Aa) (x1:Bd) (x2:Al) (x3:List (List A0)) (x4:List (List A0)) (r:Int×Int) (h:F18 x0 x1 x2 x3 x4=some r):CO 18 [.agg (d30 x0),.agg (d33 x1),.agg (d43 x2),.d (DS (pL q63) x3),.d (DS (pL q63) x4)] [] (.tup [.d (I r.1),.d (I r.2)]) []:=by
 unfold F18 at h
 refine co 44 Tryz.func18 λ C hC=>?_
 obtain⟨y1,h2,h⟩:=Au h
 refine wn Ai9 28 [] [pc e14 (k14 x0 x1 x2 x3 _ h2) []] [] 0 n4_ [4,5,6,7,10,11,12,14,27] hC [] ?_
 rcases cB h with⟨h3,h⟩ | ⟨h3,h⟩
 ·cases h
 ·obtain⟨y4,h5,h⟩:=Au h
  refine wn Ai9 28 [false] [pc e14 (k14 x0 x1 x2 x4 _ h5) []] [] 0 [3,4] [10,11,12,14,15,39] hC [pq h3] ?_
  rcases cB h with⟨h6,h⟩ | ⟨h6,h⟩
  ·cases h
  ·obtain⟨y7,h8,h⟩:=Au h
   replace h:=sI h
   subst h
   exact wr Ai9 25 [false] [pb e25 (k25 y1.1 y4.1 _ h8)] [] 0 [] hC [pq h6]
theorem e18:EN 18:=en Tryz.func18
theorem k8  (r:Bool) (h:F8  = some r):CO 8 [] [] (.d (Bo r)) []:=by
 unfold F8 at h
 refine co 59 Tryz.func8 λ C hC=>?_
 obtain⟨y1,h2,y3,h4,y5,h6,h⟩:=Cg h
 obtain⟨y7,h8,y9,h10,h⟩:=Ba h
 replace h:=sI h
 subst h
 exact wr n8_ 33 [] [pc e24 (k24 (⟨1,[(⟨2,0,0⟩:Af)],[(⟨10,0,0⟩:A8)],[],0,0⟩:Aa) (⟨80,10,1⟩:Bd) _ h2) [],pb e18 (k18 (⟨1,[(⟨2,0,0⟩:Af)],[(⟨10,0,0⟩:A8)],[],0,0⟩:Aa) (⟨80,10,1⟩:Bd) y1.1 [([]:List A0),([]:List A0),([]:List A0),[(⟨3,0,0⟩:A0)],([]:List A0)] [([]:List A0),([]:List A0),([]:List A0),([]:List A0),([]:List A0)] _ h4),pv e22 (λ hg=>k22 y1.1 _ (A9 h6 hg)),pw e25 (λ hg=>k25 [1,2] [1,3] _ (A9 h8 hg)) [],pw e25 (λ hg=>k25 [1] [1] _ (A9 h10 hg)) []] [] 0 [] hC []
theorem e8:EN 8:=en Tryz.func8
theorem k6 (x0:List Int) (r:Bool) (h:F6 x0=some r):CO 6 [.d (DS pI x0)] [] (.d (Bo r)) []:=by
 unfold F6 at h
 refine co 82 Tryz.func6 λ C hC=>?_
 rcases cB h with⟨h1,h⟩ | ⟨h1,h⟩
 ·obtain⟨y2,h3,h⟩:=Au h
  replace h:=sI h
  subst h
  exact wr [0,2,3,4,5,6,7,8,9,12] 29 [true] [pl pI x0,pc e8 (k8  _ h3) []] [] 0 [] hC [pq h1]
 ·obtain⟨y4,h5,y6,h7,y8,h9,y10,h11,h⟩:=Dt h
  obtain⟨y12,h13,y14,h15,y16,h17,y18,h19,h⟩:=Dt h
  obtain⟨y20,h21,y22,h23,y24,h25,y26,h27,h⟩:=Dt h
  obtain⟨y28,h29,y30,h31,h⟩:=Ba h
  replace h:=sI h
  subst h
  exact wr [0,2,3,4,5,6,7,8,9,12] 50 [false] [pl pI x0,pc e9 (k9 x0 _ h5) [],pc e10 (k10 y4 _ h7) [0],pc Apv (Apg y6.2 y6.1 _ h9) n4_,pc Apu (Apf y8.2 y8.1.Power _ h11) [0,5,6,7,8],pb e17 (k17 (⟨y8.1.Time,y8.1.Power,y8.1.Av,[]⟩:Al) (⟨y8.1.Time,y10.1,y8.1.Av,[]⟩:Al) _ h13),pb e22 (k22 y8.1 _ h15),pb e22 (k22 (⟨y8.1.Time,y10.1,y8.1.Av,y8.1.A7⟩:Al) _ h17),pv e22 (λ hg=>k22 y8.1 _ (A9 h19 hg)),pv e22 (λ hg=>k22 (⟨y8.1.Time,y8.1.Power,y8.1.Av,[(⟨1,(⟨0,0,0⟩:A0),0⟩:A3)]⟩:Al) _ (A9 h21 hg)),pv e23 (λ hg=>k23 y8.1 _ (A9 h23 hg)),pv e23 (λ hg=>k23 (⟨y8.1.Time,y8.1.Power,y8.1.Av,[(⟨1,(⟨0,0,0⟩:A0),0⟩:A3)]⟩:Al) _ (A9 h25 hg)),pv e22 (λ hg=>k22 y8.1 _ (A9 h27 hg)),pv e22 (λ hg=>k22 (⟨w64 (y8.1.Time+1),y8.1.Power,y8.1.Av,y8.1.A7⟩:Al) _ (A9 h29 hg)),pw e8 (λ hg=>k8  _ (A9 h31 hg)) []] [] 0 [] hC [pq h1]
end Go.Proofs.YtpdbkiafikdgpaaGreatDoor
