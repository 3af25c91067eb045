import Derived.Test.YtaplakgdkkmpfaaGreatDoorM0
set_option linter.unusedVariables false
set_option maxHeartbeats 4000000
namespace Go.Proofs.YtaplakgdkkmpfaaGreatDoor
open Go.SL
def lv3:List Nat:=[0,1,2,6,8,9,10,11,12,13,15,16,17,18,19,21,23,24,25,26,27,35,37,38,39,40,46,57,63,72,80,99,100,101,120,121,122,123,124,131,136,137,138,160]
def Ui (x0:List Int) (x1:List api_Command) (x2:Int) (n0:Nat) (z0:Unit):St:=[(0,.d (DS pI x0)),(1,.d (DS q26 x1)),(2,dI x2),(6,dB false),(37,.d (DS q26 x1)),(38,dI (ln x1)),(39,dI (cnt 0 n0))]
def Zv  (n0:Nat) (z0:Unit):List Res:=[]
def Z6 (x0:List Int) (x1:List api_Command) (x2:Int) (z0:Unit):St:=[(0,.d (DS pI x0)),(1,.d (DS q26 x1)),(2,dI x2),(6,dB false)]
def qF  (z0:Unit):List Res:=[]
def Mz (x1:List api_Command) (x2:Int) (z1:(List Int)×Int×(List api_Command)):St:=[(1,.d (DS q26 x1)),(2,dI x2),(6,dB false),(9,dO 0 0),(10,dS 1),(11,dS 2)]
def Nw (y9:(List api_Command)×Ad) (z1:(List Int)×Int×(List api_Command)):List Res:=[.box 62 [DS pI z1.1,I z1.2.1],v5_ y9.1,v5_ z1.2.2]
def Uh (x1:List api_Command) (x2:Int) (y9:(List api_Command)×Ad) (y42:ByteArray×Int) (y44:ByteArray×Int) (z2:Int):St:=[(2,dI x2),(6,dB false),(9,dO 0 0),(15,dS 1),(16,.d (.p (.v (.string y42.1)))),(17,dI y42.2),(18,.d (.p (.v (.string y44.1)))),(19,dI y44.2),(99,.agg [.os 1,.os 2,DS q26 x1,.os 3]),(100,dI 0),(101,dB true),(120,dB (Vh y42 y44)),(121,dS 1),(122,dI (ln y9.1)),(123,dI z2)]
def Zu (y9:(List api_Command)×Ad) (z1:(List Int)×Int×(List api_Command)) (y40:List api_Command) (z2:Int):List Res:=[.box 62 [DS pI z1.1,I z1.2.1],v5_ y9.1,v5_ z1.2.2,.dsl 26 2 4,.gh 2 [(0,0),(3,1)] (y40.map q26) none]
def Z5 (x1:List api_Command) (x2:Int) (y9:(List api_Command)×Ad) (y42:ByteArray×Int) (y44:ByteArray×Int) (z2:Int):St:=[(2,dI x2),(6,dB false),(9,dO 0 0),(15,dS 1),(16,.d (.p (.v (.string y42.1)))),(17,dI y42.2),(18,.d (.p (.v (.string y44.1)))),(19,dI y44.2),(99,.agg [.os 1,.os 2,DS q26 x1,.os 3]),(100,dI 0),(101,dB true),(120,dB (Vh y42 y44)),(121,dS 1),(122,dI (ln y9.1)),(123,dI z2)]
def qE (y9:(List api_Command)×Ad) (z1:(List Int)×Int×(List api_Command)) (y40:List api_Command) (z2:Int):List Res:=[.box 62 [DS pI z1.1,I z1.2.1],v5_ y9.1,v5_ z1.2.2,.dsl 26 2 4,.gh 2 [(0,0),(3,1)] (y40.map q26) none]
def Ug (x1:List api_Command) (x2:Int) (z1:(List Int)×Int×(List api_Command)) (y55:Int×Ad) (y64:(List Aa)×Int) (y66:(List Aa)×Int) (y68:Bool) (y71:ByteArray×Int) (y73:ByteArray×Int) (z3:Int):St:=[(2,dI x2),(6,dB false),(9,dO 0 0),(15,dS 2),(16,.d (.p (.v (.string y71.1)))),(17,dI y71.2),(18,.d (.p (.v (.string y73.1)))),(19,dI y73.2),(23,dI y55.1),(24,dS 5),(25,dI y64.2),(26,dS 6),(27,dI y66.2),(99,.agg [.os 1,.os 2,DS q26 x1,.os 3]),(100,dI 1),(101,dB true),(120,dB (Vg y71 y73)),(121,dS 2),(122,dI (ln z1.2.2)),(123,dI z3),(136,.agg [I x2,I y55.1]),(137,dI 2),(138,dB false),(160,dB ((y64.2 != y66.2) || (!y68)))]
def Zt (y9:(List api_Command)×Ad) (z1:(List Int)×Int×(List api_Command)) (y40:List api_Command) (y55:Int×Ad) (y64:(List Aa)×Int) (y66:(List Aa)×Int) (z3:Int):List Res:=[.box 62 (d62 y55.2),v5_ y9.1,v5_ z1.2.2,.dsl 26 2 4,.gh 2 [(0,0),(3,1)] (y40.map q26) none,v0_ y64.1,v0_ y66.1]
def Z4 (x1:List api_Command) (x2:Int) (z1:(List Int)×Int×(List api_Command)) (y55:Int×Ad) (y64:(List Aa)×Int) (y66:(List Aa)×Int) (y68:Bool) (y71:ByteArray×Int) (y73:ByteArray×Int) (z3:Int):St:=[(2,dI x2),(6,dB false),(9,dO 0 0),(15,dS 2),(16,.d (.p (.v (.string y71.1)))),(17,dI y71.2),(18,.d (.p (.v (.string y73.1)))),(19,dI y73.2),(23,dI y55.1),(24,dS 5),(25,dI y64.2),(26,dS 6),(27,dI y66.2),(99,.agg [.os 1,.os 2,DS q26 x1,.os 3]),(100,dI 1),(101,dB true),(120,dB (Vg y71 y73)),(121,dS 2),(122,dI (ln z1.2.2)),(123,dI z3),(136,.agg [I x2,I y55.1]),(137,dI 2),(138,dB false),(160,dB ((y64.2 != y66.2) || (!y68)))]
def qD (y9:(List api_Command)×Ad) (z1:(List Int)×Int×(List api_Command)) (y40:List api_Command) (y55:Int×Ad) (y64:(List Aa)×Int) (y66:(List Aa)×Int) (z3:Int):List Res:=[.box 62 (d62 y55.2),v5_ y9.1,v5_ z1.2.2,.dsl 26 2 4,.gh 2 [(0,0),(3,1)] (y40.map q26) none,v0_ y64.1,v0_ y66.1]
def Uf (x1:List api_Command) (x2:Int) (y84:Int×Ad) (y93:(List Aa)×Int) (y95:(List Aa)×Int) (y97:Bool) (y100:ByteArray×Int) (y102:ByteArray×Int) (z4:Int):St:=[(2,dI x2),(6,dB false),(9,dO 0 0),(15,.d (DS q26 x1)),(16,.d (.p (.v (.string y100.1)))),(17,dI y100.2),(18,.d (.p (.v (.string y102.1)))),(19,dI y102.2),(23,dI y84.1),(24,dS 5),(25,dI y93.2),(26,dS 6),(27,dI y95.2),(99,.agg [.os 1,.os 2,DS q26 x1,.os 3]),(100,dI 2),(101,dB true),(120,dB (Vf y100 y102)),(121,.d (DS q26 x1)),(122,dI (ln x1)),(123,dI z4),(136,.agg [I x2,I y84.1]),(137,dI 2),(138,dB false),(160,dB ((y93.2 != y95.2) || (!y97)))]
def Zs (y9:(List api_Command)×Ad) (z1:(List Int)×Int×(List api_Command)) (y40:List api_Command) (y84:Int×Ad) (y93:(List Aa)×Int) (y95:(List Aa)×Int) (z4:Int):List Res:=[.box 62 (d62 y84.2),v5_ y9.1,v5_ z1.2.2,.dsl 26 2 4,.gh 2 [(0,0),(3,1)] (y40.map q26) none,v0_ y93.1,v0_ y95.1]
def Z3 (x1:List api_Command) (x2:Int) (y84:Int×Ad) (y93:(List Aa)×Int) (y95:(List Aa)×Int) (y97:Bool) (y100:ByteArray×Int) (y102:ByteArray×Int) (z4:Int):St:=[(2,dI x2),(6,dB false),(9,dO 0 0),(15,.d (DS q26 x1)),(16,.d (.p (.v (.string y100.1)))),(17,dI y100.2),(18,.d (.p (.v (.string y102.1)))),(19,dI y102.2),(23,dI y84.1),(24,dS 5),(25,dI y93.2),(26,dS 6),(27,dI y95.2),(99,.agg [.os 1,.os 2,DS q26 x1,.os 3]),(100,dI 2),(101,dB true),(120,dB (Vf y100 y102)),(121,.d (DS q26 x1)),(122,dI (ln x1)),(123,dI z4),(136,.agg [I x2,I y84.1]),(137,dI 2),(138,dB false),(160,dB ((y93.2 != y95.2) || (!y97)))]
def qC (y9:(List api_Command)×Ad) (z1:(List Int)×Int×(List api_Command)) (y40:List api_Command) (y84:Int×Ad) (y93:(List Aa)×Int) (y95:(List Aa)×Int) (z4:Int):List Res:=[.box 62 (d62 y84.2),v5_ y9.1,v5_ z1.2.2,.dsl 26 2 4,.gh 2 [(0,0),(3,1)] (y40.map q26) none,v0_ y93.1,v0_ y95.1]
def Ue (x1:List api_Command) (x2:Int) (y40:List api_Command) (y113:Int×Ad) (y122:(List Aa)×Int) (y124:(List Aa)×Int) (y126:Bool) (y129:ByteArray×Int) (y131:ByteArray×Int) (z5:Int):St:=[(2,dI x2),(6,dB false),(9,dO 0 0),(15,dS 3),(16,.d (.p (.v (.string y129.1)))),(17,dI y129.2),(18,.d (.p (.v (.string y131.1)))),(19,dI y131.2),(23,dI y113.1),(24,dS 4),(25,dI y122.2),(26,dS 5),(27,dI y124.2),(99,.agg [.os 1,.os 2,DS q26 x1,.os 3]),(100,dI 3),(101,dB true),(120,dB (Ve y129 y131)),(121,dS 3),(122,dI (ln y40)),(123,dI z5),(136,.agg [I x2,I y113.1]),(137,dI 2),(138,dB false),(160,dB ((y122.2 != y124.2) || (!y126)))]
def Zr (y9:(List api_Command)×Ad) (z1:(List Int)×Int×(List api_Command)) (y40:List api_Command) (y113:Int×Ad) (y122:(List Aa)×Int) (y124:(List Aa)×Int) (z5:Int):List Res:=[.box 62 (d62 y113.2),v5_ y9.1,v5_ z1.2.2,v5_ y40,v0_ y122.1,v0_ y124.1]
def Z2 (x1:List api_Command) (x2:Int) (y40:List api_Command) (y113:Int×Ad) (y122:(List Aa)×Int) (y124:(List Aa)×Int) (y126:Bool) (y129:ByteArray×Int) (y131:ByteArray×Int) (z5:Int):St:=[(2,dI x2),(6,dB false),(9,dO 0 0),(15,dS 3),(16,.d (.p (.v (.string y129.1)))),(17,dI y129.2),(18,.d (.p (.v (.string y131.1)))),(19,dI y131.2),(23,dI y113.1),(24,dS 4),(25,dI y122.2),(26,dS 5),(27,dI y124.2),(99,.agg [.os 1,.os 2,DS q26 x1,.os 3]),(100,dI 3),(101,dB true),(120,dB (Ve y129 y131)),(121,dS 3),(122,dI (ln y40)),(123,dI z5),(136,.agg [I x2,I y113.1]),(137,dI 2),(138,dB false),(160,dB ((y122.2 != y124.2) || (!y126)))]
def qB (y9:(List api_Command)×Ad) (z1:(List Int)×Int×(List api_Command)) (y40:List api_Command) (y113:Int×Ad) (y122:(List Aa)×Int) (y124:(List Aa)×Int) (z5:Int):List Res:=[.box 62 (d62 y113.2),v5_ y9.1,v5_ z1.2.2,v5_ y40,v0_ y122.1,v0_ y124.1]
set_option maxHeartbeats 4000000 in
theorem k3 (x0 : List Int) (x1 : List api_Command) (x2 : Int) (r : Bool) (h : F3 x0 x1 x2 = some r) : CO 3 [.d (DS pI x0), .d (DS q26 x1), .d (I x2)] [] (.d (Bo r)) [] := by
 unfold F3 at h
 refine co 164 Tryz.func3 λ C hC=>?_
 rcases cB h with⟨h1,h⟩ | ⟨h1,h⟩
 ·obtain⟨y2,h3,h⟩:=Ah h
  replace h:=sI h
  subst h
  exact wr lv3 29 [true] [pl pI x0,pL_ [(decide ((ln x0)>600),false)] q26 x1,pc e5 (k5  _ h3) []] [] 0 [] hC [pq h1]
 ·refine ws lv3 31 [false] [pl pI x0, pL_ [(decide ((ln x0) > 600), false)] q26 x1, pl q26 x1] [] 0 [] (Ui x0 x1 x2 0 ()) (Zv 0 ()) hC [pq h1] ?_
  obtain⟨w0,hm0,hret0,hnext0⟩:=Aj h
  clear h
  refine wc w0 (Z6 x0 x1 x2) (qF) ?_ λ z0 hs0=>?_
  ·refine wb ?_
   refine C5 37 rfl λ hl0=>?_
   refine wl (Ui x0 x1 x2) (Zv) hm0 (λ z0 hn0=>?_) λ n0 a0 z0 w0b hi0 hx0 h hb0 hr0=>?_
   ·clear hm0
    exact wx w0 (Z6 x0 x1 x2) (qF) lv3 26 [false] [] [] 0 [] _ hC [pq (Bl hl0)] hn0
   ·unfold V9 at h
    rcases cB h with⟨h4,h⟩ | ⟨h4,h⟩
    ·obtain⟨y5,h6,h⟩:=Ah h
     have hq:=hret0 _ (hr0 _ (sI h).symm)
     replace hq:=sI hq
     subst hq
     exact wr lv3 35 [true,true] [pt hx0 hl0,pl pI a0.Numbers,pc e5 (k5  _ h6) []] [] 0 [] hC [pq (Al hi0 hl0),pq h4]
    ·exact wx w0b (Ui x0 x1 x2 (n0+1)) (Zv (n0+1)) lv3 36 [true,false] [pt hx0 hl0,pl pI a0.Numbers] [] 0 [] _ hC [pq (Al hi0 hl0),pq h4] (sI h).symm
  ·have h := hnext0 _ hs0
   obtain⟨y7,h8,y9,h10,y11,h12,h⟩:=A9 h
   refine wn lv3 30 [] [pc e6 (k6 x0 _ h8) [],pc e7 (k7 y7 10 _ h10) [0],⟨.app [] (y9.1.map q26) 2 ((y9.1.map q26).length*(32+1)) (y11.map q26),Sq q26 2 (λ _=>rfl) h12⟩,pl q26 y11] [] 0 [0,1,3] [1,2,6,9,10,11,57] hC [] ?_
   obtain⟨w1,h,hret1,hnext1⟩:=Aj h
   refine wc w1 (Mz x1 x2) (Nw y9) ?_ λ z1 hs1=>?_
   ·unfold P6 at h
    rcases cB h with⟨h13,h⟩ | ⟨h13,h⟩
    ·obtain⟨y14,h15,y16,h17,h⟩:=Ay h
     refine wn lv3 29 [true] [pl q26 y11,pc e8 (k8 y9.2 (ln y11) _ h15) [0],pc e8 (k8 y14.2 3 _ h17) [0]] [] 0 n3_ [1,2,6,9,10,11,12,63,72] hC [pq h13] ?_
     rcases cB h with⟨h18,h⟩ | ⟨h18,h⟩
     ·obtain⟨y19,h20,y21,h22,y23,h24,h⟩:=A9 h
      exact wx w1 (Mz x1 x2) (Nw y9) lv3 24 [true] [pc e9 (k9 y16.2 (-1) 9 _ h20) [0],pr q26 h22,pu q26 h22 h24] [] 0 n3_ _ hC [pq h18] (sI h).symm
     ·rcases cB h with⟨h25,h⟩ | ⟨h25,h⟩
      ·obtain⟨y26,h27,y28,h29,y30,h31,y32,h33,h⟩:=Dq h
       exact wx w1 (Mz x1 x2) (Nw y9) lv3 27 [false,true] [pr q26 h27,pn q26 h27,⟨.app [] (y26.Numbers.map pI) 1 ((y26.Numbers.map pI).length*(8+1)) (y28.map pI),Sq pI 1 (λ _=>rfl) h29⟩,pa pI 1 h31,pr q26 h27,pu q26 h27 h33] [] 0 n3_ _ hC [pq h18,pq h25] (sI h).symm
      ·obtain⟨y34,h35,y36,h37,y38,h39,h⟩:=A9 h
       exact wx w1 (Mz x1 x2) (Nw y9) lv3 27 [false,false] [pc e10 (k10 y16.2 [0,(-1),61,1000000001] _ h35) [0],pr q26 h37,pu q26 h37 h39] [] 0 n3_ _ hC [pq h18,pq h25] (sI h).symm
    ·exact wx w1 (Mz x1 x2) (Nw y9) lv3 23 [false] [] [] 0 n3_ _ hC [pq h13] (sI h).symm
   ·clear h; have h := hnext1 _ hs1
    obtain⟨y40,h41,y42,h43,y44,h45,h⟩:=A9 h
    refine wn lv3 44 [true,true,true] [⟨.roomZ (81*(32+1)) (List.replicate 81 (q26 (⟨0,([]:List Int)⟩:api_Command))) (y40.map q26),Xe h41⟩,pb e11 (k11 y9.1 _ h43),pb e12 (k12 y9.1 _ h45)] [.deep 3 [(0,0),(3,1)]] 0 n5_ [2,6,9,15,16,17,18,19,99,100,101,120] hC [⟨(true,true),rfl⟩] ?_
    rcases cB h with⟨h46,h⟩ | ⟨h46,h⟩
    ·replace h:=sI h
     subst h
     exact wr lv3 24 [true] [] [] 0 [] hC [pq h46]
    ·refine ws lv3 26 [false] [pl q26 y9.1] [] 0 n5_ (Uh x1 x2 y9 y42 y44 0) (Zu y9 z1 y40 0) hC [pq h46] ?_
     obtain⟨w2,hm2,hret2,hnext2⟩:=Aj h
     clear h
     refine wc w2 (Z5 x1 x2 y9 y42 y44) (qE y9 z1 y40) ?_ λ z2 hs2=>?_
     ·refine wb ?_
      refine ww (Uh x1 x2 y9 y42 y44) (Zu y9 z1 y40) hm2 λ z2 w2b h hb2 hr2=>?_
      unfold V8 at h
      rcases cB h with⟨h47,h⟩ | ⟨h47,h⟩
      ·obtain⟨y48,h49,y50,h51,y52,h53,h⟩:=A9 h
       refine wn lv3 32 [true] [pr q26 h49,pn q26 h49,pc e13 (k13 y48 _ h51) [],pc e14 (k14 y48 _ h53) []] [] 0 n5_ [2,6,9,15,16,17,18,19,99,100,101,120,121,122,123,131] hC [pq h47] ?_
       rcases cB h with⟨h54,h⟩ | ⟨h54,h⟩
       ·have hq:=hret2 _ (hr2 _ (sI h).symm)
        replace hq:=sI hq
        subst hq
        exact wr lv3 24 [true] [] [] 0 [] hC [pq h54]
       ·exact wx w2b (Uh x1 x2 y9 y42 y44) (Zu y9 z1 y40) lv3 25 [false] [] [] 0 n5_ _ hC [pq h54] (sI h).symm
      ·exact wx w2 (Z5 x1 x2 y9 y42 y44) (qE y9 z1 y40) lv3 26 [false] [] [] 0 n5_ z2 hC [pq h47] (hb2 _ (sI h).symm)
     ·have h := hnext2 _ hs2
      obtain⟨y55,h56,y57,h58,y59,h60,y61,h62,h⟩:=Dq h
      refine wn lv3 40 [true,true,true] [pc e8 (k8 (⟨z1.1,z1.2.1⟩:Ad) 9 _ h56) [0],pc Kw (Kq y9.1 x2 _ h58) [1],pc Kv (Kp y9.1 x2 _ h60) [1],pv e17 (λ hg=>k17 y57.1 y59.1 _ (Av h62 hg))] [] 0 n7_ [2,6,9,15,16,17,18,19,23,24,25,26,27,99,100,101,120,121,122,123,136,137,138,160] hC [⟨(true,true),rfl⟩] ?_
      rcases cB h with⟨h63,h⟩ | ⟨h63,h⟩
      ·replace h:=sI h
       subst h
       exact wr lv3 24 [true] [] [] 0 [] hC [pq h63]
      ·obtain ⟨y64, h65, y66, h67, y68, h69, h⟩ := A9 h
       refine wn lv3 41 [false,true] [pc Kw (Kq y9.1 y55.1 _ h65) [1],pc Kv (Kp y9.1 y55.1 _ h67) [1],pv e17 (λ hg=>k17 y64.1 y66.1 _ (Av h69 hg))] [] 0 [0,1,2,3,4,7,8] [2,6,9,15,16,17,18,19,23,24,25,26,27,99,100,101,120,121,122,123,136,137,138,160] hC [pq h63,⟨(true,true),rfl⟩] ?_
       rcases cB h with⟨h70,h⟩ | ⟨h70,h⟩
       ·replace h:=sI h
        subst h
        exact wr lv3 24 [true] [] [] 0 [] hC [pq h70]
       ·obtain ⟨y71, h72, y73, h74, h⟩ := Ay h
        refine wn lv3 50 [false,false,true] [pb e11 (k11 z1.2.2 _ h72),pb e12 (k12 z1.2.2 _ h74)] [] 0 n7_ [2,6,9,15,16,17,18,19,23,24,25,26,27,99,100,101,120,121,122,123,136,137,138,160] hC [pq h70,⟨(false,false),rfl⟩,⟨(true,true),rfl⟩] ?_
        rcases cB h with⟨h75,h⟩ | ⟨h75,h⟩
        ·replace h:=sI h
         subst h
         exact wr lv3 24 [true] [] [] 0 [] hC [pq h75]
        ·refine ws lv3 26 [false] [pl q26 z1.2.2] [] 0 n7_ (Ug x1 x2 z1 y55 y64 y66 y68 y71 y73 0) (Zt y9 z1 y40 y55 y64 y66 0) hC [pq h75] ?_
         obtain⟨w3,hm3,hret3,hnext3⟩:=Aj h
         clear h
         refine wc w3 (Z4 x1 x2 z1 y55 y64 y66 y68 y71 y73) (qD y9 z1 y40 y55 y64 y66) ?_ λ z3 hs3=>?_
         ·refine wb ?_
          refine ww (Ug x1 x2 z1 y55 y64 y66 y68 y71 y73) (Zt y9 z1 y40 y55 y64 y66) hm3 λ z3 w3b h hb3 hr3=>?_
          unfold V7 at h
          rcases cB h with⟨h76,h⟩ | ⟨h76,h⟩
          ·obtain⟨y77,h78,y79,h80,y81,h82,h⟩:=A9 h
           refine wn lv3 32 [true] [pr q26 h78,pn q26 h78,pc e13 (k13 y77 _ h80) [],pc e14 (k14 y77 _ h82) []] [] 0 n7_ [2,6,9,15,16,17,18,19,23,24,25,26,27,99,100,101,120,121,122,123,131,136,137,138,160] hC [pq h76] ?_
           rcases cB h with⟨h83,h⟩ | ⟨h83,h⟩
           ·have hq:=hret3 _ (hr3 _ (sI h).symm)
            replace hq:=sI hq
            subst hq
            exact wr lv3 24 [true] [] [] 0 [] hC [pq h83]
           ·exact wx w3b (Ug x1 x2 z1 y55 y64 y66 y68 y71 y73) (Zt y9 z1 y40 y55 y64 y66) lv3 25 [false] [] [] 0 n7_ _ hC [pq h83] (sI h).symm
          ·exact wx w3 (Z4 x1 x2 z1 y55 y64 y66 y68 y71 y73) (qD y9 z1 y40 y55 y64 y66) lv3 26 [false] [] [] 0 n7_ z3 hC [pq h76] (hb3 _ (sI h).symm)
         ·have h := hnext3 _ hs3
          obtain⟨y84,h85,y86,h87,y88,h89,y90,h91,h⟩:=Dq h
          refine wn lv3 40 [true,true,true] [pc e8 (k8 y55.2 9 _ h85) [0],pc Kw (Kq z1.2.2 x2 _ h87) [2],pc Kv (Kp z1.2.2 x2 _ h89) [2],pv e17 (λ hg=>k17 y86.1 y88.1 _ (Av h91 hg))] [] 0 [0,1,2,3,4,7,8] [2,6,9,15,16,17,18,19,23,24,25,26,27,99,100,101,120,121,122,123,136,137,138,160] hC [⟨(true,true),rfl⟩] ?_
          rcases cB h with⟨h92,h⟩ | ⟨h92,h⟩
          ·replace h:=sI h
           subst h
           exact wr lv3 24 [true] [] [] 0 [] hC [pq h92]
          ·obtain ⟨y93, h94, y95, h96, y97, h98, h⟩ := A9 h
           refine wn lv3 41 [false,true] [pc Kw (Kq z1.2.2 y84.1 _ h94) [2],pc Kv (Kp z1.2.2 y84.1 _ h96) [2],pv e17 (λ hg=>k17 y93.1 y95.1 _ (Av h98 hg))] [] 0 [0,1,2,3,4,7,8] [2,6,9,15,16,17,18,19,23,24,25,26,27,99,100,101,120,121,122,123,136,137,138,160] hC [pq h92,⟨(true,true),rfl⟩] ?_
           rcases cB h with⟨h99,h⟩ | ⟨h99,h⟩
           ·replace h:=sI h
            subst h
            exact wr lv3 24 [true] [] [] 0 [] hC [pq h99]
           ·obtain ⟨y100, h101, y102, h103, h⟩ := Ay h
            rcases cB h with⟨h104,h⟩ | ⟨h104,h⟩
            ·replace h:=sI h
             subst h
             exact wr lv3 53 [false,false,true,true] [pc e11 (k11 x1 _ h101) [],pc e12 (k12 x1 _ h103) []] [] 0 [] hC [pq h99,⟨(false,false),rfl⟩,⟨(true,true),rfl⟩,pq h104]
            ·refine ws lv3 55 [false, false, true, false] [pc e11 (k11 x1 _ h101) [], pc e12 (k12 x1 _ h103) [], pl q26 x1] [] 0 n7_ (Uf x1 x2 y84 y93 y95 y97 y100 y102 0) (Zs y9 z1 y40 y84 y93 y95 0) hC [pq h99, ⟨(false, false), rfl⟩, ⟨(true, true), rfl⟩, pq h104] ?_
             obtain⟨w4,hm4,hret4,hnext4⟩:=Aj h
             clear h
             refine wc w4 (Z3 x1 x2 y84 y93 y95 y97 y100 y102) (qC y9 z1 y40 y84 y93 y95) ?_ λ z4 hs4=>?_
             ·refine wb ?_
              refine ww (Uf x1 x2 y84 y93 y95 y97 y100 y102) (Zs y9 z1 y40 y84 y93 y95) hm4 λ z4 w4b h hb4 hr4=>?_
              unfold V6 at h
              rcases cB h with⟨h105,h⟩ | ⟨h105,h⟩
              ·obtain⟨y106,h107,y108,h109,y110,h111,h⟩:=A9 h
               refine wn lv3 32 [true] [pr q26 h107,pc e13 (k13 y106 _ h109) [],pc e14 (k14 y106 _ h111) []] [] 0 n7_ [2,6,9,15,16,17,18,19,23,24,25,26,27,99,100,101,120,121,122,123,131,136,137,138,160] hC [pq h105] ?_
               rcases cB h with⟨h112,h⟩ | ⟨h112,h⟩
               ·have hq:=hret4 _ (hr4 _ (sI h).symm)
                replace hq:=sI hq
                subst hq
                exact wr lv3 24 [true] [] [] 0 [] hC [pq h112]
               ·exact wx w4b (Uf x1 x2 y84 y93 y95 y97 y100 y102) (Zs y9 z1 y40 y84 y93 y95) lv3 25 [false] [] [] 0 n7_ _ hC [pq h112] (sI h).symm
              ·exact wx w4 (Z3 x1 x2 y84 y93 y95 y97 y100 y102) (qC y9 z1 y40 y84 y93 y95) lv3 26 [false] [] [] 0 n7_ z4 hC [pq h105] (hb4 _ (sI h).symm)
             ·have h := hnext4 _ hs4
              obtain⟨y113,h114,y115,h116,y117,h118,y119,h120,h⟩:=Dq h
              refine wn lv3 40 [true,true,true] [pc e8 (k8 y84.2 9 _ h114) [0],pc e15 (k15 x1 x2 _ h116) [],pc e16 (k16 x1 x2 _ h118) [],pv e17 (λ hg=>k17 y115.1 y117.1 _ (Av h120 hg))] [] 0 [0,1,2,3,4,7,8] [2,6,9,15,16,17,18,19,23,24,25,26,27,99,100,101,120,121,122,123,136,137,138,160] hC [⟨(true,true),rfl⟩] ?_
              rcases cB h with⟨h121,h⟩ | ⟨h121,h⟩
              ·replace h:=sI h
               subst h
               exact wr lv3 24 [true] [] [] 0 [] hC [pq h121]
              ·obtain⟨y122,h123,y124,h125,y126,h127,h⟩:=A9 h
               refine wn lv3 41 [false,true] [pc e15 (k15 x1 y113.1 _ h123) [],pc e16 (k16 x1 y113.1 _ h125) [],pv e17 (λ hg=>k17 y122.1 y124.1 _ (Av h127 hg))] [] 0 [0,1,2,3,4,7,8] [2,6,9,15,16,17,18,19,23,24,25,26,27,99,100,101,120,121,122,123,136,137,138,160] hC [pq h121,⟨(true,true),rfl⟩] ?_
               rcases cB h with⟨h128,h⟩ | ⟨h128,h⟩
               ·replace h:=sI h
                subst h
                exact wr lv3 24 [true] [] [] 0 [] hC [pq h128]
               ·refine wn lv3 23 [false,false,true] [] [.flat 3] 0 [0,1,2,3,5,6] [2,6,9,15,16,17,18,19,23,24,25,26,27,99,100,101,120,121,122,123,136,137,138,160] hC [pq h128,⟨(false,false),rfl⟩,⟨(true,true),rfl⟩] ?_
                obtain⟨y129,h130,y131,h132,h⟩:=Ay h
                refine wn lv3 27 [] [pb e11 (k11 y40 _ h130),pb e12 (k12 y40 _ h132)] [] 0 n6_ [2,6,9,15,16,17,18,19,23,24,25,26,27,99,100,101,120,121,122,123,136,137,138,160] hC [] ?_
                rcases cB h with⟨h133,h⟩ | ⟨h133,h⟩
                ·replace h:=sI h
                 subst h
                 exact wr lv3 24 [true] [] [] 0 [] hC [pq h133]
                ·refine ws lv3 26 [false] [pl q26 y40] [] 0 n6_ (Ue x1 x2 y40 y113 y122 y124 y126 y129 y131 0) (Zr y9 z1 y40 y113 y122 y124 0) hC [pq h133] ?_
                 obtain⟨w5,hm5,hret5,hnext5⟩:=Aj h
                 clear h
                 refine wc w5 (Z2 x1 x2 y40 y113 y122 y124 y126 y129 y131) (qB y9 z1 y40 y113 y122 y124) ?_ λ z5 hs5=>?_
                 ·refine wb ?_
                  refine ww (Ue x1 x2 y40 y113 y122 y124 y126 y129 y131) (Zr y9 z1 y40 y113 y122 y124) hm5 λ z5 w5b h hb5 hr5=>?_
                  unfold V5 at h
                  rcases cB h with⟨h134,h⟩ | ⟨h134,h⟩
                  ·obtain⟨y135,h136,y137,h138,y139,h140,h⟩:=A9 h
                   refine wn lv3 32 [true] [pr q26 h136,pn q26 h136,pc e13 (k13 y135 _ h138) [],pc e14 (k14 y135 _ h140) []] [] 0 n6_ [2,6,9,15,16,17,18,19,23,24,25,26,27,99,100,101,120,121,122,123,131,136,137,138,160] hC [pq h134] ?_
                   rcases cB h with⟨h141,h⟩ | ⟨h141,h⟩
                   ·have hq:=hret5 _ (hr5 _ (sI h).symm)
                    replace hq:=sI hq
                    subst hq
                    exact wr lv3 24 [true] [] [] 0 [] hC [pq h141]
                   ·exact wx w5b (Ue x1 x2 y40 y113 y122 y124 y126 y129 y131) (Zr y9 z1 y40 y113 y122 y124) lv3 25 [false] [] [] 0 n6_ _ hC [pq h141] (sI h).symm
                  ·exact wx w5 (Z2 x1 x2 y40 y113 y122 y124 y126 y129 y131) (qB y9 z1 y40 y113 y122 y124) lv3 26 [false] [] [] 0 n6_ z5 hC [pq h134] (hb5 _ (sI h).symm)
                 ·have h:=hnext5 _ hs5
                  obtain⟨y142,h143,y144,h145,y146,h147,y148,h149,h⟩:=Dq h
                  refine wn lv3 40 [true,true,true] [pc e8 (k8 y113.2 9 _ h143) [0],pc Kw (Kq y40 x2 _ h145) [3],pc Kv (Kp y40 x2 _ h147) [3],pv e17 (λ hg=>k17 y144.1 y146.1 _ (Av h149 hg))] [] 0 [0,1,2,3,6,7] [2,6,9,15,16,17,18,19,23,24,25,26,27,99,100,101,120,121,122,123,136,137,138,160] hC [⟨(true,true),rfl⟩] ?_
                  rcases cB h with⟨h150,h⟩ | ⟨h150,h⟩
                  ·replace h:=sI h
                   subst h
                   exact wr lv3 24 [true] [] [] 0 [] hC [pq h150]
                  ·obtain⟨y151,h152,y153,h154,y155,h156,h⟩:=A9 h
                   refine wn lv3 41 [false,true] [pc Kw (Kq y40 y142.1 _ h152) [3],pc Kv (Kp y40 y142.1 _ h154) [3],pv e17 (λ hg=>k17 y151.1 y153.1 _ (Av h156 hg))] [] 0 [0,1,2,3,6,7] [2,6,9,15,16,17,18,19,23,24,25,26,27,99,100,101,120,121,122,123,136,137,138,160] hC [pq h150,⟨(true,true),rfl⟩] ?_
                   rcases cB h with⟨h157,h⟩ | ⟨h157,h⟩
                   ·replace h:=sI h
                    subst h
                    exact wr lv3 24 [true] [] [] 0 [] hC [pq h157]
                   ·obtain⟨y158,h159,h⟩:=Ah h
                    replace h:=sI h
                    subst h
                    exact wr lv3 41 [false,false,false] [pc e5 (k5  _ h159) []] [] 0 [] hC [pq h157,⟨(false,false),rfl⟩,⟨(false,false),rfl⟩]
theorem e3:EN 3:=en Tryz.func3
end Go.Proofs.YtaplakgdkkmpfaaGreatDoor
