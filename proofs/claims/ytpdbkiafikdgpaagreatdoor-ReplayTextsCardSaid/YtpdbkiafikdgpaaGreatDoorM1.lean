import Derived.Test.YtpdbkiafikdgpaaGreatDoorM0
set_option linter.unusedVariables false
set_option maxHeartbeats 4000000
namespace Go.Proofs.YtpdbkiafikdgpaaGreatDoor
open Go.SL
def B5:List Nat:=[0,1,3,4,5,6,7,8,9,11,12,13,16,17,18,30,31,32,35,36,37,38,57,67,68,69,89,90,91,92,114,119,126]
def N8 (x1:Aa) (z0:Int×(List Int)×Int×(List Bool)):St:=[(0,dO 0 0),(3,dO 4 0),(4,dO 5 0),(5,dO 6 0),(16,dI (ln x1.Ag)),(17,dI z0.1)]
def Tc (x1:Aa) (z0:Int×(List Int)×Int×(List Bool)):List Res:=(.box 77 [DS pI z0.2.1,I z0.2.2.1]::zs x1 (.box 30 [I x1.Ap,.os 1,.os 2,.os 3,I x1.Phase,I x1.An] :: .box 39 [.os 7,.os 8,.os 9,.os 10] :: .box 39 [.os 11,.os 12,.os 13,.os 14]::ze [v3_ (D3 z0),v4_ ([]:List Ae),v0_ ([]:List Int),v5_ ([]:List Aq)]))
def X1  (z0:Int×(List Int)×Int×(List Bool)):St:=[(0,dO 0 0),(3,dO 4 0),(4,dO 5 0),(5,dO 6 0)]
def Z0 (x1:Aa) (z0:Int×(List Int)×Int×(List Bool)):List Res:=(.box 77 [DS pI z0.2.1,I z0.2.2.1]::zs x1 (.box 30 [I x1.Ap,.os 1,.os 2,.os 3,I x1.Phase,I x1.An] :: .box 39 [.os 7,.os 8,.os 9,.os 10] :: .box 39 [.os 11,.os 12,.os 13,.os 14]::ze [v3_ (D3 z0),v4_ ([]:List Ae),v0_ ([]:List Int),v5_ ([]:List Aq)]))
def N7 (x1:Aa) (z1:Int×(List Bool)):St:=[(0,dO 0 0),(3,dO 4 0),(4,dO 5 0),(5,dO 6 0),(30,dI (ln x1.Ah)),(31,dI z1.1)]
def Tb (x1:Aa) (z0:Int×(List Int)×Int×(List Bool)) (z1:Int×(List Bool)):List Res:=(.box 77 [DS pI z0.2.1,I z0.2.2.1]::zs x1 (.box 30 [I x1.Ap,.os 1,.os 2,.os 3,I x1.Phase,I x1.An] :: .box 39 [.os 7,.os 8,.os 9,.os 10] :: .box 39 [.os 11,.os 12,.os 13,.os 14]::ze [v3_ z1.2,v4_ ([]:List Ae),v0_ ([]:List Int),v5_ ([]:List Aq)]))
def X0  (z1:Int×(List Bool)):St:=[(0,dO 0 0),(3,dO 4 0),(4,dO 5 0),(5,dO 6 0)]
def Zz (x1:Aa) (z0:Int×(List Int)×Int×(List Bool)) (z1:Int×(List Bool)):List Res:=(.box 77 [DS pI z0.2.1,I z0.2.2.1]::zs x1 (.box 30 [I x1.Ap,.os 1,.os 2,.os 3,I x1.Phase,I x1.An] :: .box 39 [.os 7,.os 8,.os 9,.os 10] :: .box 39 [.os 11,.os 12,.os 13,.os 14]::ze [v3_ z1.2,v4_ ([]:List Ae),v0_ ([]:List Int),v5_ ([]:List Aq)]))
def Jv (x1:Aa) (z1:Int×(List Bool)) (n2:Nat) (z2:Bool×(List Bool)):St:=[(0,dO 0 0),(3,dO 4 0),(4,dO 5 0),(5,dO 6 0),(6,dI z1.1),(7,dB z2.1),(30,dI (ln x1.Ah)),(31,dI z1.1),(35,dS 1),(36,dI (ln x1.Ag)),(37,dI (cnt 0 n2))]
def Nc (x1:Aa) (z0:Int×(List Int)×Int×(List Bool)) (n2:Nat) (z2:Bool×(List Bool)):List Res:=(.box 77 [DS pI z0.2.1,I z0.2.2.1]::zs x1 (.box 30 [I x1.Ap,.os 1,.os 2,.os 3,I x1.Phase,I x1.An] :: .box 39 [.os 7,.os 8,.os 9,.os 10] :: .box 39 [.os 11,.os 12,.os 13,.os 14]::ze [v3_ z2.2,v4_ ([]:List Ae),v0_ ([]:List Int),v5_ ([]:List Aq)]))
def Xz (x1:Aa) (z1:Int×(List Bool)) (z2:Bool×(List Bool)):St:=[(0,dO 0 0),(3,dO 4 0),(4,dO 5 0),(5,dO 6 0),(30,dI (ln x1.Ah)),(31,dI z1.1)]
def Zy (x1:Aa) (z0:Int×(List Int)×Int×(List Bool)) (z2:Bool×(List Bool)):List Res:=(.box 77 [DS pI z0.2.1,I z0.2.2.1]::zs x1 (.box 30 [I x1.Ap,.os 1,.os 2,.os 3,I x1.Phase,I x1.An] :: .box 39 [.os 7,.os 8,.os 9,.os 10] :: .box 39 [.os 11,.os 12,.os 13,.os 14]::ze [v3_ z2.2,v4_ ([]:List Ae),v0_ ([]:List Int),v5_ ([]:List Aq)]))
def N6 (x1:Aa) (z3:Sg6):St:=[(0,dO 0 0),(3,dO 4 0),(4,dO 5 0),(5,dO 6 0),(67,dI (ln x1.Ac)),(68,dI z3.1)]
def Ta (x1:Aa) (z1:Int×(List Bool)) (z3:Sg6):List Res:=(.box 77 [DS pI z3.2.1,I z3.2.2.1]::zs x1 (.box 30 [I x1.Ap,.os 1,.os 2,.os 3,I x1.Phase,I x1.An] :: .box 39 [.os 7,.os 8,.os 9,.os 10] :: .box 39 [.os 11,.os 12,.os 13,.os 14]::ze [v3_ z1.2,v4_ (D3 z3),v0_ ([]:List Int),v5_ ([]:List Aq)]))
def Xy  (z3:Sg6):St:=[(0,dO 0 0),(3,dO 4 0),(4,dO 5 0),(5,dO 6 0)]
def Zx (x1:Aa) (z1:Int×(List Bool)) (z3:Sg6):List Res:=(.box 77 [DS pI z3.2.1,I z3.2.2.1]::zs x1 (.box 30 [I x1.Ap,.os 1,.os 2,.os 3,I x1.Phase,I x1.An] :: .box 39 [.os 7,.os 8,.os 9,.os 10] :: .box 39 [.os 11,.os 12,.os 13,.os 14]::ze [v3_ z1.2,v4_ (D3 z3),v0_ ([]:List Int),v5_ ([]:List Aq)]))
def N5 (x1:Aa) (n4:Nat) (z4:(List Int)×Int×(List Int)):St:=[(0,dO 0 0),(3,dO 4 0),(4,dO 5 0),(5,dO 6 0),(89,dS 3),(90,dI (ln x1.Ah)),(91,dI (cnt 0 n4))]
def S_ (x1:Aa) (z1:Int×(List Bool)) (z3:Sg6) (n4:Nat) (z4:(List Int)×Int×(List Int)):List Res:=(.box 77 [DS pI z4.1,I z4.2.1]::zs x1 (.box 30 [I x1.Ap,.os 1,.os 2,.os 3,I x1.Phase,I x1.An] :: .box 39 [.os 7,.os 8,.os 9,.os 10] :: .box 39 [.os 11,.os 12,.os 13,.os 14]::ze [v3_ z1.2,v4_ (D3 z3),v0_ z4.2.2,v5_ ([]:List Aq)]))
def Xx  (z4:(List Int)×Int×(List Int)):St:=[(0,dO 0 0),(3,dO 4 0),(4,dO 5 0),(5,dO 6 0)]
def Zw (x1:Aa) (z1:Int×(List Bool)) (z3:Sg6) (z4:(List Int)×Int×(List Int)):List Res:=(.box 77 [DS pI z4.1,I z4.2.1]::zs x1 (.box 30 [I x1.Ap,.os 1,.os 2,.os 3,I x1.Phase,I x1.An] :: .box 39 [.os 7,.os 8,.os 9,.os 10] :: .box 39 [.os 11,.os 12,.os 13,.os 14]::ze [v3_ z1.2,v4_ (D3 z3),v0_ z4.2.2,v5_ ([]:List Aq)]))
def Hs  (z5:Int×(List Int)×Int×(List Aq)):St:=[(0,dO 0 0),(3,dO 4 0),(4,dO 5 0),(5,dO 6 0),(12,dI z5.1)]
def Jo (x1:Aa) (z1:Int×(List Bool)) (z3:Sg6) (z4:(List Int)×Int×(List Int)) (z5:Int×(List Int)×Int×(List Aq)):List Res:=(.box 77 [DS pI z5.2.1,I z5.2.2.1]::zs x1 (.box 30 [I x1.Ap,.os 1,.os 2,.os 3,I x1.Phase,I x1.An] :: .box 39 [.os 7,.os 8,.os 9,.os 10] :: .box 39 [.os 11,.os 12,.os 13,.os 14]::ze [v3_ z1.2,v4_ (D3 z3),v0_ z4.2.2,v5_ (D3 z5)]))
def Xw  (z5:Int×(List Int)×Int×(List Aq)):St:=[(4,dO 4 0),(5,dO 5 0)]
def Zv (x1:Aa) (z1:Int×(List Bool)) (z3:Sg6) (z4:(List Int)×Int×(List Int)) (z5:Int×(List Int)×Int×(List Aq)):List Res:=(.box 77 [DS pI z5.2.1,I z5.2.2.1]::zs x1 (.box 39 [.os 6,.os 7,.os 8,.os 9] :: .box 39 [.os 10,.os 11,.os 12,.os 13]::ze [v3_ z1.2,v4_ (D3 z3),v0_ z4.2.2,v5_ (D3 z5)]))
set_option maxHeartbeats 4000000 in
theorem Apd (x0 : Ad) (x1 : Aa) (r : Ab × Ad) (h : Nh x0 x1 = some r) : CO 46 [.d (.o 0 0), .agg [I x1.Ap, .os 1, .os 2, .os 3, I x1.Phase, I x1.An]] (.box 77 (d77 x0) :: zs x1 []) (.agg [.os 4, .os 5, .os 6, .os 7]) (.box 77 (d77 r.2) :: zs x1 (zp r.1 [])) := by
 unfold Nh at h
 refine co 134 Tryz.func46 λ C hC=>?_
 refine ws B5 28 [] [pl q70 x1.Ag] [.ownb 5 0 4 1,.ownb 5 1 93 4,.ownb 5 2 3 1,.ownb 5 3 96 2,.ownb 6 0 4 1,.ownb 6 1 93 4,.ownb 6 2 3 1,.ownb 6 3 96 2] 4 C1 (N8 x1 (0,x0.L,x0.At,([]:List Bool))) (Tc x1 (0,x0.L,x0.At,([]:List Bool))) hC [] ?_
 obtain⟨w0,hm0,hret0,hnext0⟩:=Ak h
 clear h
 refine wc w0 (X1) (Z0 x1) ?_ λ z0 hs0=>?_
 ·refine wb ?_
  refine ww (N8 x1) (Tc x1) hm0 λ z0 w0b h hb0 hr0=>?_
  unfold Kq at h
  rcases cB h with⟨h1,h⟩ | ⟨h1,h⟩
  ·obtain⟨y2,h3,y4,h5,h⟩:=Ba h
   exact wx w0b (N8 x1) (Tc x1) B5 31 [true] [pc e19 (k19 (⟨z0.2.1,z0.2.2.1⟩:Ad) 2 _ h3) [0],pa pB 1 h5] [] 4 [0,1,2,3,4,5,6,7,8,9,10,15,12,13,14] _ hC [pq h1] (sI h).symm
  ·exact wx w0 (X1) (Z0 x1) B5 26 [false] [] [] 4 C1 (z0.1,z0.2.1,z0.2.2.1,(D3 z0)) hC [pq h1] (hb0 _ (sI h).symm)
 ·have h := hnext0 _ hs0
  refine ws B5 24 [] [pl q81 x1.Ah] [] 4 C1 (N7 x1 (0,(D3 z0))) (Tb x1 z0 (0,(D3 z0))) hC [] ?_
  obtain⟨w1,hm1,hret1,hnext1⟩:=Ak h
  clear h
  refine wc w1 (X0) (Zz x1 z0) ?_ λ z1 hs1=>?_
  ·refine wb ?_
   refine ww (N7 x1) (Tb x1 z0) hm1 λ z1 w1b h hb1 hr1=>?_
   unfold Kp at h
   rcases cB h with⟨h6,h⟩ | ⟨h6,h⟩
   ·refine ws B5 34 [true] [pl q70 x1.Ag] [] 4 C1 (Jv x1 z1 0 (true,z1.2)) (Nc x1 z0 0 (true,z1.2)) hC [pq h6] ?_
    obtain⟨w2,hm2,hret2,hnext2⟩:=Ak h
    clear h
    refine wc w2 (Xz x1 z1) (Zy x1 z0) ?_ λ z2 hs2=>?_
    ·refine wb ?_
     refine Cc 35 1 rfl rfl λ hl2=>?_
     refine wl (Jv x1 z1) (Nc x1 z0) hm2 (λ z2 hn2=>?_) λ n2 a2 z2 w2b hi2 hx2 h hb2 hr2=>?_
     ·clear hm2
      exact wx w2 (Xz x1 z1) (Zy x1 z0) B5 26 [false] [] [] 4 C1 _ hC [pq (A6 hl2)] hn2
     ·unfold Ko at h
      obtain⟨y7,h8,h⟩:=Au h
      refine wn B5 32 [true] [pr q70 (Bj hx2 hl2),pn q70 (Bj hx2 hl2),pR pB h8,pN pB h8] [] 4 C1 [0,3,4,5,6,7,8,30,31,35,36,37,57] hC [pq (A4 hi2 hl2)] ?_
      rcases cB h with⟨h9,h⟩ | ⟨h9,h⟩
      ·obtain⟨y10,h11,y12,h13,h⟩:=Ba h
       exact wx w2b (Jv x1 z1 (n2+1)) (Nc x1 z0 (n2+1)) B5 27 [true] [pr pB h11,pu pB h11 h13] [] 4 C1 _ hC [pq h9] (sI h).symm
      ·exact wx w2b (Jv x1 z1 (n2+1)) (Nc x1 z0 (n2+1)) B5 25 [false] [] [] 4 C1 _ hC [pq h9] (sI h).symm
    ·have h:=hnext2 _ hs2
     exact wx w1b (N7 x1) (Tb x1 z0) B5 23 [] [] [] 4 C1 _ hC [] (sI h).symm
   ·exact wx w1 (X0) (Zz x1 z0) B5 26 [false] [] [] 4 C1 (z1.1,z1.2) hC [pq h6] (hb1 _ (sI h).symm)
  ·have h := hnext1 _ hs1
   refine ws B5 24 [] [pl q72 x1.Ac] [] 4 C1 (N6 x1 (0,z0.2.1,z0.2.2.1,([]:List Ae))) (Ta x1 z1 (0,z0.2.1,z0.2.2.1,([]:List Ae))) hC [] ?_
   obtain⟨w3,hm3,hret3,hnext3⟩:=Ak h
   clear h
   refine wc w3 (Xy) (Zx x1 z1) ?_ λ z3 hs3=>?_
   ·refine wb ?_
    refine ww (N6 x1) (Ta x1 z1) hm3 λ z3 w3b h hb3 hr3=>?_
    unfold Kn at h
    rcases cB h with⟨h14,h⟩ | ⟨h14,h⟩
    ·obtain⟨y15,h16,y17,h18,y19,h20,h⟩:=Cg h
     obtain⟨y21,h22,y23,h24,h⟩:=Ba h
     exact wx w3b (N6 x1) (Ta x1 z1) B5 31 [true] [pc e27 (k27 (⟨z3.2.1,z3.2.2.1⟩:Ad) [0,1,2,2,2,3] _ h16) [0],pc e19 (k19 y15.2 5 _ h18) [0],pc e27 (k27 y17.2 [5000,5000,5005,4950] _ h20) [0],pc e27 (k27 y19.2 [0,0,40,1800,3590] _ h22) [0],pa q93 4 h24] [] 4 [0,1,2,3,4,5,6,7,8,9,10,11,15,13,14] _ hC [pq h14] (sI h).symm
    ·exact wx w3 (Xy) (Zx x1 z1) B5 26 [false] [] [] 4 C1 (z3.1,z3.2.1,z3.2.2.1,(D3 z3)) hC [pq h14] (hb3 _ (sI h).symm)
   ·have h := hnext3 _ hs3
    refine ws B5 24 [] [pl q81 x1.Ah] [] 4 C1 (N5 x1 0 (z3.2.1,z3.2.2.1,([]:List Int))) (S_ x1 z1 z3 0 (z3.2.1,z3.2.2.1,([]:List Int))) hC [] ?_
    obtain⟨w4,hm4,hret4,hnext4⟩:=Ak h
    clear h
    refine wc w4 (Xx) (Zw x1 z1 z3) ?_ λ z4 hs4=>?_
    ·refine wb ?_
     refine Cc 89 3 rfl rfl λ hl4=>?_
     refine wl (N5 x1) (S_ x1 z1 z3) hm4 (λ z4 hn4=>?_) λ n4 a4 z4 w4b hi4 hx4 h hb4 hr4=>?_
     ·clear hm4
      exact wx w4 (Xx) (Zw x1 z1 z3) B5 26 [false] [] [] 4 C1 _ hC [pq (A6 hl4)] hn4
     ·unfold Km at h
      obtain⟨y25,h26,y27,h28,h⟩:=Ba h
      exact wx w4b (N5 x1 (n4+1)) (S_ x1 z1 z3 (n4+1)) B5 33 [true] [pr q81 (Bj hx4 hl4),pn q81 (Bj hx4 hl4),⟨.nz 3,Yc rfl⟩,pc e27 (k27 (⟨z4.1,z4.2.1⟩:Ad) [a4.Load,a4.Load,a4.Least,w64 (Int.tdiv a4.Load 3)] _ h26) [0],pa pI 1 h28] [] 4 [0,1,2,3,4,5,6,7,8,9,10,11,12,16,14] _ hC [pq (A4 hi4 hl4)] (sI h).symm
    ·have h:=hnext4 _ hs4
     refine ws B5 24 [] [] [] 4 C1 (Hs (1,z4.1,z4.2.1,([]:List Aq))) (Jo x1 z1 z3 z4 (1,z4.1,z4.2.1,([]:List Aq))) hC [] ?_
     obtain⟨w5,hm5,hret5,hnext5⟩:=Ak h
     clear h
     refine wc w5 (Xw) (Zv x1 z1 z3 z4) ?_ λ z5 hs5=>?_
     ·refine wb ?_
      refine ww (Hs) (Jo x1 z1 z3 z4) hm5 λ z5 w5b h hb5 hr5=>?_
      unfold Kl at h
      rcases cB h with⟨h29,h⟩ | ⟨h29,h⟩
      ·obtain⟨y30,h31,h⟩:=Au h
       rcases cB h with⟨h32,h⟩ | ⟨h32,h⟩
       ·obtain⟨y33,h34,h⟩:=Au h
        refine wn B5 35 [true,true] [pc e19 (k19 (⟨z5.2.1,z5.2.2.1⟩:Ad) 5 _ h31) [0],pc e19 (k19 y30.2 4 _ h34) [0],pb e64 (k64 x1 (⟨z5.1,y33.1⟩:Aq) _ rfl)] [] 4 Aqi [0,3,4,5,12,13,126] hC [pq h29,pq h32] ?_
        rcases cB h with⟨h35,h⟩ | ⟨h35,h⟩
        ·obtain⟨y36,h37,h⟩:=Au h
         exact wx w5b (Hs) (Jo x1 z1 z3 z4) B5 25 [true] [pa q96 2 h37] [] 4 [0,1,2,3,4,5,6,7,8,9,10,11,12,13,16] _ hC [pq h35] (sI h).symm
        ·exact wx w5b (Hs) (Jo x1 z1 z3 z4) B5 25 [false] [] [] 4 C1 _ hC [pq h35] (sI h).symm
       ·exact wx w5b (Hs) (Jo x1 z1 z3 z4) B5 34 [true,false] [pc e19 (k19 (⟨z5.2.1,z5.2.2.1⟩:Ad) 5 _ h31) [0]] [] 4 C1 _ hC [pq h29,pq h32] (sI h).symm
      ·exact wx w5 (Xw) (Zv x1 z1 z3 z4) B5 26 [false] [] [] 4 [0,1,2,3,5,6,7,8,9,10,11,12,13,14] (z5.1,z5.2.1,z5.2.2.1,(D3 z5)) hC [pq h29] (hb5 _ (sI h).symm)
     ·have h:=hnext5 _ hs5
      replace h:=sI h
      subst h
      exact wr B5 23 [] [] [] 4 [0,1,2,3,10,11,12,13] hC []
theorem Aps:EN 46:=en Tryz.func46
def Cw:List Nat:=[0,1,2,3,4,5,7,8,9,10,11,12,13,15,19,45,47,48,49,50,74,77,78,79,80,92,97,99,100,101,102,124,128,129,130,134,135,136,137,144,149]
def Wu (x1:Ab) (n0:Nat) (z0:Unit):St:=[(2,dO 0 0),(3,dO 1 0),(4,dI 0),(47,.d (DS q93 x1.Ac)),(48,dI (ln x1.Ac)),(49,dI (cnt 0 n0))]
def Acc (x0:Aa) (x1:Ab) (n0:Nat) (z0:Unit):List Res:=[.box 30 (d30 x0),.box 39 (d39 x1)]
def Aed  (z0:Unit):St:=[(2,dO 0 0),(3,dO 1 0),(4,dI 0)]
def Ag3 (x0:Aa) (x1:Ab) (z0:Unit):List Res:=[.box 30 (d30 x0),.box 39 (d39 x1)]
def Wt (x1:Ab) (n1:Nat) (z1:Unit):St:=[(2,dO 0 0),(3,dO 1 0),(4,dI 0),(77,.d (DS pI x1.Aw)),(78,dI (ln x1.Aw)),(79,dI (cnt 0 n1))]
def Acb (x0:Aa) (x1:Ab) (n1:Nat) (z1:Unit):List Res:=[.box 30 (d30 x0),.box 39 (d39 x1)]
def Aec  (z1:Unit):St:=[(2,dO 0 0),(3,dO 1 0),(4,dI 0)]
def Ag2 (x0:Aa) (x1:Ab) (z1:Unit):List Res:=[.box 30 (d30 x0),.box 39 (d39 x1)]
def Ws (x1:Ab) (n2:Nat) (z2:Unit):St:=[(2,dO 0 0),(3,dO 1 0),(4,dI 0),(99,.d (DS q96 x1.As)),(100,dI (ln x1.As)),(101,dI (cnt 0 n2))]
def Aca (x0:Aa) (x1:Ab) (n2:Nat) (z2:Unit):List Res:=[.box 30 (d30 x0),.box 39 (d39 x1)]
def Aeb  (z2:Unit):St:=[(2,dO 0 0),(3,dO 1 0),(4,dI 0)]
def Ag1 (x0:Aa) (x1:Ab) (z2:Unit):List Res:=[.box 30 (d30 x0),.box 39 (d39 x1)]
def Wr (x0:Aa) (z3:Int):St:=[(2,dO 0 0),(3,dO 1 0),(4,dI 0),(128,dI (ln x0.Ah)),(129,dI z3)]
def Ab9 (x0:Aa) (x1:Ab) (z3:Int):List Res:=[.box 30 (d30 x0),.box 39 (d39 x1)]
def Aea  (z3:Int):St:=[(4,dI 0)]
def Ag0  (z3:Int):List Res:=[]
def Po (x0:Aa) (z3:Int) (y14:(List Int)) (n4:Nat) (z4:Int):St:=[(2,dO 0 0),(3,dO 1 0),(4,dI 0),(13,dI z4),(128,dI (ln x0.Ah)),(129,dI z3),(134,dS 2),(135,dI (ln y14)),(136,dI (cnt 0 n4))]
def V2 (x0:Aa) (x1:Ab) (y14:(List Int)) (n4:Nat) (z4:Int):List Res:=[.box 30 (d30 x0),.box 39 (d39 x1),v0_ y14]
def Ad9 (x0:Aa) (z3:Int) (z4:Int):St:=[(2,dO 0 0),(3,dO 1 0),(4,dI 0),(13,dI z4),(128,dI (ln x0.Ah)),(129,dI z3)]
def Agz (x0:Aa) (x1:Ab) (z4:Int):List Res:=[.box 30 (d30 x0),.box 39 (d39 x1)]
set_option maxHeartbeats 4000000 in
theorem k62 (x0 : Aa) (x1 : Ab) (r : Int) (h : F62 x0 x1 = some r) : CO 62 [.agg (d30 x0), .agg (d39 x1)] [] (.d (I r)) [] := by
 unfold F62 at h
 refine co 151 Tryz.func62 λ C hC=>?_
 obtain⟨y1,h2,h⟩:=Au h
 rcases cB h with⟨h3,h⟩ | ⟨h3,h⟩
 ·replace h:=sI h
  subst h
  exact wr Cw 31 [true] [pc e43 (k43 x0 _ h2) []] [] 0 [] hC [pq h3]
 ·refine wn Cw 33 [false] [pc e43 (k43 x0 _ h2) [], pl pB x1.Am, pl q70 x0.Ag, pL_ [(((ln x1.Am) != (ln x0.Ag)), false)] q93 x1.Ac, pL_ [(((ln x1.Am) != (ln x0.Ag)), false)] q72 x0.Ac, pL_ [((((ln x1.Am) != (ln x0.Ag)) || ((ln x1.Ac) != (ln x0.Ac))), false)] pI x1.Aw, pL_ [((((ln x1.Am) != (ln x0.Ag)) || ((ln x1.Ac) != (ln x0.Ac))), false)] q81 x0.Ah] [] 0 [0, 1] [2, 3, 4, 45] hC [pq h3] ?_
  rcases cB h with⟨h4,h⟩ | ⟨h4,h⟩
  ·replace h:=sI h
   subst h
   exact wr Cw 24 [true] [] [] 0 [] hC [pq h4]
  ·refine ws Cw 26 [false] [pl q93 x1.Ac] [] 0 [0, 1] (Wu x1 0 ()) (Acc x0 x1 0 ()) hC [pq h4] ?_
   obtain⟨w0,hm0,hret0,hnext0⟩:=Ak h
   clear h
   refine wc w0 (Aed) (Ag3 x0 x1) ?_ λ z0 hs0=>?_
   ·refine wb ?_
    refine Bn 47 rfl λ hl0=>?_
    refine wl (Wu x1) (Acc x0 x1) hm0 (λ z0 hn0=>?_) λ n0 a0 z0 w0b hi0 hx0 h hb0 hr0=>?_
    ·clear hm0
     exact wx w0 (Aed) (Ag3 x0 x1) Cw 26 [false] [] [] 0 [0,1] _ hC [pq (A6 hl0)] hn0
    ·unfold jY at h
     refine wn Cw 32 [true] [pt hx0 hl0,pc e82 (k82 a0.State 0 3 _ rfl) [],⟨.when [(!(F82 a0.State 0 3),false)] (.call 82 [dI a0.Since,dI 0,dI 2147483648] [] (dB (F82 a0.Since 0 2147483648)) [] []),λ hg=>⟨e82,(k82 a0.Since 0 2147483648 _ rfl)⟩⟩,⟨.when [(((!(F82 a0.State 0 3)) || (!(F82 a0.Since 0 2147483648))),false)] (.call 82 [dI a0.An,dI 0,dI 6000] [] (dB (F82 a0.An 0 6000)) [] []),λ hg=>⟨e82,(k82 a0.An 0 6000 _ rfl)⟩⟩,⟨.when [((((!(F82 a0.State 0 3)) || (!(F82 a0.Since 0 2147483648))) || (!(F82 a0.An 0 6000))),false)] (.call 82 [dI a0.Phase,dI 0,dI 3599] [] (dB (F82 a0.Phase 0 3599)) [] []),λ hg=>⟨e82,(k82 a0.Phase 0 3599 _ rfl)⟩⟩] [] 0 [0,1] [2,3,4,47,48,49,74] hC [pq (A4 hi0 hl0)] ?_
     rcases cB h with⟨h5,h⟩ | ⟨h5,h⟩
     ·have hq:=hret0 _ (hr0 _ (sI h).symm)
      replace hq:=sI hq
      subst hq
      exact wr Cw 24 [true] [] [] 0 [] hC [pq h5]
     ·exact wx w0b (Wu x1 (n0+1)) (Acc x0 x1 (n0+1)) Cw 25 [false] [] [] 0 [0,1] _ hC [pq h5] (sI h).symm
   ·have h := hnext0 _ hs0
    refine ws Cw 24 [] [pl pI x1.Aw] [] 0 [0,1] (Wt x1 0 ()) (Acb x0 x1 0 ()) hC [] ?_
    obtain⟨w1,hm1,hret1,hnext1⟩:=Ak h
    clear h
    refine wc w1 (Aec) (Ag2 x0 x1) ?_ λ z1 hs1=>?_
    ·refine wb ?_
     refine Bn 77 rfl λ hl1=>?_
     refine wl (Wt x1) (Acb x0 x1) hm1 (λ z1 hn1=>?_) λ n1 a1 z1 w1b hi1 hx1 h hb1 hr1=>?_
     ·clear hm1
      exact wx w1 (Aec) (Ag2 x0 x1) Cw 26 [false] [] [] 0 [0,1] _ hC [pq (A6 hl1)] hn1
     ·unfold jX at h
      obtain⟨y6,h7,h⟩:=Au h
      refine wn Cw 32 [true] [pt hx1 hl1,pr q81 h7,pc e82 (k82 a1 0 y6.Load _ rfl) []] [] 0 [0,1] [2,3,4,77,78,79,92] hC [pq (A4 hi1 hl1)] ?_
      rcases cB h with⟨h8,h⟩ | ⟨h8,h⟩
      ·have hq:=hret1 _ (hr1 _ (sI h).symm)
       replace hq:=sI hq
       subst hq
       exact wr Cw 24 [true] [] [] 0 [] hC [pq h8]
      ·exact wx w1b (Wt x1 (n1+1)) (Acb x0 x1 (n1+1)) Cw 25 [false] [] [] 0 [0,1] _ hC [pq h8] (sI h).symm
    ·have h := hnext1 _ hs1
     rcases cB h with⟨h9,h⟩ | ⟨h9,h⟩
     ·replace h:=sI h
      subst h
      exact wr Cw 27 [true] [pl q96 x1.As] [] 0 [] hC [pq h9]
     ·refine ws Cw 29 [false] [pl q96 x1.As,pl q96 x1.As] [] 0 [0,1] (Ws x1 0 ()) (Aca x0 x1 0 ()) hC [pq h9] ?_
      obtain⟨w2,hm2,hret2,hnext2⟩:=Ak h
      clear h
      refine wc w2 (Aeb) (Ag1 x0 x1) ?_ λ z2 hs2=>?_
      ·refine wb ?_
       refine Bn 99 rfl λ hl2=>?_
       refine wl (Ws x1) (Aca x0 x1) hm2 (λ z2 hn2=>?_) λ n2 a2 z2 w2b hi2 hx2 h hb2 hr2=>?_
       ·clear hm2
        exact wx w2 (Aeb) (Ag1 x0 x1) Cw 26 [false] [] [] 0 [0,1] _ hC [pq (A6 hl2)] hn2
       ·unfold jW at h
        obtain⟨y10,h11,h⟩:=Au h
        refine wn Cw 32 [true] [pt hx2 hl2,pc e64 (k64 x0 a2 _ rfl) [],pR q96 h11,⟨.when [(!(F64 x0 a2),false),(decide ((cnt 0 n2)>0),true)] (.call 84 [.agg (d96 y10),.agg (d96 a2)] [] (dB (F84 y10 a2)) [] []),λ hg=>⟨e84,(k84 y10 a2 _ rfl)⟩⟩] [] 0 [0,1] [2,3,4,99,100,101,124] hC [pq (A4 hi2 hl2)] ?_
        rcases cB h with⟨h12,h⟩ | ⟨h12,h⟩
        ·have hq:=hret2 _ (hr2 _ (sI h).symm)
         replace hq:=sI hq
         subst hq
         exact wr Cw 24 [true] [] [] 0 [] hC [pq h12]
        ·exact wx w2b (Ws x1 (n2+1)) (Aca x0 x1 (n2+1)) Cw 25 [false] [] [] 0 [0,1] _ hC [pq h12] (sI h).symm
      ·have h:=hnext2 _ hs2
       refine ws Cw 24 [] [pl q81 x0.Ah] [] 0 [0,1] (Wr x0 0) (Ab9 x0 x1 0) hC [] ?_
       obtain⟨w3,hm3,hret3,hnext3⟩:=Ak h
       clear h
       refine wc w3 (Aea) (Ag0) ?_ λ z3 hs3=>?_
       ·refine wb ?_
        refine ww (Wr x0) (Ab9 x0 x1) hm3 λ z3 w3b h hb3 hr3=>?_
        unfold jV at h
        rcases cB h with⟨h13,h⟩ | ⟨h13,h⟩
        ·obtain⟨y14,h15,h⟩:=Au h
         refine ws Cw 35 [true] [pc e83 (k83 x0 3 z3 _ h15) [],pl pI y14] [] 0 n3_ (Po x0 z3 y14 0 0) (V2 x0 x1 y14 0 0) hC [pq h13] ?_
         obtain⟨w4,hm4,hret4,hnext4⟩:=Ak h
         clear h
         refine wc w4 (Ad9 x0 z3) (Agz x0 x1) ?_ λ z4 hs4=>?_
         ·refine wb ?_
          refine Cc 134 2 rfl rfl λ hl4=>?_
          refine wl (Po x0 z3 y14) (V2 x0 x1 y14) hm4 (λ z4 hn4=>?_) λ n4 a4 z4 w4b hi4 hx4 h hb4 hr4=>?_
          ·clear hm4
           exact wx w4 (Ad9 x0 z3) (Agz x0 x1) Cw 26 [false] [] [] 0 [0,1] _ hC [pq (A6 hl4)] hn4
          ·unfold jU at h
           obtain⟨y16,h17,h⟩:=Au h
           rcases cB h with⟨h18,h⟩ | ⟨h18,h⟩
           ·exact wx w4b (Po x0 z3 y14 (n4+1)) (V2 x0 x1 y14 (n4+1)) Cw 36 [true,true] [pr pI (Bj hx4 hl4),pn pI (Bj hx4 hl4),pr pB h17] [] 0 n3_ _ hC [pq (A4 hi4 hl4),pq h18] (sI h).symm
           ·exact wx w4b (Po x0 z3 y14 (n4+1)) (V2 x0 x1 y14 (n4+1)) Cw 36 [true,false] [pr pI (Bj hx4 hl4),pn pI (Bj hx4 hl4),pr pB h17] [] 0 n3_ _ hC [pq (A4 hi4 hl4),pq h18] (sI h).symm
         ·have h:=hnext4 _ hs4
          rcases cB h with⟨h19,h⟩ | ⟨h19,h⟩
          ·have hq:=hret3 _ (hr3 _ (sI h).symm)
           replace hq:=sI hq
           subst hq
           exact wr Cw 26 [true] [] [] 0 [] hC [pq h19]
          ·exact wx w3b (Wr x0) (Ab9 x0 x1) Cw 27 [false] [] [] 0 [0,1] _ hC [pq h19] (sI h).symm
        ·exact wx w3 (Aea) (Ag0) Cw 26 [false] [] [] 0 [] z3 hC [pq h13] (hb3 _ (sI h).symm)
       ·have h:=hnext3 _ hs3
        replace h:=sI h
        subst h
        exact wr Cw 23 [] [] [] 0 [] hC []
theorem e62:EN 62:=en Tryz.func62
theorem k38 (x0:Ad) (r:Int×Ad) (h:F38 x0=some r):CO 38 [.d (.o 0 0)] [.box 77 (d77 x0)] (.d (I r.1)) [.box 77 (d77 r.2)]:=by
 unfold F38 at h
 refine co 6 Tryz.func38 λ C hC=>?_
 obtain⟨y1,h2,h⟩:=Au h
 replace h:=sI h
 subst h
 exact wr [0,2] 25 [] [pc e27 (k27 x0 [(-1),0,1,4611686018427387904,(-4611686018427387904),9223372036854775807,(-9223372036854775808),1000000000,1000000001,(-1000000001),3600,1800,100000000,100000001,5001] _ h2) [0]] [] 1 [0] hC []
theorem e38:EN 38:=en Tryz.func38
def Lr:List Nat:=[0,1,2,3,5,6,7,29,43,44,45,46,56,57,58,59,71]
def Wg (x0:Aa) (n0:Nat) (z0:Bool):St:=[(1,dO 0 0),(2,dI 0),(3,dB z0),(43,.d (DS q72 x0.Ac)),(44,dI (ln x0.Ac)),(45,dI (cnt 0 n0))]
def Abz (x0:Aa) (n0:Nat) (z0:Bool):List Res:=[.box 30 (d30 x0)]
def Adw  (z0:Bool):St:=[(1,dO 0 0),(2,dI 0),(3,dB z0)]
def Agm (x0:Aa) (z0:Bool):List Res:=[.box 30 (d30 x0)]
def Wf (x0:Aa) (n1:Nat) (z1:Bool):St:=[(2,dI 0),(3,dB z1),(56,.d (DS q81 x0.Ah)),(57,dI (ln x0.Ah)),(58,dI (cnt 0 n1))]
def Aby  (n1:Nat) (z1:Bool):List Res:=[]
def Adv  (z1:Bool):St:=[(2,dI 0),(3,dB z1)]
def Agl  (z1:Bool):List Res:=[]
theorem k86 (x0:Aa) (r:Int) (h:F86 x0=some r):CO 86 [.agg (d30 x0)] [] (.d (I r)) []:=by
 unfold F86 at h
 refine co 72 Tryz.func86 λ C hC=>?_
 refine wn Lr 26 [] [pc e91 (k91 x0.Ap 1 6 _ rfl) [],pL_ [(!(F91 x0.Ap 1 6),false)] q70 x0.Ag,pL_ [(((!(F91 x0.Ap 1 6)) || (decide ((ln x0.Ag)>24))),false)] q72 x0.Ac,pL_ [((((!(F91 x0.Ap 1 6)) || (decide ((ln x0.Ag)>24))) || (decide ((ln x0.Ac)>8))),false)] q81 x0.Ah] [] 0 [0] [1,2,29] hC [] ?_
 rcases cB h with⟨h1,h⟩ | ⟨h1,h⟩
 ·cases h
 ·obtain⟨y2,h3,h⟩:=Au h
  refine ws Lr 28 [false] [pc Arw (Aq3 x0 _ h3) [],⟨.when [(y2,true)] (.call 91 [dI x0.Phase,dI 0,dI 1800] [] (dB (F91 x0.Phase 0 1800)) [] []),λ hg=>⟨e91,(k91 x0.Phase 0 1800 _ rfl)⟩⟩,⟨.when [((y2&&(F91 x0.Phase 0 1800)),true)] (.call 91 [dI x0.An,dI 0,dI 6000] [] (dB (F91 x0.An 0 6000)) [] []),λ hg=>⟨e91,(k91 x0.An 0 6000 _ rfl)⟩⟩,pl q72 x0.Ac] [] 0 [0] (Wg x0 0 ((y2&&(F91 x0.Phase 0 1800))&&(F91 x0.An 0 6000))) (Abz x0 0 ((y2&&(F91 x0.Phase 0 1800))&&(F91 x0.An 0 6000))) hC [pq h1] ?_
  obtain⟨w0,hm0,hret0,hnext0⟩:=Ak h
  clear h
  refine wc w0 (Adw) (Agm x0) ?_ λ z0 hs0=>?_
  ·refine wb ?_
   refine Bn 43 rfl λ hl0=>?_
   refine wl (Wg x0) (Abz x0) hm0 (λ z0 hn0=>?_) λ n0 a0 z0 w0b hi0 hx0 h hb0 hr0=>?_
   ·clear hm0
    exact wx w0 (Adw) (Agm x0) Lr 26 [false] [] [] 0 [0] _ hC [pq (A6 hl0)] hn0
   ·unfold Ah2 at h
    exact wx w0b (Wg x0 (n0+1)) (Abz x0 (n0+1)) Lr 33 [true] [pt hx0 hl0,⟨.when [(z0,true)] (.call 114 [.agg (d72 a0)] [] (dB (Ada a0)) [] []),λ hg=>⟨Arv,(Aq2 a0 _ rfl)⟩⟩] [] 0 [0] _ hC [pq (A4 hi0 hl0)] (sI h).symm
  ·have h:=hnext0 _ hs0
   refine ws Lr 24 [] [pl q81 x0.Ah] [] 0 [] (Wf x0 0 z0) (Aby 0 z0) hC [] ?_
   obtain⟨w1,hm1,hret1,hnext1⟩:=Ak h
   clear h
   refine wc w1 (Adv) (Agl) ?_ λ z1 hs1=>?_
   ·refine wb ?_
    refine Bn 56 rfl λ hl1=>?_
    refine wl (Wf x0) (Aby) hm1 (λ z1 hn1=>?_) λ n1 a1 z1 w1b hi1 hx1 h hb1 hr1=>?_
    ·clear hm1
     exact wx w1 (Adv) (Agl) Lr 26 [false] [] [] 0 [] _ hC [pq (A6 hl1)] hn1
    ·unfold Ah1 at h
     obtain⟨y4,h5,h⟩:=Au h
     exact wx w1b (Wf x0 (n1+1)) (Aby (n1+1)) Lr 33 [true] [pt hx1 hl1,pw Aru (λ hg=>Aq1 a1 (cnt 0 n1) _ (A9 h5 hg)) []] [] 0 [] _ hC [pq (A4 hi1 hl1)] (sI h).symm
   ·have h:=hnext1 _ hs1
    rcases cB h with⟨h6,h⟩ | ⟨h6,h⟩
    ·cases h
    ·replace h:=sI h
     subst h
     exact wr Lr 28 [false] [] [] 0 [] hC [pq h6]
theorem e86:EN 86:=en Tryz.func86
theorem Ao4 (x0:List Ae) (r:Bool) (h:Ac0 x0=some r):CO 88 [.d (DS q93 x0),.d (.fn (.func 89) [] [])] [] (.d (Bo r)) []:=by
 unfold Ac0 at h
 refine co 9 Tryz.func88 λ C hC=>?_
 obtain⟨y1,h2,h⟩:=Au h
 replace h:=sI h
 subst h
 exact wr [0,1,4] 25 [] [pc An6 (Ana x0 _ h2) []] [] 0 [] hC []
theorem Apj:EN 88:=en Tryz.func88
theorem Am4 (x0:A_) (x1:Int) (r:Int×A_) (h:uB x0 x1=some r):CO 139 [.d (.o 0 0),.d (I x1)] (.box 175 (zb x0.Aj [.os 1,.os 2,.os 3,.os 4,I x0.time])::zp x0.Az []) (.d (I r.1)) (.box 175 (zb r.2.Aj [.os 1,.os 2,.os 3,.os 4,I r.2.time])::zp r.2.Az []):=by
 unfold uB at h
 refine co 53 Tryz.func139 λ C hC=>?_
 obtain⟨y1,h2,y3,h4,h⟩:=Ba h
 refine wn [0,1,4,5,23,43] 26 [] [pr q93 h2,pn q93 h2,pv Ano (λ hg=>Amt x0.Az 1 x1 _ (A9 h4 hg))] [] 5 n5_ [0,1,4,23] hC [] ?_
 rcases cB h with⟨h5,h⟩ | ⟨h5,h⟩
 ·cases h
 ·obtain⟨y6,h7,y8,h9,h⟩:=Ba h
  refine wn [0,1,4,5,23,43] 28 [false] [pr q72 h7,pv Afy (λ hg=>Aff x0 x1 _ (A9 h9 hg))] [] 5 n6_ [0,1,4,5,43] hC [pq h5] ?_
  rcases cB h with⟨h10,h⟩ | ⟨h10,h⟩
  ·obtain⟨y11,h12,h⟩:=Au h
   replace h:=sI h
   subst h
   exact wr [0,1,4,5,23,43] 27 [true] [pr q93 h2,pu q93 h2 h12] [] 5 n5_ hC [pq h10]
  ·cases h
theorem An0:EN 139:=en Tryz.func139
def I8:List Nat:=[0,1,2,3,4,5,7,12,20]
theorem Amx (x0:Ax) (x1:Af) (r:Bool×Ax) (h:qR x0 x1=some r):CO 157 [.d (.o 0 0),.agg (d70 x1)] (.box 214 (zb x0.Aj [.os 1,.os 2,.os 3,.os 4,.os 5])::zp x0.Az [v6_ x0.acts]) (.d (Bo r.1)) (.box 214 (zb r.2.Aj [.os 1,.os 2,.os 3,.os 4,.os 5])::zp r.2.Az [v6_ r.2.acts]):=by
 unfold qR at h
 refine co 45 Tryz.func157 λ C hC=>?_
 obtain⟨y1,h2,h⟩:=Au h
 refine wn I8 29 [] [pc Qf (P6 3 x1.A x0 _ h2) [6,0,1,2,3,4,5]] [] 6 n8_ [2,3,4,5,7] hC [] ?_
 rcases cB h with⟨h3,h⟩ | ⟨h3,h⟩
 ·replace h:=sI h
  subst h
  exact wr I8 24 [true] [] [] 6 n6_ hC [pq h3]
 ·rcases cB h with⟨h4,h⟩ | ⟨h4,h⟩
  ·obtain⟨y5,h6,h⟩:=Au h
   replace h:=sI h
   subst h
   exact wr I8 27 [false,true] [pc Qf (P6 3 x1.B y1.2 _ h6) [6,0,1,2,3,4,5]] [] 6 n6_ hC [pq h3,pq h4]
  ·rcases cB h with⟨h7,h⟩ | ⟨h7,h⟩
   ·obtain⟨y8,h9,y10,h11,h⟩:=Ba h
    replace h:=sI h
    subst h
    exact wr I8 30 [false,false,true] [pc Qf (P6 1 x1.B y1.2 _ h9) [6,0,1,2,3,4,5],pR q93 h11,pN q93 h11] [] 6 n6_ hC [pq h3,pq h4,pq h7]
   ·obtain⟨y12,h13,h⟩:=Au h
    replace h:=sI h
    subst h
    exact wr I8 32 [false,false,false] [pc Qf (P6 4 x1.B y1.2 _ h13) [6,0,1,2,3,4,5]] [] 6 n6_ hC [pq h3,pq h4,pq h7]
theorem Ans:EN 157:=en Tryz.func157
theorem Amv (x0:List Int) (x1c0:Ai) (r:(List Int)×Ai) (h:qP x0 x1c0=some r):CO 160 [.d (.os 0),.d (.fn (.func 161) [] [.o 1 0])] [v0_ x0,.box 137 (Kf x1c0)] (.d (.os 2)) [.non,.box 137 (Kf r.2),v0_ r.1]:=by
 unfold qP at h
 refine co 42 Tryz.func160 λ C hC=>?_
 obtain⟨y1,h2,h⟩:=Au h
 refine wn [0,1,4,5,6,7,12,19,29] 28 [] [pc Ank (Amp x0 x1c0 _ h2) [0,1]] [] 2 [0,1] [0,1,4,5,12] hC [] ?_
 rcases cB h with⟨h3,h⟩ | ⟨h3,h⟩
 ·replace h:=sI h
  subst h
  exact wr [0,1,4,5,6,7,12,19,29] 24 [true] [] [.mv 0] 2 n3_ hC [pq h3]
 ·cases h
theorem Anq:EN 160:=en Tryz.func160
def P1:List Nat:=[0,1,2,3,4,6,7,8,32,43]
theorem Aqt (x0:Aa) (x1:Ab) (x2:Int) (r:Int×Bool) (h:qY x0 x1 x2=some r):CO 149 [.agg (d30 x0),.agg (d39 x1),.d (I x2)] [] (.tup [.d (I r.1),.d (Bo r.2)]) []:=by
 unfold qY at h
 refine co 50 Tryz.func149 λ C hC=>?_
 obtain⟨y1,h2,y3,h4,h⟩:=Ba h
 refine wn P1 26 [] [pc e62 (k62 x0 x1 _ h2) [],pL_ [(((y1 != 0) || (decide (x2<0))),false)] q72 x0.Ac,pR q93 h4] [] 0 [0,1] [2,3,4,6,7,32] hC [] ?_
 rcases cB h with⟨h5,h⟩ | ⟨h5,h⟩
 ·replace h:=sI h
  subst h
  exact wr P1 24 [true] [] [] 0 [] hC [pq h5]
 ·obtain⟨y6,h7,y8,h9,y10,h11,h⟩:=Cg h
  refine wn P1 28 [false] [pc e83 (k83 x0 2 x2 _ h7) [],pr pI h9,pn pI h9,pr pB h11] [] 0 [0] [3,6,7,8,43] hC [pq h5] ?_
  rcases cB h with⟨h12,h⟩ | ⟨h12,h⟩
  ·replace h:=sI h
   subst h
   exact wr P1 24 [true] [] [] 0 [] hC [pq h12]
  ·obtain⟨y13,h14,h⟩:=Au h
   replace h:=sI h
   subst h
   exact wr P1 25 [false] [pr q70 h14] [] 0 [] hC [pq h12]
theorem Arm:EN 149:=en Tryz.func149
def J4:List Nat:=[0,1,2,3,4,6,7,9,24,27,28,29,30,37]
def Rt (y4:(List Int)) (n0:Nat) (z0:Unit):St:=[(3,dO 0 0),(4,dO 1 0),(6,dI 0),(7,dB false),(27,dS 2),(28,dI (ln y4)),(29,dI (cnt 0 n0))]
def jA (x0:Aa) (x1:Ab) (y4:(List Int)) (n0:Nat) (z0:Unit):List Res:=[.box 30 (d30 x0),.box 39 (d39 x1),v0_ y4]
def vR  (z0:Unit):St:=[(6,dI 0),(7,dB false)]
def zD  (z0:Unit):List Res:=[]
theorem Aqs (x0:Aa) (x1:Ab) (x2:Int) (r:Int×Bool) (h:qX x0 x1 x2=some r):CO 151 [.agg (d30 x0),.agg (d39 x1),.d (I x2)] [] (.tup [.d (I r.1),.d (Bo r.2)]) []:=by
 unfold qX at h
 refine co 45 Tryz.func151 λ C hC=>?_
 obtain⟨y1,h2,h⟩:=Au h
 refine wn J4 26 [] [pc e62 (k62 x0 x1 _ h2) [],pL_ [(((y1 != 0) || (decide (x2<0))),false)] q81 x0.Ah] [] 0 [0,1] [2,3,4,6,7,24] hC [] ?_
 rcases cB h with⟨h3,h⟩ | ⟨h3,h⟩
 ·replace h:=sI h
  subst h
  exact wr J4 24 [true] [] [] 0 [] hC [pq h3]
 ·obtain⟨y4,h5,h⟩:=Au h
  refine ws J4 26 [false] [pc e83 (k83 x0 3 x2 _ h5) [],pl pI y4] [] 0 n3_ (Rt y4 0 ()) (jA x0 x1 y4 0 ()) hC [pq h3] ?_
  obtain⟨w0,hm0,hret0,hnext0⟩:=Ak h
  clear h
  refine wc w0 (vR) (zD) ?_ λ z0 hs0=>?_
  ·refine wb ?_
   refine Cc 27 2 rfl rfl λ hl0=>?_
   refine wl (Rt y4) (jA x0 x1 y4) hm0 (λ z0 hn0=>?_) λ n0 a0 z0 w0b hi0 hx0 h hb0 hr0=>?_
   ·clear hm0
    exact wx w0 (vR) (zD) J4 26 [false] [] [] 0 [] _ hC [pq (A6 hl0)] hn0
   ·unfold Ni at h
    obtain⟨y6,h7,h⟩:=Au h
    rcases cB h with⟨h8,h⟩ | ⟨h8,h⟩
    ·obtain⟨y9,h10,h⟩:=Au h
     have hq:=hret0 _ (hr0 _ (sI h).symm)
     replace hq:=sI hq
     subst hq
     exact wr J4 35 [true,true] [pr pI (Bj hx0 hl0),pn pI (Bj hx0 hl0),pr pB h7,pr q70 h10] [] 0 [] hC [pq (A4 hi0 hl0),pq h8]
    ·exact wx w0b (Rt y4 (n0+1)) (jA x0 x1 y4 (n0+1)) J4 36 [true,false] [pr pI (Bj hx0 hl0),pn pI (Bj hx0 hl0),pr pB h7] [] 0 n3_ _ hC [pq (A4 hi0 hl0),pq h8] (sI h).symm
  ·have h:=hnext0 _ hs0
   replace h:=sI h
   subst h
   exact wr J4 23 [] [] [] 0 [] hC []
theorem Arl:EN 151:=en Tryz.func151
def D7:List Nat:=[0,1,3,4,5,6,10,13,14,15,22,29,34,46,51,63,68,79]
def N9 (y1:Ab) (z0:Int×(List Bool)):St:=[(4,dO 5 0),(5,dO 10 0),(13,dI (ln y1.Am)),(14,dI z0.1)]
def Td (x1:Ab) (y1:Ab) (y3:Int×Ad) (z0:Int×(List Bool)):List Res:=(.box 77 (d77 y3.2)::zp x1 (.box 39 [.os 11,.os 12,.os 13,.os 14]::v3_ z0.2::v4_ y1.Ac::v0_ y1.Aw::v5_ y1.As :: .box 39 [.os 6,.os 7,.os 8,.os 9]::ze []))
def X2  (z0:Int×(List Bool)):St:=[(4,dO 5 0),(5,dO 10 0)]
def Z1 (x1:Ab) (y1:Ab) (y3:Int×Ad) (z0:Int×(List Bool)):List Res:=(.box 77 (d77 y3.2)::zp x1 (.box 39 [.os 11,.os 12,.os 13,.os 14]::v3_ z0.2::v4_ y1.Ac::v0_ y1.Aw::v5_ y1.As :: .box 39 [.os 6,.os 7,.os 8,.os 9]::ze []))
theorem Apf (x0 : Ad) (x1 : Ab) (r : Ab × Ad) (h : Ra x0 x1 = some r) : CO 21 [.d (.o 0 0), .agg [.os 1, .os 2, .os 3, .os 4]] (.box 77 (d77 x0) :: zp x1 []) (.agg [.os 5, .os 6, .os 7, .os 8]) (.box 77 (d77 r.2) :: zp x1 (zp r.1 [])) := by
 unfold Ra at h
 refine co 92 Tryz.func21 λ C hC=>?_
 obtain⟨y1,h2,y3,h4,h⟩:=Ba h
 refine wn D7 31 [] [⟨.call 37 [.agg [.os 0,.os 1,.os 2,.os 3]] (zp x1 []) (.agg [.os 4,.os 5,.os 6,.os 7]) (zp x1 (zp y1 [])) [1,2,3,4],⟨e37,((k37 x1 _ h2).lend (by kernel_rfl) (by kernel_rfl) (by kernel_rfl) ⟨Bc (λ _=>rfl),Bc (λ _=>rfl),Bc (λ _=>rfl),Bc (λ _=>rfl),trivial⟩ (by kernel_rfl) (by kernel_rfl))⟩⟩,pc e19 (k19 x0 6 _ h4) [0]] [.ownb 6 0 4 1,.ownb 6 1 93 4,.ownb 6 2 3 1,.ownb 6 3 96 2] 5 [0,1,2,3,4,6,7,8,9,10,11,12,13,14,15] [0,4,5,10,22] hC [] ?_
 rcases cB h with⟨h5,h⟩ | ⟨h5,h⟩
 ·obtain⟨y6,h7,h⟩:=Au h
  replace h:=sI h
  subst h
  exact wr D7 26 [true] [pa pB 1 h7] [] 5 [0,1,2,3,4,15,7,8,9] hC [pq h5]
 ·rcases cB h with⟨h8,h⟩ | ⟨h8,h⟩
  ·rcases cB h with⟨h9,h⟩ | ⟨h9,h⟩
   ·obtain⟨y10,h11,y12,h13,y14,h15,y16,h17,h⟩:=Dt h
    replace h:=sI h
    subst h
    exact wr D7 32 [false,true,true] [pl q93 y1.Ac,pl q93 y1.Ac,pc e19 (k19 y3.2 (ln y1.Ac) _ h11) [0],pc e26 (k26 y10.2 (-1) 5 _ h13) [0],pr q93 h15,pu q93 h15 h17] [] 5 [0,1,2,3,4,6,7,8,9] hC [pq h5,pq h8,pq h9]
   ·replace h:=sI h
    subst h
    exact wr D7 32 [false,true,false] [pl q93 y1.Ac] [] 5 [0,1,2,3,4,6,7,8,9] hC [pq h5,pq h8,pq h9]
  ·rcases cB h with⟨h18,h⟩ | ⟨h18,h⟩
   ·rcases cB h with⟨h19,h⟩ | ⟨h19,h⟩
    ·obtain⟨y20,h21,y22,h23,y24,h25,y26,h27,h⟩:=Dt h
     replace h:=sI h
     subst h
     exact wr D7 35 [false,false,true,true] [pl q93 y1.Ac,pl q93 y1.Ac,pc e19 (k19 y3.2 (ln y1.Ac) _ h21) [0],pc e38 (k38 y20.2 _ h23) [0],pr q93 h25,pu q93 h25 h27] [] 5 [0,1,2,3,4,6,7,8,9] hC [pq h5,pq h8,pq h18,pq h19]
    ·replace h:=sI h
     subst h
     exact wr D7 35 [false,false,true,false] [pl q93 y1.Ac] [] 5 [0,1,2,3,4,6,7,8,9] hC [pq h5,pq h8,pq h18,pq h19]
   ·rcases cB h with⟨h28,h⟩ | ⟨h28,h⟩
    ·rcases cB h with⟨h29,h⟩ | ⟨h29,h⟩
     ·obtain⟨y30,h31,y32,h33,y34,h35,y36,h37,h⟩:=Dt h
      replace h:=sI h
      subst h
      exact wr D7 38 [false,false,false,true,true] [pl pI y1.Aw,pl pI y1.Aw,pc e19 (k19 y3.2 (ln y1.Aw) _ h31) [0],pc e38 (k38 y30.2 _ h33) [0],pr pI h35,pu pI h35 h37] [] 5 [0,1,2,3,4,6,7,8,9] hC [pq h5,pq h8,pq h18,pq h28,pq h29]
     ·replace h:=sI h
      subst h
      exact wr D7 38 [false,false,false,true,false] [pl pI y1.Aw] [] 5 [0,1,2,3,4,6,7,8,9] hC [pq h5,pq h8,pq h18,pq h28,pq h29]
    ·rcases cB h with⟨h38,h⟩ | ⟨h38,h⟩
     ·obtain⟨y39,h40,y41,h42,y43,h44,h⟩:=Cg h
      replace h:=sI h
      subst h
      exact wr D7 38 [false,false,false,false,true] [pc e26 (k26 y3.2 0 5 _ h40) [0],pc e26 (k26 y39.2 (-1) 5 _ h42) [0],pa q96 2 h44] [] 5 [0,1,2,3,4,6,7,8,15] hC [pq h5,pq h8,pq h18,pq h28,pq h38]
     ·refine ws D7 36 [false,false,false,false,false] [pl pB y1.Am] [] 5 C1 (N9 y1 (0,y1.Am)) (Td x1 y1 y3 (0,y1.Am)) hC [pq h5,pq h8,pq h18,pq h28,pq h38] ?_
      obtain⟨w0,hm0,hret0,hnext0⟩:=Ak h
      clear h
      refine wc w0 (X2) (Z1 x1 y1 y3) ?_ λ z0 hs0=>?_
      ·refine wb ?_
       refine ww (N9 y1) (Td x1 y1 y3) hm0 λ z0 w0b h hb0 hr0=>?_
       unfold O9 at h
       rcases cB h with⟨h45,h⟩ | ⟨h45,h⟩
       ·obtain⟨y46,h47,y48,h49,h⟩:=Ba h
        exact wx w0b (N9 y1) (Td x1 y1 y3) D7 33 [true] [pr pB h47,pu pB h47 h49] [] 5 C1 _ hC [pq h45] (sI h).symm
       ·exact wx w0 (X2) (Z1 x1 y1 y3) D7 26 [false] [] [] 5 C1 (z0.1,z0.2) hC [pq h45] (hb0 _ (sI h).symm)
      ·have h:=hnext0 _ hs0
       replace h:=sI h
       subst h
       exact wr D7 24 [] [] [] 5 [0,1,2,3,4,6,7,8,9] hC []
theorem Apu:EN 21:=en Tryz.func21
def Yn:List Nat:=[0,1,2,3,4,5,6,7,8,12,38,50,51,52,53,77]
def Wo (x1:Ab) (n0:Nat) (z0:Bool):St:=[(2,dO 0 0),(3,dO 1 0),(4,dI 0),(6,dB z0),(50,.d (DS pI x1.Aw)),(51,dI (ln x1.Aw)),(52,dI (cnt 0 n0))]
def Ab6 (x0:Aa) (x1:Ab) (n0:Nat) (z0:Bool):List Res:=[.box 30 (d30 x0),.box 39 (d39 x1)]
def Ad6  (z0:Bool):St:=[(4,dI 0),(6,dB z0)]
def Agw  (z0:Bool):List Res:=[]
theorem k65 (x0:Aa) (x1:Ab) (r:Int) (h:F65 x0 x1=some r):CO 65 [.agg (d30 x0),.agg (d39 x1)] [] (.d (I r)) []:=by
 unfold F65 at h
 refine co 78 Tryz.func65 λ C hC=>?_
 obtain⟨y1,h2,h⟩:=Au h
 rcases cB h with⟨h3,h⟩ | ⟨h3,h⟩
 ·cases h
 ·refine wn Yn 33 [false] [pc e86 (k86 x0 _ h2) [],pl pB x1.Am,pl q70 x0.Ag,pL_ [(((ln x1.Am) != (ln x0.Ag)),false)] q93 x1.Ac,pL_ [(((ln x1.Am) != (ln x0.Ag)),false)] q72 x0.Ac,pL_ [((((ln x1.Am) != (ln x0.Ag)) || ((ln x1.Ac) != (ln x0.Ac))),false)] pI x1.Aw,pL_ [((((ln x1.Am) != (ln x0.Ag)) || ((ln x1.Ac) != (ln x0.Ac))),false)] q81 x0.Ah] [] 0 [0,1] [2,3,4,38] hC [pq h3] ?_
  rcases cB h with⟨h4,h⟩ | ⟨h4,h⟩
  ·cases h
  ·obtain⟨y5,h6,y7,h8,h⟩:=Ba h
   refine ws Yn 28 [false] [pc e87 (k87 x0 x1.As _ h6) [],pw Apj (λ hg=>Ao4 x1.Ac _ (A9 h8 hg)) [],pl pI x1.Aw] [] 0 [0,1] (Wo x1 0 (y5&&(!y7))) (Ab6 x0 x1 0 (y5&&(!y7))) hC [pq h4] ?_
   obtain⟨w0,hm0,hret0,hnext0⟩:=Ak h
   clear h
   refine wc w0 (Ad6) (Agw) ?_ λ z0 hs0=>?_
   ·refine wb ?_
    refine Bn 50 rfl λ hl0=>?_
    refine wl (Wo x1) (Ab6 x0 x1) hm0 (λ z0 hn0=>?_) λ n0 a0 z0 w0b hi0 hx0 h hb0 hr0=>?_
    ·clear hm0
     exact wx w0 (Ad6) (Agw) Yn 26 [false] [] [] 0 [] _ hC [pq (A6 hl0)] hn0
    ·unfold Aia at h
     obtain⟨y9,h10,y11,h12,h⟩:=Ba h
     exact wx w0b (Wo x1 (n0+1)) (Ab6 x0 x1 (n0+1)) Yn 33 [true] [pt hx0 hl0,pR q81 h10,⟨.when [(z0,true)] (.call 91 [dI a0,dI 0,dI y9.Load] [] (dB (F91 a0 0 y9.Load)) [] []),λ hg=>⟨e91,(k91 a0 0 y9.Load _ rfl)⟩⟩,pw e92 (λ hg=>k92 x0 x1 (cnt 0 n0) _ (A9 h12 hg)) []] [] 0 [0,1] _ hC [pq (A4 hi0 hl0)] (sI h).symm
   ·have h:=hnext0 _ hs0
    rcases cB h with⟨h13,h⟩ | ⟨h13,h⟩
    ·cases h
    ·replace h:=sI h
     subst h
     exact wr Yn 28 [false] [] [] 0 [] hC [pq h13]
theorem e65:EN 65:=en Tryz.func65
def Fr:List Nat:=[0,1,4,5,6,8,13,14,15,16,32,38,39,40,41]
def K8 (x0:Ax) (n0:Nat) (z0:Sg7):St:=[(0,dO 0 0),(1,.d (.fn (.func 157) [.o 0 0] [])),(4,dS 6),(13,.d (DS q70 x0.Aj.Ag)),(14,dI (ln x0.Aj.Ag)),(15,dI (cnt 0 n0))]
def O4  (n0:Nat) (z0:Sg7):List Res:=[.box 214 [I z0.1,DS q70 z0.2.1,DS q72 z0.2.2.1,DS q81 (g3_ z0),I (g4_ z0),I (g5_ z0),.os 7,.os 8,.os 9,.os 10,.os 11],.non,.non,.non,.non,.non,v0_ ([]:List Int),v3_ (g6_ z0),v4_ (g7_ z0),v0_ (g8_ z0),v5_ (g9_ z0),v6_ (Dx z0)]
def T9  (z0:Sg7):St:=[(0,dO 0 0),(4,dS 6)]
def U1  (z0:Sg7):List Res:=[.box 214 [I z0.1,DS q70 z0.2.1,DS q72 z0.2.2.1,DS q81 (g3_ z0),I (g4_ z0),I (g5_ z0),.os 7,.os 8,.os 9,.os 10,.os 11],.non,.non,.non,.non,.non,v0_ ([]:List Int),v3_ (g6_ z0),v4_ (g7_ z0),v0_ (g8_ z0),v5_ (g9_ z0),v6_ (Dx z0)]
def K7  (n1:Nat) (z1:Sg7):St:=[(0,dO 0 0),(38,dS 6),(39,dI (ln ([]:List Int))),(40,dI (cnt 0 n1))]
def O3  (n1:Nat) (z1:Sg7):List Res:=[.box 214 [I z1.1,DS q70 z1.2.1,DS q72 z1.2.2.1,DS q81 (g3_ z1),I (g4_ z1),I (g5_ z1),.os 7,.os 8,.os 9,.os 10,.os 11],.non,.non,.non,.non,.non,v0_ ([]:List Int),v3_ (g6_ z1),v4_ (g7_ z1),v0_ (g8_ z1),v5_ (g9_ z1),v6_ (Dx z1)]
def T8  (z1:Sg7):St:=[]
def U0  (z1:Sg7):List Res:=[.box 214 [I z1.1,DS q70 z1.2.1,DS q72 z1.2.2.1,DS q81 (g3_ z1),I (g4_ z1),I (g5_ z1),.os 6,.os 7,.os 8,.os 9,.os 10],.non,.non,.non,.non,.non,v3_ (g6_ z1),v4_ (g7_ z1),v0_ (g8_ z1),v5_ (g9_ z1),v6_ (Dx z1)]
theorem Amz (x0:Ax) (r:Ax) (h:qT x0=some r):CO 156 [.d (.o 0 0),.d (.fn (.func 157) [.o 0 0] [])] (.box 214 (zb x0.Aj [.os 1,.os 2,.os 3,.os 4,.os 5])::zp x0.Az [v6_ x0.acts]) (.tup []) (.box 214 (zb r.Aj [.os 6,.os 7,.os 8,.os 9,.os 10]) :: .non :: .non :: .non :: .non :: .non::zp r.Az [v6_ r.acts]):=by
 unfold qT at h
 refine co 48 Tryz.func156 λ C hC=>?_
 refine ws Fr 26 [] [pl q70 x0.Aj.Ag] [.own 4 3 1,.mv 1,.mv 2,.mv 3,.mv 4,.mv 5] 6 G8 (K8 x0 0 (zt x0.Aj (zu x0.Az x0.acts))) (O4 0 (zt x0.Aj (zu x0.Az x0.acts))) hC [] ?_
 obtain⟨w0,hm0,hret0,hnext0⟩:=Ak h
 clear h
 refine wc w0 (T9) (U1) ?_ λ z0 hs0=>?_
 ·refine wb ?_
  refine Bn 13 rfl λ hl0=>?_
  refine wl (K8 x0) (O4) hm0 (λ z0 hn0=>?_) λ n0 a0 z0 w0b hi0 hx0 h hb0 hr0=>?_
  ·clear hm0
   exact wx w0 (T9) (U1) Fr 26 [false] [] [] 6 G8 _ hC [pq (A6 hl0)] hn0
  ·unfold Ve at h
   obtain⟨y1,h2,y3,h4,h⟩:=Ba h
   refine wn Fr 32 [true] [pt hx0 hl0,pr pB h2,pn pB h2,⟨.whenR [(y1,true)] (.call 157 [dO 0 0,.agg (d70 a0)] [.box 214 [I z0.1,DS q70 z0.2.1,DS q72 z0.2.2.1,DS q81 (g3_ z0),I (g4_ z0),I (g5_ z0),.os 1,.os 2,.os 3,.os 4,.os 5],v3_ (g6_ z0),v4_ (g7_ z0),v0_ (g8_ z0),v5_ (g9_ z0),v6_ (Dx z0)] (dB y3.1) (.box 214 (zb y3.2.Aj [.os 1,.os 2,.os 3,.os 4,.os 5])::zp y3.2.Az [v6_ y3.2.acts]) [0,7,8,9,10,11]),⟨λ hg=>⟨Ans,(Amx (⟨(⟨z0.1,z0.2.1,z0.2.2.1,(g3_ z0),(g4_ z0),(g5_ z0)⟩:Aa),(⟨(g6_ z0),(g7_ z0),(g8_ z0),(g9_ z0)⟩:Ab),(Dx z0)⟩:Ax) a0 _ (A9 h4 hg))⟩,λ hg=>by have e:=E5 h4 hg;subst e;rfl⟩⟩] [] 6 G8 [0,1,4,5,13,14,15,32] hC [pq (A4 hi0 hl0)] ?_
   rcases cB h with⟨h5,h⟩ | ⟨h5,h⟩
   ·cases h
   ·exact wx w0b (K8 x0 (n0+1)) (O4 (n0+1)) Fr 25 [false] [] [] 6 G8 _ hC [pq h5] (sI h).symm
 ·have h:=hnext0 _ hs0
  refine ws Fr 23 [] [pl pI ([]:List Int)] [] 6 G8 (K7 0 (z0.1,z0.2.1,z0.2.2.1,(g3_ z0),(g4_ z0),(g5_ z0),(g6_ z0),(g7_ z0),(g8_ z0),(g9_ z0),(Dx z0))) (O3 0 (z0.1,z0.2.1,z0.2.2.1,(g3_ z0),(g4_ z0),(g5_ z0),(g6_ z0),(g7_ z0),(g8_ z0),(g9_ z0),(Dx z0))) hC [] ?_
  obtain⟨w1,hm1,hret1,hnext1⟩:=Ak h
  clear h
  refine wc w1 (T8) (U0) ?_ λ z1 hs1=>?_
  ·refine wb ?_
   refine Cc 38 6 rfl rfl λ hl1=>?_
   refine wl (K7) (O3) hm1 (λ z1 hn1=>?_) λ n1 a1 z1 w1b hi1 hx1 h hb1 hr1=>?_
   ·clear hm1
    exact wx w1 (T8) (U0) Fr 26 [false] [] [] 6 [0,1,2,3,4,5,7,8,9,10,11] _ hC [pq (A6 hl1)] hn1
   ·unfold Vd at h
    obtain⟨y6,h7,h⟩:=Au h
    exact wx w1b (K7 (n1+1)) (O3 (n1+1)) Fr 33 [true] [pr pI (Bj hx1 hl1),pn pI (Bj hx1 hl1),pc Afx (Afe (⟨(⟨z1.1,z1.2.1,z1.2.2.1,(g3_ z1),(g4_ z1),(g5_ z1)⟩:Aa),(⟨(g6_ z1),(g7_ z1),(g8_ z1),(g9_ z1)⟩:Ab),(Dx z1)⟩:Ax) a1 _ h7) [0,7,8,9,10,11]] [] 6 [0,1,2,3,4,5,6,7,8,9,10,12] _ hC [pq (A4 hi1 hl1)] (sI h).symm
  ·have h:=hnext1 _ hs1
   replace h:=sI h
   subst h
   exact wf Fr 20 [] [] [] 6 Aau hC []
theorem Anu:EN 156:=en Tryz.func156
def Aay:List Nat:=[0,1,2,3,4,7,10,11,12]
def vI (x0:Aa) (z0:Unit):St:=[(1,dO 0 0),(2,.d (DS pI [])),(3,dS 1),(10,dI (ln x0.Ah)),(11,dI 0)]
def Ahs (x0:Aa) (z0:Unit):List Res:=[.box 30 (d30 x0),v0_ ([]:List Int)]
def vQ  (z0:Unit):St:=[(1,dO 0 0),(2,.d (DS pI [])),(3,dS 1)]
def zC (x0:Aa) (z0:Unit):List Res:=[.box 30 (d30 x0),v0_ ([]:List Int)]
theorem Aqr (x0:Aa) (r:(List Int)) (h:Akg x0=some r):CO 159 [.agg (d30 x0)] [] (.d (.os 0)) [v0_ r]:=by
 unfold Akg at h
 refine co 23 Tryz.func159 λ C hC=>?_
 obtain⟨y1,h2,h⟩:=Au h
 rcases cB h with⟨h3,h⟩ | ⟨h3,h⟩
 ·cases h
 ·refine ws Aay 33 [false] [pc e86 (k86 x0 _ h2) [],pl q81 x0.Ah] [.own 3 3 1] 0 [0,1] (vI x0 ()) (Ahs x0 ()) hC [pq h3] ?_
  obtain⟨w0,hm0,hret0,hnext0⟩:=Ak h
  clear h
  refine wc w0 (vQ) (zC x0) ?_ λ z0 hs0=>?_
  ·refine wb ?_
   refine ww (vI x0) (Ahs x0) hm0 λ z0 w0b h hb0 hr0=>?_
   unfold zX at h
   rcases cB h with⟨h4,h⟩ | ⟨h4,h⟩
   ·cases h
   ·exact wx w0 (vQ) (zC x0) Aay 26 [false] [] [] 0 [0,1] () hC [pq h4] (hb0 _ (sI h).symm)
  ·have h:=hnext0 _ hs0
   obtain⟨y5,h6,h⟩:=Au h
   replace h:=sI h
   subst h
   exact wr Aay 25 [] [pc Anl (Amq ([]:List Int) x0 _ h6) [1,0]] [] 0 [1] hC []
theorem Ark:EN 159:=en Tryz.func159
def E4:List Nat:=[0,1,2,3,4,6,7,8,9,10,11,12,13,14,28,37,38,39,54,64,65,66,81]
def Mt (x0:Aa) (z0:Int×(List Int)):St:=[(3,dO 0 0),(4,dO 1 0),(6,dO 2 0),(7,dB false),(8,dO 7 0),(37,dI (ln x0.Ac)),(38,dI z0.1)]
def Q4 (x0:Aa) (x1:Ab) (y4:(List Int)) (z0:Int×(List Int)):List Res:=[.box 30 (d30 x0),.box 39 (d39 x1),.box 137 [.os 3,.os 4,.os 5],v0_ ([]:List Int),v0_ ([]:List Int),v0_ ([]:List Int),v0_ y4,.box 137 [.os 6,.os 8,.os 9],v0_ z0.2,v0_ ([]:List Int)]
def yF  (z0:Int×(List Int)):St:=[(3,dO 0 0),(4,dO 1 0),(6,dO 2 0),(7,dB false),(8,dO 7 0)]
def zR (x0:Aa) (x1:Ab) (y4:(List Int)) (z0:Int×(List Int)):List Res:=[.box 30 (d30 x0),.box 39 (d39 x1),.box 137 [.os 3,.os 4,.os 5],v0_ ([]:List Int),v0_ ([]:List Int),v0_ ([]:List Int),v0_ y4,.box 137 [.os 6,.os 8,.os 9],v0_ z0.2,v0_ ([]:List Int)]
def Ms (x0:Aa) (z1:Int×(List Int)):St:=[(3,dO 0 0),(4,dO 1 0),(6,dO 2 0),(7,dB false),(8,dO 7 0),(64,dI (ln x0.Ah)),(65,dI z1.1)]
def Q3 (x0:Aa) (x1:Ab) (y4:(List Int)) (z0:Int×(List Int)) (z1:Int×(List Int)):List Res:=[.box 30 (d30 x0),.box 39 (d39 x1),.box 137 [.os 3,.os 4,.os 5],v0_ ([]:List Int),v0_ ([]:List Int),v0_ ([]:List Int),v0_ y4,.box 137 [.os 6,.os 8,.os 9],v0_ z0.2,v0_ z1.2]
def yE  (z1:Int×(List Int)):St:=[(6,dO 0 0),(7,dB false),(8,dO 5 0)]
def zQ (y4:(List Int)) (z0:Int×(List Int)) (z1:Int×(List Int)):List Res:=[.box 137 [.os 1,.os 2,.os 3],v0_ ([]:List Int),v0_ ([]:List Int),v0_ ([]:List Int),v0_ y4,.box 137 [.os 4,.os 6,.os 7],v0_ z0.2,v0_ z1.2]
theorem Aq4 (x0:Aa) (x1:Ab) (x2:Int) (r:Ai×Bool) (h:uI x0 x1 x2=some r):CO 112 [.agg (d30 x0),.agg (d39 x1),.d (I x2)] [] (.tup [.agg [.os 0,.os 1,.os 2],.d (Bo r.2)]) [v0_ r.1.Ap,v0_ r.1.Ac,v0_ r.1.Ah]:=by
 unfold uI at h
 refine co 90 Tryz.func112 λ C hC=>?_
 obtain⟨y1,h2,h⟩:=Au h
 refine wn E4 26 [] [pc e62 (k62 x0 x1 _ h2) []] [.ownb 2 0 3 1,.ownb 2 1 3 1,.ownb 2 2 3 1] 0 n6_ [2,3,4,6,7,28] hC [] ?_
 rcases cB h with⟨h3,h⟩ | ⟨h3,h⟩
 ·replace h:=sI h
  subst h
  exact wr E4 24 [true] [] [.ownb 2 0 3 1,.ownb 2 1 3 1,.ownb 2 2 3 1] 0 [6,7,8] hC [pq h3]
 ·obtain⟨y4,h5,h⟩:=Au h
  refine ws E4 28 [false] [pc Arn (Aqu x0 x1 x2 _ h5) [],pl q72 x0.Ac] [.ownb 7 1 3 1,.ownb 7 2 3 1] 0 Gl (Mt x0 (0,([]:List Int))) (Q4 x0 x1 y4 (0,([]:List Int))) hC [pq h3] ?_
  obtain⟨w0,hm0,hret0,hnext0⟩:=Ak h
  clear h
  refine wc w0 (yF) (zR x0 x1 y4) ?_ λ z0 hs0=>?_
  ·refine wb ?_
   refine ww (Mt x0) (Q4 x0 x1 y4) hm0 λ z0 w0b h hb0 hr0=>?_
   unfold Tk at h
   rcases cB h with⟨h6,h⟩ | ⟨h6,h⟩
   ·obtain⟨y7,h8,y9,h10,h⟩:=Ba h
    refine wn E4 34 [true] [pc Arm (Aqt x0 x1 z0.1 _ h8) [],pv Anx (λ hg=>Am2 y4 y7.1 _ (A9 h10 hg))] [] 0 Gl [3,4,6,7,8,9,37,38,54] hC [pq h6] ?_
    rcases cB h with⟨h11,h⟩ | ⟨h11,h⟩
    ·obtain⟨y12,h13,h⟩:=Au h
     exact wx w0b (Mt x0) (Q4 x0 x1 y4) E4 25 [true] [pa pI 1 h13] [] 0 [0,1,2,3,4,5,6,7,10,9] _ hC [pq h11] (sI h).symm
    ·exact wx w0b (Mt x0) (Q4 x0 x1 y4) E4 25 [false] [] [] 0 Gl _ hC [pq h11] (sI h).symm
   ·exact wx w0 (yF) (zR x0 x1 y4) E4 26 [false] [] [] 0 Gl (z0.1,z0.2) hC [pq h6] (hb0 _ (sI h).symm)
  ·have h:=hnext0 _ hs0
   refine ws E4 24 [] [pl q81 x0.Ah] [] 0 Gl (Ms x0 (0,([]:List Int))) (Q3 x0 x1 y4 z0 (0,([]:List Int))) hC [] ?_
   obtain⟨w1,hm1,hret1,hnext1⟩:=Ak h
   clear h
   refine wc w1 (yE) (zQ y4 z0) ?_ λ z1 hs1=>?_
   ·refine wb ?_
    refine ww (Ms x0) (Q3 x0 x1 y4 z0) hm1 λ z1 w1b h hb1 hr1=>?_
    unfold Tj at h
    rcases cB h with⟨h14,h⟩ | ⟨h14,h⟩
    ·obtain⟨y15,h16,y17,h18,h⟩:=Ba h
     refine wn E4 34 [true] [pc Arl (Aqs x0 x1 z1.1 _ h16) [],pv Anx (λ hg=>Am2 y4 y15.1 _ (A9 h18 hg))] [] 0 Gl [3,4,6,7,8,12,64,65,81] hC [pq h14] ?_
     rcases cB h with⟨h19,h⟩ | ⟨h19,h⟩
     ·obtain⟨y20,h21,h⟩:=Au h
      exact wx w1b (Ms x0) (Q3 x0 x1 y4 z0) E4 25 [true] [pa pI 1 h21] [] 0 [0,1,2,3,4,5,6,7,8,10] _ hC [pq h19] (sI h).symm
     ·exact wx w1b (Ms x0) (Q3 x0 x1 y4 z0) E4 25 [false] [] [] 0 Gl _ hC [pq h19] (sI h).symm
    ·exact wx w1 (yE) (zQ y4 z0) E4 26 [false] [] [] 0 [2,3,4,5,6,7,8,9] (z1.1,z1.2) hC [pq h14] (hb1 _ (sI h).symm)
   ·have h:=hnext1 _ hs1
    replace h:=sI h
    subst h
    exact wr E4 23 [] [] [] 0 [4,6,7] hC []
theorem Arx:EN 112:=en Tryz.func112
def G9:List Nat:=[0,1,2,3,4,5,6,7,8,9,10,11,12,13,14,18,25,26,27,28,47,48,49,58,80,81,82,91]
def Wn (y4:(List Int)) (n0:Nat) (z0:(List Ai)):St:=[(2,dO 0 0),(3,dO 1 0),(4,.d (DS Bh [])),(5,dS 2),(6,dS 3),(25,dS 2),(26,dI (ln y4)),(27,dI (cnt 0 n0))]
def Ab5 (x0:Aa) (x1:Ab) (y4:(List Int)) (n0:Nat) (z0:(List Ai)):List Res:=[.box 30 (d30 x0),.box 39 (d39 x1),v0_ y4,.dsl 137 3 4,.gh 3 [(3,1),(3,1),(3,1)] (z0.map Bh) none]
def Ad5  (z0:(List Ai)):St:=[(2,dO 0 0),(3,dO 1 0),(4,.d (DS Bh [])),(5,dS 2),(6,dS 3)]
def Agv (x0:Aa) (x1:Ab) (y4:(List Int)) (z0:(List Ai)):List Res:=[.box 30 (d30 x0),.box 39 (d39 x1),v0_ y4,.dsl 137 3 4,.gh 3 [(3,1),(3,1),(3,1)] (z0.map Bh) none]
def Wm (x0:Aa) (z1:Int):St:=[(2,dO 0 0),(3,dO 1 0),(4,.d (DS Bh [])),(5,dS 2),(6,dS 3),(47,dI (ln x0.Ac)),(48,dI z1)]
def Ab4 (x0:Aa) (x1:Ab) (y4:(List Int)) (z0:(List Ai)) (z1:Int):List Res:=[.box 30 (d30 x0),.box 39 (d39 x1),v0_ y4,.dsl 137 3 4,.gh 3 [(3,1),(3,1),(3,1)] (z0.map Bh) none]
def Ad4  (z1:Int):St:=[(2,dO 0 0),(3,dO 1 0),(4,.d (DS Bh [])),(5,dS 2),(6,dS 3)]
def Agu (x0:Aa) (x1:Ab) (y4:(List Int)) (z0:(List Ai)) (z1:Int):List Res:=[.box 30 (d30 x0),.box 39 (d39 x1),v0_ y4,.dsl 137 3 4,.gh 3 [(3,1),(3,1),(3,1)] (z0.map Bh) none]
def Adi (x0:Aa) (z2:Unit):St:=[(2,dO 0 0),(3,dO 1 0),(4,.d (DS Bh [])),(5,dS 2),(6,dS 3),(80,dI (ln x0.Ah)),(81,dI 0)]
def All (x0:Aa) (x1:Ab) (y4:(List Int)) (z0:(List Ai)) (z2:Unit):List Res:=[.box 30 (d30 x0),.box 39 (d39 x1),v0_ y4,.dsl 137 3 4,.gh 3 [(3,1),(3,1),(3,1)] (z0.map Bh) none]
def Ad3  (z2:Unit):St:=[(4,.d (DS Bh [])),(6,dS 0)]
def Agt (z0:(List Ai)) (z2:Unit):List Res:=[.dsl 137 3 1,.gh 3 [(3,1),(3,1),(3,1)] (z0.map Bh) none]
theorem k67 (x0:Aa) (x1:Ab) (r:(List Ai)) (h:F67 x0 x1=some r):CO 67 [.agg (d30 x0),.agg (d39 x1)] [] (.d (.os 0)) [F0 r]:=by
 unfold F67 at h
 refine co 113 Tryz.func67 λ C hC=>?_
 obtain⟨y1,h2,h⟩:=Au h
 refine wn G9 26 [] [pc e65 (k65 x0 x1 _ h2) []] [] 0 [0,1] [2,3,4,18] hC [] ?_
 rcases cB h with⟨h3,h⟩ | ⟨h3,h⟩
 ·cases h
 ·obtain⟨y4,h5,y6,h7,h⟩:=Ba h
  refine ws G9 30 [false] [pc e97 (k97 x0 x1 _ h5) [],⟨.roomZ (x0.Ap*(72+1)) (List.replicate (Int.toNat x0.Ap) (Bh (⟨([]:List Int),([]:List Int),([]:List Int)⟩:Ai))) (y6.map Bh),Lq h7⟩,pl pI y4] [.deep 3 [(3,1),(3,1),(3,1)]] 0 n5_ (Wn y4 0 y6) (Ab5 x0 x1 y4 0 y6) hC [pq h3] ?_
  obtain⟨w0,hm0,hret0,hnext0⟩:=Ak h
  clear h
  refine wc w0 (Ad5) (Agv x0 x1 y4) ?_ λ z0 hs0=>?_
  ·refine wb ?_
   refine Cc 25 2 rfl rfl λ hl0=>?_
   refine wl (Wn y4) (Ab5 x0 x1 y4) hm0 (λ z0 hn0=>?_) λ n0 a0 z0 w0b hi0 hx0 h hb0 hr0=>?_
   ·clear hm0
    exact wx w0 (Ad5) (Agv x0 x1 y4) G9 26 [false] [] [] 0 n5_ _ hC [pq (A6 hl0)] hn0
   ·unfold Ah9 at h
    obtain⟨y8,h9,y10,h11,y12,h13,h⟩:=Cg h
    exact wx w0b (Wn y4 (n0+1)) (Ab5 x0 x1 y4 (n0+1)) G9 33 [true] [pr pI (Bj hx0 hl0),pn pI (Bj hx0 hl0),pr Bh h9,pn Bh h9,⟨.appD (z0.map Bh) (Int.toNat a0) (Bh y8) 0 (y8.Ap.map pI) ([cnt 0 n0].map pI) 1 (((y8.Ap.map pI).length+([cnt 0 n0].map pI).length)*(8+1)) (y10.map pI),Zn 1 (λ _=>rfl) h9 rfl h11⟩,pr Bh h9,⟨.updD (z0.map Bh) (Int.toNat a0) (Int.toNat a0) (Bh y8) (Bh (⟨y10,y8.Ac,y8.Ah⟩:Ai)) (y12.map Bh),V8 h9 h13⟩] [] 0 [0,1,2,3,8] _ hC [pq (A4 hi0 hl0)] (sI h).symm
  ·have h:=hnext0 _ hs0
   refine ws G9 24 [] [pl q72 x0.Ac] [] 0 n5_ (Wm x0 0) (Ab4 x0 x1 y4 z0 0) hC [] ?_
   obtain⟨w1,hm1,hret1,hnext1⟩:=Ak h
   clear h
   refine wc w1 (Ad4) (Agu x0 x1 y4 z0) ?_ λ z1 hs1=>?_
   ·refine wb ?_
    refine ww (Wm x0) (Ab4 x0 x1 y4 z0) hm1 λ z1 w1b h hb1 hr1=>?_
    unfold Ah8 at h
    rcases cB h with⟨h14,h⟩ | ⟨h14,h⟩
    ·obtain⟨y15,h16,h⟩:=Au h
     refine wn G9 34 [true] [pc e98 (k98 x0 x1 z1 _ h16) []] [] 0 n5_ [2,3,4,5,6,9,10,47,48,58] hC [pq h14] ?_
     rcases cB h with⟨h17,h⟩ | ⟨h17,h⟩
     ·cases h
     ·exact wx w1b (Wm x0) (Ab4 x0 x1 y4 z0) G9 25 [false] [] [] 0 n5_ _ hC [pq h17] (sI h).symm
    ·exact wx w1 (Ad4) (Agu x0 x1 y4 z0) G9 26 [false] [] [] 0 n5_ z1 hC [pq h14] (hb1 _ (sI h).symm)
   ·have h:=hnext1 _ hs1
    refine ws G9 24 [] [pl q81 x0.Ah] [] 0 n5_ (Adi x0 ()) (All x0 x1 y4 z0 ()) hC [] ?_
    obtain⟨w2,hm2,hret2,hnext2⟩:=Ak h
    clear h
    refine wc w2 (Ad3) (Agt z0) ?_ λ z2 hs2=>?_
    ·refine wb ?_
     refine ww (Adi x0) (All x0 x1 y4 z0) hm2 λ z2 w2b h hb2 hr2=>?_
     unfold Ah7 at h
     rcases cB h with⟨h18,h⟩ | ⟨h18,h⟩
     ·cases h
     ·exact wx w2 (Ad3) (Agt z0) G9 26 [false] [] [] 0 [3,4] () hC [pq h18] (hb2 _ (sI h).symm)
    ·have h:=hnext2 _ hs2
     refine wn G9 1 [] [] [.flat 0] 0 [0] [4,6] hC [] ?_
     obtain⟨y19,h20,h⟩:=Au h
     replace h:=sI h
     subst h
     exact wr G9 22 [] [pc Af0 (Afh z0 _ h20) [0]] [] 0 [1] hC []
theorem e67:EN 67:=en Tryz.func67
def M0:List Nat:=[0,1,2,3,4,5,6,7,8,9,14,20,21,22,23,29]
def Mp (x1:Ab) (n0:Nat) (z0:(List Ae)):St:=[(4,dO 0 0),(5,dI 0),(7,dO 9 0),(20,.d (DS q93 x1.Ac)),(21,dI (ln x1.Ac)),(22,dI (cnt 0 n0))]
def Q0 (y4:Ab) (n0:Nat) (z0:(List Ae)):List Res:=(.box 39 [.os 1,.os 2,.os 3,.os 4]::ze [v3_ y4.Am,v4_ z0,v0_ y4.Aw,v5_ y4.As,.box 39 [.os 5,.os 6,.os 7,.os 8]])
def vP  (z0:(List Ae)):St:=[(4,dO 0 0),(5,dI 0),(7,dO 9 0)]
def zA (y4:Ab) (z0:(List Ae)):List Res:=(.box 39 [.os 1,.os 2,.os 3,.os 4]::ze [v3_ y4.Am,v4_ z0,v0_ y4.Aw,v5_ y4.As,.box 39 [.os 5,.os 6,.os 7,.os 8]])
theorem Aqp (x0:Aa) (x1:Ab) (r:Ab×Int) (h:Akf x0 x1=some r):CO 176 [.agg (d30 x0),.agg (d39 x1)] [] (.tup [.agg [.os 0,.os 1,.os 2,.os 3],.d (I r.2)]) (zp r.1 []):=by
 unfold Akf at h
 refine co 45 Tryz.func176 λ C hC=>?_
 obtain⟨y1,h2,h⟩:=Au h
 refine wn M0 28 [] [pc e65 (k65 x0 x1 _ h2) []] [.ownb 2 0 4 1,.ownb 2 1 93 4,.ownb 2 2 3 1,.ownb 2 3 96 2] 0 [1,2,3,4,5,6] [3,4,5,6,14] hC [] ?_
 rcases cB h with⟨h3,h⟩ | ⟨h3,h⟩
 ·cases h
 ·obtain⟨y4,h5,h⟩:=Au h
  refine ws M0 28 [false] [pc e66 (k66 x1 _ h5) [],pl q93 x1.Ac] [] 0 [1,2,3,4,5,6,7,8,9,10] (Mp x1 0 y4.Ac) (Q0 y4 0 y4.Ac) hC [pq h3] ?_
  obtain⟨w0,hm0,hret0,hnext0⟩:=Ak h
  clear h
  refine wc w0 (vP) (zA y4) ?_ λ z0 hs0=>?_
  ·refine wb ?_
   refine Bn 20 rfl λ hl0=>?_
   refine wl (Mp x1) (Q0 y4) hm0 (λ z0 hn0=>?_) λ n0 a0 z0 w0b hi0 hx0 h hb0 hr0=>?_
   ·clear hm0
    exact wx w0 (vP) (zA y4) M0 26 [false] [] [] 0 Gl _ hC [pq (A6 hl0)] hn0
   ·unfold zW at h
    rcases cB h with⟨h6,h⟩ | ⟨h6,h⟩
    ·obtain⟨y7,h8,y9,h10,y11,h12,h⟩:=Cg h
     exact wx w0b (Mp x1 (n0+1)) (Q0 y4 (n0+1)) M0 36 [true,true] [pt hx0 hl0,pc Ard (Aqk (w64 (a0.Phase+(w64 (36*(w64 (a0.An-5000)))))) _ h8) [],pr q93 h10,pu q93 h10 h12] [] 0 Gl _ hC [pq (A4 hi0 hl0),pq h6] (sI h).symm
    ·exact wx w0b (Mp x1 (n0+1)) (Q0 y4 (n0+1)) M0 36 [true,false] [pt hx0 hl0] [] 0 Gl _ hC [pq (A4 hi0 hl0),pq h6] (sI h).symm
  ·have h:=hnext0 _ hs0
   replace h:=sI h
   subst h
   exact wr M0 23 [] [] [] 0 [5,6,7,8] hC []
theorem Ari:EN 176:=en Tryz.func176
def Ej:List Nat:=[0,1,2,3,4,5,6,7,8,9,10,11,12,13,14,18,25,26,27,28,47,48,49,58,80,81,82,91]
def N4 (y4:(List Int)) (n0:Nat) (z0:(List Ai)):St:=[(2,dO 4 0),(3,dO 5 0),(4,.d (DS Bh [])),(5,dS 6),(6,dS 7),(25,dS 6),(26,dI (ln y4)),(27,dI (cnt 0 n0))]
def S9 (x0:Aa) (x1:Ab) (y4:(List Int)) (n0:Nat) (z0:(List Ai)):List Res:=(zp x1 [.box 30 (d30 x0),.box 39 [.os 0,.os 1,.os 2,.os 3],v0_ y4,.dsl 137 3 8,.gh 3 [(3,1),(3,1),(3,1)] (z0.map Bh) none])
def Xv  (z0:(List Ai)):St:=[(2,dO 4 0),(3,dO 5 0),(4,.d (DS Bh [])),(5,dS 6),(6,dS 7)]
def Zu (x0:Aa) (x1:Ab) (y4:(List Int)) (z0:(List Ai)):List Res:=(zp x1 [.box 30 (d30 x0),.box 39 [.os 0,.os 1,.os 2,.os 3],v0_ y4,.dsl 137 3 8,.gh 3 [(3,1),(3,1),(3,1)] (z0.map Bh) none])
def N3 (x0:Aa) (z1:Int):St:=[(2,dO 4 0),(3,dO 5 0),(4,.d (DS Bh [])),(5,dS 6),(6,dS 7),(47,dI (ln x0.Ac)),(48,dI z1)]
def S8 (x0:Aa) (x1:Ab) (y4:(List Int)) (z0:(List Ai)) (z1:Int):List Res:=(zp x1 [.box 30 (d30 x0),.box 39 [.os 0,.os 1,.os 2,.os 3],v0_ y4,.dsl 137 3 8,.gh 3 [(3,1),(3,1),(3,1)] (z0.map Bh) none])
def Xu  (z1:Int):St:=[(2,dO 4 0),(3,dO 5 0),(4,.d (DS Bh [])),(5,dS 6),(6,dS 7)]
def Zt (x0:Aa) (x1:Ab) (y4:(List Int)) (z0:(List Ai)) (z1:Int):List Res:=(zp x1 [.box 30 (d30 x0),.box 39 [.os 0,.os 1,.os 2,.os 3],v0_ y4,.dsl 137 3 8,.gh 3 [(3,1),(3,1),(3,1)] (z0.map Bh) none])
def Wl (x0:Aa) (z2:Unit):St:=[(2,dO 4 0),(3,dO 5 0),(4,.d (DS Bh [])),(5,dS 6),(6,dS 7),(80,dI (ln x0.Ah)),(81,dI 0)]
def zT (x0:Aa) (x1:Ab) (y4:(List Int)) (z0:(List Ai)) (z2:Unit):List Res:=(zp x1 [.box 30 (d30 x0),.box 39 [.os 0,.os 1,.os 2,.os 3],v0_ y4,.dsl 137 3 8,.gh 3 [(3,1),(3,1),(3,1)] (z0.map Bh) none])
def Xt  (z2:Unit):St:=[(4,.d (DS Bh [])),(6,dS 4)]
def Zs (x1:Ab) (z0:(List Ai)) (z2:Unit):List Res:=(zp x1 [.dsl 137 3 5,.gh 3 [(3,1),(3,1),(3,1)] (z0.map Bh) none])
theorem Apa (x0:Aa) (x1:Ab) (r:(List Ai)) (h:Ac6 x0 x1=some r):CO 67 [.agg (d30 x0),.agg [.os 0,.os 1,.os 2,.os 3]] (zp x1 []) (.d (.os 4)) (zp x1 [F0 r]):=by
 unfold Ac6 at h
 refine co 113 Tryz.func67 λ C hC=>?_
 obtain⟨y1,h2,h⟩:=Au h
 refine wn Ej 26 [] [pb e65 (k65 x0 x1 _ h2)] [] 4 n6_ [2,3,4,18] hC [] ?_
 rcases cB h with⟨h3,h⟩ | ⟨h3,h⟩
 ·cases h
 ·obtain⟨y4,h5,y6,h7,h⟩:=Ba h
  refine ws Ej 30 [false] [⟨.call 97 [.agg (d30 x0),.agg [.os 0,.os 1,.os 2,.os 3]] (zp x1 []) (dS 4) (zp x1 [v0_ y4]) n4_,⟨e97,((k97 x0 x1 _ h5).lend (by kernel_rfl) (by kernel_rfl) (by kernel_rfl) ⟨Bc (λ _=>rfl),trivial⟩ (by kernel_rfl) (by kernel_rfl))⟩⟩,⟨.roomZ (x0.Ap*(72+1)) (List.replicate (Int.toNat x0.Ap) (Bh (⟨([]:List Int),([]:List Int),([]:List Int)⟩:Ai))) (y6.map Bh),Lq h7⟩,pl pI y4] [.deep 7 [(3,1),(3,1),(3,1)]] 4 n9_ (N4 y4 0 y6) (S9 x0 x1 y4 0 y6) hC [pq h3] ?_
  obtain⟨w0,hm0,hret0,hnext0⟩:=Ak h
  clear h
  refine wc w0 (Xv) (Zu x0 x1 y4) ?_ λ z0 hs0=>?_
  ·refine wb ?_
   refine Cc 25 6 rfl rfl λ hl0=>?_
   refine wl (N4 y4) (S9 x0 x1 y4) hm0 (λ z0 hn0=>?_) λ n0 a0 z0 w0b hi0 hx0 h hb0 hr0=>?_
   ·clear hm0
    exact wx w0 (Xv) (Zu x0 x1 y4) Ej 26 [false] [] [] 4 n9_ _ hC [pq (A6 hl0)] hn0
   ·unfold jR at h
    obtain⟨y8,h9,y10,h11,y12,h13,h⟩:=Cg h
    exact wx w0b (N4 y4 (n0+1)) (S9 x0 x1 y4 (n0+1)) Ej 33 [true] [pr pI (Bj hx0 hl0),pn pI (Bj hx0 hl0),pr Bh h9,pn Bh h9,⟨.appD (z0.map Bh) (Int.toNat a0) (Bh y8) 0 (y8.Ap.map pI) ([cnt 0 n0].map pI) 1 (((y8.Ap.map pI).length+([cnt 0 n0].map pI).length)*(8+1)) (y10.map pI),Zn 1 (λ _=>rfl) h9 rfl h11⟩,pr Bh h9,⟨.updD (z0.map Bh) (Int.toNat a0) (Int.toNat a0) (Bh y8) (Bh (⟨y10,y8.Ac,y8.Ah⟩:Ai)) (y12.map Bh),V8 h9 h13⟩] [] 4 [0,1,2,3,4,5,6,7,12] _ hC [pq (A4 hi0 hl0)] (sI h).symm
  ·have h:=hnext0 _ hs0
   refine ws Ej 24 [] [pl q72 x0.Ac] [] 4 n9_ (N3 x0 0) (S8 x0 x1 y4 z0 0) hC [] ?_
   obtain⟨w1,hm1,hret1,hnext1⟩:=Ak h
   clear h
   refine wc w1 (Xu) (Zt x0 x1 y4 z0) ?_ λ z1 hs1=>?_
   ·refine wb ?_
    refine ww (N3 x0) (S8 x0 x1 y4 z0) hm1 λ z1 w1b h hb1 hr1=>?_
    unfold jQ at h
    rcases cB h with⟨h14,h⟩ | ⟨h14,h⟩
    ·obtain⟨y15,h16,h⟩:=Au h
     refine wn Ej 34 [true] [pb e98 (k98 x0 x1 z1 _ h16)] [] 4 n9_ [2,3,4,5,6,9,10,47,48,58] hC [pq h14] ?_
     rcases cB h with⟨h17,h⟩ | ⟨h17,h⟩
     ·cases h
     ·exact wx w1b (N3 x0) (S8 x0 x1 y4 z0) Ej 25 [false] [] [] 4 n9_ _ hC [pq h17] (sI h).symm
    ·exact wx w1 (Xu) (Zt x0 x1 y4 z0) Ej 26 [false] [] [] 4 n9_ z1 hC [pq h14] (hb1 _ (sI h).symm)
   ·have h:=hnext1 _ hs1
    refine ws Ej 24 [] [pl q81 x0.Ah] [] 4 n9_ (Wl x0 ()) (zT x0 x1 y4 z0 ()) hC [] ?_
    obtain⟨w2,hm2,hret2,hnext2⟩:=Ak h
    clear h
    refine wc w2 (Xt) (Zs x1 z0) ?_ λ z2 hs2=>?_
    ·refine wb ?_
     refine ww (Wl x0) (zT x0 x1 y4 z0) hm2 λ z2 w2b h hb2 hr2=>?_
     unfold jP at h
     rcases cB h with⟨h18,h⟩ | ⟨h18,h⟩
     ·cases h
     ·exact wx w2 (Xt) (Zs x1 z0) Ej 26 [false] [] [] 4 [0,1,2,3,7,8] () hC [pq h18] (hb2 _ (sI h).symm)
    ·have h:=hnext2 _ hs2
     refine wn Ej 1 [] [] [.flat 4] 4 n5_ [4,6] hC [] ?_
     obtain⟨y19,h20,h⟩:=Au h
     replace h:=sI h
     subst h
     exact wr Ej 22 [] [pc Af0 (Afh z0 _ h20) [4]] [] 4 [0,1,2,3,5] hC []
theorem App:EN 67:=en Tryz.func67
def Hz:List Nat:=[0,1,2,3,4,5,6,7,12,16,31]
def Pm  (z0:Int×(List Ai)):St:=[(2,dO 0 0),(3,dO 1 0),(4,.d (DS Bh [])),(5,dS 2),(6,dI z0.1)]
def V0 (x0:Aa) (x1:Ab) (z0:Int×(List Ai)):List Res:=[.box 30 (d30 x0),.box 39 (d39 x1),F0 z0.2]
def Adx  (z0:Int×(List Ai)):St:=[(4,.d (DS Bh [])),(5,dS 0)]
def Agn  (z0:Int×(List Ai)):List Res:=[F0 z0.2]
theorem k85 (x0:Aa) (x1:Ab) (r:(List Ai)) (h:F85 x0 x1=some r):CO 85 [.agg (d30 x0),.agg (d39 x1)] [] (.d (.os 0)) [F0 r]:=by
 unfold F85 at h
 refine co 37 Tryz.func85 λ C hC=>?_
 obtain⟨y1,h2,h⟩:=Au h
 refine wn Hz 26 [] [pc e62 (k62 x0 x1 _ h2) []] [] 0 [0,1] [2,3,4,12] hC [] ?_
 rcases cB h with⟨h3,h⟩ | ⟨h3,h⟩
 ·replace h:=sI h
  subst h
  exact wr Hz 24 [true] [] [.own 4 137 3] 0 [2] hC [pq h3]
 ·refine ws Hz 28 [false] [] [.own 5 137 3] 0 n3_ (Pm (0,([]:List Ai))) (V0 x0 x1 (0,([]:List Ai))) hC [pq h3] ?_
  obtain⟨w0,hm0,hret0,hnext0⟩:=Ak h
  clear h
  refine wc w0 (Adx) (Agn) ?_ λ z0 hs0=>?_
  ·refine wb ?_
   refine ww (Pm) (V0 x0 x1) hm0 λ z0 w0b h hb0 hr0=>?_
   unfold jJ at h
   rcases cB h with⟨h4,h⟩ | ⟨h4,h⟩
   ·obtain⟨y5,h6,y7,h8,h⟩:=Ba h
    refine wn Hz 32 [true] [pc Arx (Aq4 x0 x1 z0.1 _ h6) [],pr pI h8,pn pI h8] [] 0 n7_ [2,3,4,5,6,7,31] hC [pq h4] ?_
    rcases cB h with⟨h9,h⟩ | ⟨h9,h⟩
    ·refine wn Hz 1 [true] [] [.frz 3] 0 [0,1,2,4,5,6] [2,3,4,5,6,7] hC [pq h9] ?_
     refine wn Hz 0 [] [] [.frz 3] 0 [0,1,2,4,5] [2,3,4,5,6,7] hC [] ?_
     refine wn Hz 0 [] [] [.frz 3] 0 [0,1,2,4] [2,3,4,5,6,7] hC [] ?_
     obtain⟨y10,h11,h⟩:=Au h
     exact wx w0b (Pm) (V0 x0 x1) Hz 24 [] [pa Bh 3 h11] [] 0 [0,1,4] _ hC [] (sI h).symm
    ·exact wx w0b (Pm) (V0 x0 x1) Hz 25 [false] [] [] 0 n3_ _ hC [pq h9] (sI h).symm
   ·exact wx w0 (Adx) (Agn) Hz 26 [false] [] [] 0 [2] (z0.1,z0.2) hC [pq h4] (hb0 _ (sI h).symm)
  ·have h:=hnext0 _ hs0
   replace h:=sI h
   subst h
   exact wr Hz 23 [] [] [] 0 [0] hC []
theorem e85:EN 85:=en Tryz.func85
def Sj:List Nat:=[0,1,2,3,4,5,6,7,9,14,21,22,23,24,30]
def Xa (y6:(List Ai)) (n0:Nat) (z0:Unit):St:=[(3,dO 0 0),(4,dO 1 0),(5,dI 0),(7,dO 10 0),(21,dS 11),(22,dI (ln y6)),(23,dI (cnt 0 n0))]
def Acm (x1:Ab) (y4:Ab) (y6:(List Ai)) (n0:Nat) (z0:Unit):List Res:=(.box 39 (d39 x1) :: .box 39 [.os 2,.os 3,.os 4,.os 5]::ze (zp y4 [.box 39 [.os 6,.os 7,.os 8,.os 9],F0 y6]))
def Aeo  (z0:Unit):St:=[(4,dO 0 0),(5,dI 0),(7,dO 9 0)]
def Ahe (y4:Ab) (z0:Unit):List Res:=(.box 39 [.os 1,.os 2,.os 3,.os 4]::ze (zp y4 [.box 39 [.os 5,.os 6,.os 7,.os 8]]))
theorem k47 (x0:Aa) (x1:Ab) (r:Ab×Int) (h:F47 x0 x1=some r):CO 47 [.agg (d30 x0),.agg (d39 x1)] [] (.tup [.agg [.os 0,.os 1,.os 2,.os 3],.d (I r.2)]) (zp r.1 []):=by
 unfold F47 at h
 refine co 45 Tryz.func47 λ C hC=>?_
 obtain⟨y1,h2,h⟩:=Au h
 refine wn Sj 28 [] [pc e65 (k65 x0 x1 _ h2) []] [.ownb 2 0 4 1,.ownb 2 1 93 4,.ownb 2 2 3 1,.ownb 2 3 96 2] 0 n7_ [2,3,4,5,6,14] hC [] ?_
 rcases cB h with⟨h3,h⟩ | ⟨h3,h⟩
 ·cases h
 ·obtain⟨y4,h5,y6,h7,h⟩:=Ba h
  refine ws Sj 28 [false] [pc e66 (k66 x1 _ h5) [],pc e67 (k67 x0 x1 _ h7) [],pl Bh y6] [] 0 [1,2,3,4,5,6,7,8,9,10,11,12] (Xa y6 0 ()) (Acm x1 y4 y6 0 ()) hC [pq h3] ?_
  obtain⟨w0,hm0,hret0,hnext0⟩:=Ak h
  clear h
  refine wc w0 (Aeo) (Ahe y4) ?_ λ z0 hs0=>?_
  ·refine wb ?_
   refine Cc 21 11 rfl rfl λ hl0=>?_
   refine wl (Xa y6) (Acm x1 y4 y6) hm0 (λ z0 hn0=>?_) λ n0 a0 z0 w0b hi0 hx0 h hb0 hr0=>?_
   ·clear hm0
    exact wx w0 (Aeo) (Ahe y4) Sj 26 [false] [] [] 0 [1,2,3,4,5,6,7,8,9,10] _ hC [pq (A6 hl0)] hn0
   ·unfold Aic at h
    refine wn Sj 32 [true] [pr Bh (Bj hx0 hl0),pn Bh (Bj hx0 hl0),pl pI a0.Ac] [] 0 Lo [3,4,5,7,9,21,22,23,30] hC [pq (A4 hi0 hl0)] ?_
    rcases cB h with⟨h8,h⟩ | ⟨h8,h⟩
    ·cases h
    ·exact wx w0b (Xa y6 (n0+1)) (Acm x1 y4 y6 (n0+1)) Sj 25 [false] [] [] 0 G8 _ hC [pq h8] (sI h).symm
  ·have h:=hnext0 _ hs0
   replace h:=sI h
   subst h
   exact wr Sj 23 [] [] [] 0 [5,6,7,8] hC []
theorem e47:EN 47:=en Tryz.func47
def I9:List Nat:=[0,2,3,24,25,26,66]
def K9 (y1:Ab×Int) (z0:Int):St:=[(0,dO 0 0),(24,dI (ln y1.1.Ac)),(25,dI z0)]
def O5 (x0:A_) (y1:Ab×Int) (z0:Int):List Res:=(.box 175 (zb x0.Aj [.os 5,.os 6,.os 7,.os 8,I x0.time])::zp x0.Az (zp y1.1 []))
def T_  (z0:Int):St:=[]
def U2 (x0:A_) (y1:Ab×Int) (z0:Int):List Res:=(.box 175 (zb x0.Aj [.os 5,.os 6,.os 7,.os 8,I x0.time])::zp x0.Az (zp y1.1 []))
theorem Am3 (x0:A_) (r:A_) (h:uA x0=some r):CO 142 [.d (.o 0 0)] (.box 175 (zb x0.Aj [.os 1,.os 2,.os 3,.os 4,I x0.time])::zp x0.Az []) (.tup []) (.box 175 (zb r.Aj [.os 5,.os 6,.os 7,.os 8,I r.time]) :: .non :: .non :: .non :: .non::zp r.Az []):=by
 unfold uA at h
 refine co 71 Tryz.func142 λ C hC=>?_
 obtain⟨y1,h2,h⟩:=Au h
 refine ws I9 25 [] [⟨.call 176 [.agg (d30 x0.Aj),.agg [.os 0,.os 1,.os 2,.os 3]] (zp x0.Az []) (.tup [.agg [.os 4,.os 5,.os 6,.os 7],dI y1.2]) (zp x0.Az (zp y1.1 [])) [1,2,3,4],⟨Ari,((Aqp x0.Aj x0.Az _ h2).lend (by kernel_rfl) (by kernel_rfl) (by kernel_rfl) ⟨Bc (λ _=>rfl),Bc (λ _=>rfl),Bc (λ _=>rfl),Bc (λ _=>rfl),trivial⟩ (by kernel_rfl) (by kernel_rfl))⟩⟩,pl q93 y1.1.Ac] [] 5 n9_ (K9 y1 0) (O5 x0 y1 0) hC [] ?_
 obtain⟨w0,hm0,hret0,hnext0⟩:=Ak h
 clear h
 refine wc w0 (T_) (U2 x0 y1) ?_ λ z0 hs0=>?_
 ·refine wb ?_
  refine ww (K9 y1) (O5 x0 y1) hm0 λ z0 w0b h hb0 hr0=>?_
  unfold Vf at h
  rcases cB h with⟨h3,h⟩ | ⟨h3,h⟩
  ·obtain⟨y4,h5,y6,h7,y8,h9,h⟩:=Cg h
   refine wn I9 34 [true] [pr q93 h5,pn q93 h5,pv Afy (λ hg=>Aff (⟨x0.Aj,y1.1,x0.time⟩:A_) z0 _ (A9 h7 hg)),⟨.when [(((y4.State==1)&&y6),true)] (.row (y1.1.Ac.map q93) (((Int.toNat z0):Nat):Int) (q93 y4)),λ hg=>J0 h5⟩,pR q72 h9] [] 5 n9_ [0,3,24,25,66] hC [pq h3] ?_
   rcases cB h with⟨h10,h⟩ | ⟨h10,h⟩
   ·cases h
   ·exact wx w0b (K9 y1) (O5 x0 y1) I9 25 [false] [] [] 5 n9_ _ hC [pq h10] (sI h).symm
  ·exact wx w0 (T_) (U2 x0 y1) I9 26 [false] [] [] 5 n9_ z0 hC [pq h3] (hb0 _ (sI h).symm)
 ·have h:=hnext0 _ hs0
  replace h:=sI h
  subst h
  exact wf I9 20 [] [] [.frz 1,.frz 2,.frz 3,.frz 4] 5 n9_ hC []
theorem Anz:EN 142:=en Tryz.func142
def M1:List Nat:=[0,1,2,3,4,6,7,9,12,13,14,15,21]
def Rw (x2:Int) (y1:(List Ai)) (n0:Nat) (z0:Unit):St:=[(2,dI x2),(6,dO 0 0),(7,dB false),(12,dS 1),(13,dI (ln y1)),(14,dI (cnt 0 n0))]
def jD (y1:(List Ai)) (n0:Nat) (z0:Unit):List Res:=[.box 137 [.os 2,.os 3,.os 4],F0 y1,v0_ ([]:List Int),v0_ ([]:List Int),v0_ ([]:List Int)]
def vW  (z0:Unit):St:=[(6,dO 0 0),(7,dB false)]
def zI  (z0:Unit):List Res:=[.box 137 [.os 1,.os 2,.os 3],v0_ ([]:List Int),v0_ ([]:List Int),v0_ ([]:List Int)]
theorem Aqw (x0:Aa) (x1:Ab) (x2:Int) (r:Ai×Bool) (h:Akj x0 x1 x2=some r):CO 127 [.agg (d30 x0),.agg (d39 x1),.d (I x2)] [] (.tup [.agg (Kf r.1),.d (Bo r.2)]) []:=by
 unfold Akj at h
 refine co 25 Tryz.func127 λ C hC=>?_
 obtain⟨y1,h2,h⟩:=Au h
 refine ws M1 26 [] [pc e67 (k67 x0 x1 _ h2) [],pl Bh y1] [.ownb 2 0 3 1,.ownb 2 1 3 1,.ownb 2 2 3 1] 0 [2,3,4,5,6] (Rw x2 y1 0 ()) (jD y1 0 ()) hC [] ?_
 obtain⟨w0,hm0,hret0,hnext0⟩:=Ak h
 clear h
 refine wc w0 (vW) (zI) ?_ λ z0 hs0=>?_
 ·refine wb ?_
  refine Cc 12 1 rfl rfl λ hl0=>?_
  refine wl (Rw x2 y1) (jD y1) hm0 (λ z0 hn0=>?_) λ n0 a0 z0 w0b hi0 hx0 h hb0 hr0=>?_
  ·clear hm0
   exact wx w0 (vW) (zI) M1 26 [false] [] [] 0 [0,2,3,4] _ hC [pq (A6 hl0)] hn0
  ·unfold zY at h
   obtain⟨y3,h4,h⟩:=Au h
   refine wn M1 32 [true] [pr Bh (Bj hx0 hl0),pn Bh (Bj hx0 hl0),pc Ajp (Ajd a0.Ap x2 _ h4) []] [] 0 n6_ [2,6,7,9,12,13,14,21] hC [pq (A4 hi0 hl0)] ?_
   rcases cB h with⟨h5,h⟩ | ⟨h5,h⟩
   ·have hq:=hret0 _ (hr0 _ (sI h).symm)
    replace hq:=sI hq
    subst hq
    exact wr M1 24 [true] [] [] 0 [] hC [pq h5]
   ·exact wx w0b (Rw x2 y1 (n0+1)) (jD y1 (n0+1)) M1 25 [false] [] [] 0 n5_ _ hC [pq h5] (sI h).symm
 ·have h:=hnext0 _ hs0
  replace h:=sI h
  subst h
  exact wr M1 23 [] [] [.ownb 0 0 3 1,.frz 4,.ownb 0 1 3 1,.frz 5,.ownb 0 2 3 1,.frz 6] 0 [] hC []
theorem Arp:EN 127:=en Tryz.func127
def I_:List Nat:=[0,2,4,5,19,20,21,22,32]
def K_ (x0:Ax) (y3:(List Ai)) (n0:Nat) (z0:Unit):St:=[(0,.d (.ip [.v (.int .i64 x0.Aj.Ap),.s (x0.Aj.Ag.map q70),.s (x0.Aj.Ac.map q72),.s (x0.Aj.Ah.map q81),.v (.int .i64 x0.Aj.Phase),.v (.int .i64 x0.Aj.An),.s (x0.Az.Am.map pB),.s (x0.Az.Ac.map q93),.s (x0.Az.Aw.map pI),.s (x0.Az.As.map q96),.s (x0.acts.map q63)])),(2,dS 0),(19,dS 1),(20,dI (ln y3)),(21,dI (cnt 0 n0))]
def O6 (y1:(List Int)) (y3:(List Ai)) (n0:Nat) (z0:Unit):List Res:=[v0_ y1,F0 y3]
def Ua  (z0:Unit):St:=[]
def U3  (z0:Unit):List Res:=[]
theorem Am5 (x0:Ax) (r:Unit) (h:uC x0=some r):CO 125 [.d (.ip [.v (.int .i64 x0.Aj.Ap),.s (x0.Aj.Ag.map q70),.s (x0.Aj.Ac.map q72),.s (x0.Aj.Ah.map q81),.v (.int .i64 x0.Aj.Phase),.v (.int .i64 x0.Aj.An),.s (x0.Az.Am.map pB),.s (x0.Az.Ac.map q93),.s (x0.Az.Aw.map pI),.s (x0.Az.As.map q96),.s (x0.acts.map q63)])] [] (.tup []) []:=by
 unfold uC at h
 refine co 48 Tryz.func125 λ C hC=>?_
 obtain⟨y1,h2,y3,h4,h⟩:=Ba h
 refine ws I_ 25 [] [pc Ark (Aqr x0.Aj _ h2) [],pc e67 (k67 x0.Aj x0.Az _ h4) [],pl Bh y3] [] 0 [0,1] (K_ x0 y3 0 ()) (O6 y1 y3 0 ()) hC [] ?_
 obtain⟨w0,hm0,hret0,hnext0⟩:=Ak h
 clear h
 refine wc w0 (Ua) (U3) ?_ λ z0 hs0=>?_
 ·refine wb ?_
  refine Cc 19 1 rfl rfl λ hl0=>?_
  refine wl (K_ x0 y3) (O6 y1 y3) hm0 (λ z0 hn0=>?_) λ n0 a0 z0 w0b hi0 hx0 h hb0 hr0=>?_
  ·clear hm0
   exact wx w0 (Ua) (U3) I_ 26 [false] [] [] 0 [] _ hC [pq (A6 hl0)] hn0
  ·unfold Vg at h
   obtain⟨y5,h6,y7,h8,h⟩:=Ba h
   refine wn I_ 34 [true] [pr Bh (Bj hx0 hl0),pn Bh (Bj hx0 hl0),⟨.call 95 [dS 0] [v0_ y1] (dS 1) [v0_ y1,v0_ y5] [0],⟨e95,((k95 y1 _ h6).lend (by kernel_rfl) (by kernel_rfl) (by kernel_rfl) ⟨Bc (λ _=>rfl),trivial⟩ (by kernel_rfl) (by kernel_rfl))⟩⟩,pc Anq (Amv y5 a0 _ h8) [3,2],pl pI y7.2.Ac] [] 0 [0,1,2,4] [0,2,4,5,19,20,21,32] hC [pq (A4 hi0 hl0)] ?_
   rcases cB h with⟨h9,h⟩ | ⟨h9,h⟩
   ·cases h
   ·exact wx w0b (K_ x0 y3 (n0+1)) (O6 y1 y3 (n0+1)) I_ 25 [false] [] [] 0 [0,1] _ hC [pq h9] (sI h).symm
 ·have h:=hnext0 _ hs0
  replace h:=sI h
  subst h
  exact wf I_ 20 [] [] [] 0 [] hC []
theorem An1:EN 125:=en Tryz.func125
def Of:List Nat:=[0,1,2,3,4,5,7,9,14,15,16,17,21,22,23,24]
def Wq (y3:(List Ai)) (n0:Nat) (z0:(List Ae)):St:=[(3,dO 0 0),(4,dO 1 0),(5,dO 6 0),(14,dS 7),(15,dI (ln y3)),(16,dI (cnt 0 n0))]
def Ab8 (x1:Ab) (y1:Ab) (y3:(List Ai)) (n0:Nat) (z0:(List Ae)):List Res:=(.box 39 (d39 x1) :: .box 39 [.os 8,.os 9,.os 10,.os 11]::v3_ y1.Am::v4_ z0::v0_ y1.Aw::v5_ y1.As :: .box 39 [.os 2,.os 3,.os 4,.os 5]::F0 y3::ze [])
def Ad8  (z0:(List Ae)):St:=[(4,dO 0 0),(5,dO 5 0)]
def Agy (y1:Ab) (z0:(List Ae)):List Res:=(.box 39 [.os 6,.os 7,.os 8,.os 9]::v3_ y1.Am::v4_ z0::v0_ y1.Aw::v5_ y1.As :: .box 39 [.os 1,.os 2,.os 3,.os 4]::ze [])
def Wp (y3:(List Ai)) (n0:Nat) (a0:Ai) (n1:Nat) (z1:(List Ae)):St:=[(3,dO 0 0),(4,dO 1 0),(5,dO 6 0),(7,dO 12 0),(14,dS 7),(15,dI (ln y3)),(16,dI (cnt 0 n0)),(21,.d (DS pI a0.Ac)),(22,dI (ln a0.Ac)),(23,dI (cnt 0 n1))]
def Ab7 (x1:Ab) (y1:Ab) (y3:(List Ai)) (a0:Ai) (n1:Nat) (z1:(List Ae)):List Res:=(.box 39 (d39 x1) :: .box 39 [.os 8,.os 9,.os 10,.os 11]::v3_ y1.Am::v4_ z1::v0_ y1.Aw::v5_ y1.As :: .box 39 [.os 2,.os 3,.os 4,.os 5]::F0 y3::ze [.box 137 (Kf a0)])
def Ad7 (y3:(List Ai)) (n0:Nat) (z1:(List Ae)):St:=[(3,dO 0 0),(4,dO 1 0),(5,dO 6 0),(14,dS 7),(15,dI (ln y3)),(16,dI (cnt 0 n0))]
def Agx (x1:Ab) (y1:Ab) (y3:(List Ai)) (z1:(List Ae)):List Res:=(.box 39 (d39 x1) :: .box 39 [.os 8,.os 9,.os 10,.os 11]::v3_ y1.Am::v4_ z1::v0_ y1.Aw::v5_ y1.As :: .box 39 [.os 2,.os 3,.os 4,.os 5]::F0 y3::ze [])
theorem k63 (x0:Aa) (x1:Ab) (r:Ab) (h:F63 x0 x1=some r):CO 63 [.agg (d30 x0),.agg (d39 x1)] [] (.agg [.os 0,.os 1,.os 2,.os 3]) (zp r []):=by
 unfold F63 at h
 refine co 58 Tryz.func63 λ C hC=>?_
 obtain⟨y1,h2,y3,h4,h⟩:=Ba h
 refine ws Of 28 [] [pc e37 (k37 x1 _ h2) [],pc e85 (k85 x0 x1 _ h4) [],pl Bh y3] [.ownb 2 0 4 1,.ownb 2 1 93 4,.ownb 2 2 3 1,.ownb 2 3 96 2] 0 [1,2,3,4,5,6,7,8,9,10,11,12] (Wq y3 0 y1.Ac) (Ab8 x1 y1 y3 0 y1.Ac) hC [] ?_
 obtain⟨w0,hm0,hret0,hnext0⟩:=Ak h
 clear h
 refine wc w0 (Ad8) (Agy y1) ?_ λ z0 hs0=>?_
 ·refine wb ?_
  refine Cc 14 7 rfl rfl λ hl0=>?_
  refine wl (Wq y3) (Ab8 x1 y1 y3) hm0 (λ z0 hn0=>?_) λ n0 a0 z0 w0b hi0 hx0 h hb0 hr0=>?_
  ·clear hm0
   exact wx w0 (Ad8) (Agy y1) Of 26 [false] [] [] 0 [1,2,3,4,5,6,8,9,10,11] _ hC [pq (A6 hl0)] hn0
  ·unfold jT at h
   refine ws Of 32 [true] [pr Bh (Bj hx0 hl0),pn Bh (Bj hx0 hl0),pl pI a0.Ac] [] 0 Lo (Wp y3 n0 a0 0 z0) (Ab7 x1 y1 y3 a0 0 z0) hC [pq (A4 hi0 hl0)] ?_
   obtain⟨w1,hm1,hret1,hnext1⟩:=Ak h
   clear h
   refine wc w1 (Ad7 y3 n0) (Agx x1 y1 y3) ?_ λ z1 hs1=>?_
   ·refine wb ?_
    refine Bn 21 rfl λ hl1=>?_
    refine wl (Wp y3 n0 a0) (Ab7 x1 y1 y3 a0) hm1 (λ z1 hn1=>?_) λ n1 a1 z1 w1b hi1 hx1 h hb1 hr1=>?_
    ·clear hm1
     exact wx w1 (Ad7 y3 n0) (Agx x1 y1 y3) Of 26 [false] [] [] 0 G8 _ hC [pq (A6 hl1)] hn1
    ·unfold jS at h
     obtain⟨y5,h6,y7,h8,y9,h10,y11,h12,h⟩:=Dt h
     obtain⟨y13,h14,y15,h16,y17,h18,y19,h20,h⟩:=Dt h
     exact wx w1b (Wp y3 n0 a0 (n1+1)) (Ab7 x1 y1 y3 a0 (n1+1)) Of 33 [true] [pt hx1 hl1,pr pI h6,pr q93 h8,pr pI h10,pr q93 h12,pr q93 h14,pu q93 h14 h16,pr q93 h18,pu q93 h18 h20] [] 0 Lo _ hC [pq (A4 hi1 hl1)] (sI h).symm
   ·have h:=hnext1 _ hs1
    exact wx w0b (Wq y3 (n0+1)) (Ab8 x1 y1 y3 (n0+1)) Of 23 [] [] [] 0 G8 _ hC [] (sI h).symm
 ·have h:=hnext0 _ hs0
  replace h:=sI h
  subst h
  exact wr Of 23 [] [] [] 0 [1,2,3,4] hC []
theorem e63:EN 63:=en Tryz.func63
def Ai8:List Nat:=[0,1,2,3,4,5,6,7,8,9,18,22,36,43]
theorem k29 (x0:Aa) (x1:Bd) (x2:Al) (r:Int) (h:F29 x0 x1 x2=some r):CO 29 [.agg (d30 x0),.agg (d33 x1),.agg (d43 x2)] [] (.d (I r)) []:=by
 unfold F29 at h
 refine co 55 Tryz.func29 λ C hC=>?_
 obtain⟨y1,h2,h⟩:=Au h
 refine wn Ai8 31 [] [pc e47 (k47 x0 x2.Power _ h2) []] [] 0 n9_ [3,4,5,6,7,8,9,18] hC [] ?_
 rcases cB h with⟨h3,h⟩ | ⟨h3,h⟩
 ·cases h
 ·rcases cB h with⟨h4,h⟩ | ⟨h4,h⟩
  ·cases h
  ·rcases cB h with⟨h5,h⟩ | ⟨h5,h⟩
   ·cases h
   ·obtain⟨y6,h7,y8,h9,h⟩:=Ba h
    refine wn Ai8 30 [false,false,false] [pc e49 (k49 x1 _ rfl) [],pl q84 x2.Av,pb e50 (k50 x2.Power y1.1 _ h7),⟨.whenR [(!y6,false)] (.call 51 [.d (DS q84 x2.Av),.d (.fn (.func 52) [] [.o 0 0])] [.box 111 [.fn (.func 48) [] [.o 1 0]],.box 43 (d43 x2)] (dB y8.1) [.box 111 [.fn (.func 48) [] [.o 1 0]],.box 43 (d43 y8.2)] [8,2]),⟨λ hg=>⟨Apr,(Apc x2.Av x2 _ (A9 h9 hg))⟩,λ hg=>by have e:=E5 h9 hg;subst e;rfl⟩⟩] [] 0 [] [6,43] hC [pq h3,pq h4,pq h5] ?_
    rcases cB h with⟨h10,h⟩ | ⟨h10,h⟩
    ·cases h
    ·replace h:=sI h
     subst h
     exact wr Ai8 26 [false] [] [] 0 [] hC [pq h10]
theorem e29:EN 29:=en Tryz.func29
theorem Anc (x0 : A_) (x1 : A0) (r : Int × A_) (h : uL x0 x1 = some r) : CO 109 [.d (.o 0 0), .agg (d63 x1)] (.box 175 (zb x0.Aj [.os 1, .os 2, .os 3, .os 4, I x0.time]) :: zp x0.Az []) (.d (I r.1)) (.box 175 (zb r.2.Aj [.os 5, .os 6, .os 7, .os 8, I r.2.time]) :: .non :: .non :: .non :: .non :: zp r.2.Az []) := by
 unfold uL at h
 refine co 101 Tryz.func109 λ C hC=>?_
 rcases cB h with⟨h1,h⟩ | ⟨h1,h⟩
 ·cases h
 ·rcases cB h with⟨h2,h⟩ | ⟨h2,h⟩
  ·cases h
  ·rcases cB h with⟨h3,h⟩ | ⟨h3,h⟩
   ·cases h
   ·rcases cB h with⟨h4,h⟩ | ⟨h4,h⟩
    ·obtain⟨y5,h6,h⟩:=Au h
     replace h:=sI h
     subst h
     exact wr [0,1,3,4,6,17,36,55,76,82,88,96] 43 [false,false,false,true] [pc An0 (Am4 x0 x1.Unit _ h6) n5_] [.mv 1,.mv 2,.mv 3,.mv 4] 5 [0,1,2,3,4,6,7,8,9] hC [pq h1,pq h2,pq h3,pq h4]
    ·rcases cB h with⟨h7,h⟩ | ⟨h7,h⟩
     ·cases h
     ·rcases cB h with⟨h8,h⟩ | ⟨h8,h⟩
      ·cases h
      ·rcases cB h with⟨h9,h⟩ | ⟨h9,h⟩
       ·obtain⟨y10,h11,h⟩:=Au h
        replace h:=sI h
        subst h
        exact wr [0,1,3,4,6,17,36,55,76,82,88,96] 52 [false,false,false,false,false,false,true] [pc Anz (Am3 x0 _ h11) n5_] [] 5 [0,1,2,3,4,6,7,8,9] hC [pq h1,pq h2,pq h3,pq h4,pq h7,pq h8,pq h9]
       ·cases h
theorem An8:EN 109:=en Tryz.func109
theorem And (x0:Aa) (x1:Ab) (x2:Int) (r:Bool) (h:Adb x0 x1 x2=some r):CO 106 [.agg (d30 x0),.agg (d39 x1),.d (I x2)] [] (.d (Bo r)) []:=by
 unfold Adb at h
 refine co 20 Tryz.func106 λ C hC=>?_
 obtain⟨y1,h2,h⟩:=Au h
 replace h:=sI h
 subst h
 exact wr [0,1,2,3,4,6,7] 27 [] [pc Arp (Aqw x0 x1 x2 _ h2) [],pl pI y1.1.Ac] [] 0 [] hC []
theorem An9:EN 106:=en Tryz.func106
def Ai7:List Nat:=[0,1,2,3,4,5,6,11]
theorem k45 (x0:Aa) (x1:Ab) (r:Ab×Int) (h:F45 x0 x1=some r):CO 45 [.agg (d30 x0),.agg (d39 x1)] [] (.tup [.agg [.os 0,.os 1,.os 2,.os 3],.d (I r.2)]) (zp r.1 []):=by
 unfold F45 at h
 refine co 17 Tryz.func45 λ C hC=>?_
 obtain⟨y1,h2,h⟩:=Au h
 refine wn Ai7 28 [] [pc e62 (k62 x0 x1 _ h2) []] [.ownb 2 0 4 1,.ownb 2 1 93 4,.ownb 2 2 3 1,.ownb 2 3 96 2] 0 n7_ [2,3,4,5,6,11] hC [] ?_
 rcases cB h with⟨h3,h⟩ | ⟨h3,h⟩
 ·replace h:=sI h
  subst h
  exact wr Ai7 24 [true] [] [.ownb 2 0 4 1,.ownb 2 1 93 4,.ownb 2 2 3 1,.ownb 2 3 96 2] 0 [7,8,9,10] hC [pq h3]
 ·obtain⟨y4,h5,h⟩:=Au h
  replace h:=sI h
  subst h
  exact wr Ai7 25 [false] [pc e63 (k63 x0 x1 _ h5) []] [] 0 [7,8,9,10] hC [pq h3]
theorem e45:EN 45:=en Tryz.func45
def Ai6:List Nat:=[0,1,2,3,4,5,7,8,9,10,11,12,16,21,39,55]
theorem k78 (x0:Aa) (x1:Ab) (x2:Int) (x3:A0) (r:Ab×Int) (h:F78 x0 x1 x2 x3=some r):CO 78 [.agg (d30 x0),.agg (d39 x1),.d (I x2),.agg (d63 x3)] [] (.tup [.agg [.os 0,.os 1,.os 2,.os 3],.d (I r.2)]) (zp r.1 []):=by
 unfold F78 at h
 refine co 62 Tryz.func78 λ C hC=>?_
 obtain⟨y1,h2,h⟩:=Au h
 refine wn Ai6 29 [] [pc e65 (k65 x0 x1 _ h2) []] [.ownb 3 0 4 1,.ownb 3 1 93 4,.ownb 3 2 3 1,.ownb 3 3 96 2] 0 n8_ [2,4,5,7,8,9,10,16] hC [] ?_
 rcases cB h with⟨h3,h⟩ | ⟨h3,h⟩
 ·cases h
 ·rcases cB h with⟨h4,h⟩ | ⟨h4,h⟩
  ·cases h
  ·obtain⟨y5,h6,h⟩:=Au h
   rcases cB h with⟨h7,h⟩ | ⟨h7,h⟩
   ·cases h
   ·obtain⟨y8,h9,y10,h11,h⟩:=Ba h
    refine wn Ai6 37 [false,false,false] [pc Ary (Aq5 x0 x3 _ h6) [],pc e66 (k66 x1 _ h9) [],pc An8 (Anc (⟨x0,y8,x2⟩:A_) x3 _ h11) [12,8,9,10,11]] [] 0 [3,4,5,6,7,12,13,14,15,16] [8,9,11,12,55] hC [pq h3,pq h4,pq h7] ?_
    rcases cB h with⟨h12,h⟩ | ⟨h12,h⟩
    ·cases h
    ·replace h:=sI h
     subst h
     exact wr Ai6 25 [false] [] [] 0 [6,7,8,9] hC [pq h12]
theorem e78:EN 78:=en Tryz.func78
theorem Amw (x0:Af) (x1:Ax) (r:Bool×Ax) (h:qQ x0 x1=some r):CO 158 [.agg (d70 x0),.d (.o 0 0)] (.box 190 [.o 1 0] :: .box 214 (zb x1.Aj [.os 2,.os 3,.os 4,.os 5,.os 6])::zp x1.Az [v6_ x1.acts]) (.d (Bo r.1)) (.box 190 [.o 1 0] :: .box 214 (zb r.2.Aj [.os 2,.os 3,.os 4,.os 5,.os 6])::zp r.2.Az [v6_ r.2.acts]):=by
 unfold qQ at h
 refine co 21 Tryz.func158 λ C hC=>?_
 obtain⟨y1,h2,h⟩:=Au h
 replace h:=sI h
 subst h
 exact wr n4_ 25 [] [pv An9 (λ hg=>And x1.Aj x1.Az x0.A _ (A9 h2 hg))] [] 7 n7_ hC []
theorem Anr:EN 158:=en Tryz.func158
def Ls:List Nat:=[0,1,3,4,6,7,8,9,12,28,29,30,31,55,89,90,91,92]
def N1 (y3:(List Ai)) (n0:Nat) (z0:Unit):St:=[(0,dO 0 0),(3,dO 9 0),(4,dS 10),(28,dS 11),(29,dI (ln y3)),(30,dI (cnt 0 n0))]
def S6 (x0:Ay) (x1:Bd) (y1:(List Ar)) (y3:(List Ai)) (n0:Nat) (z0:Unit):List Res:=(.box 119 (I x0.Ao.Time :: .os 1 :: .os 2 :: .os 3 :: .os 4 :: .os 5 :: .os 6::zb x0.Aj [.os 7,.os 8])::zp x0.Ao.Power [v2_ x0.Ao.Av,v1_ x0.Ao.A7,v1_ x0.events,v7_ x0.states,.box 33 (d33 x1),v2_ y1,F0 y3])
def Xp  (z0:Unit):St:=[(0,dO 0 0),(4,dS 9)]
def Zo (x0:Ay) (y1:(List Ar)) (z0:Unit):List Res:=(.box 119 (I x0.Ao.Time :: .os 1 :: .os 2 :: .os 3 :: .os 4 :: .os 5 :: .os 6::zb x0.Aj [.os 7,.os 8])::zp x0.Ao.Power [v2_ x0.Ao.Av,v1_ x0.Ao.A7,v1_ x0.events,v7_ x0.states,v2_ y1])
theorem Ao5 (x0:Ay) (x1:Bd) (r:Ay) (h:Ac1 x0 x1=some r):CO 77 [.d (.o 0 0),.agg (d33 x1)] (.box 119 (I x0.Ao.Time :: .os 1 :: .os 2 :: .os 3 :: .os 4 :: .os 5 :: .os 6::zb x0.Aj [.os 7,.os 8])::zp x0.Ao.Power [v2_ x0.Ao.Av,v1_ x0.Ao.A7,v1_ x0.events,v7_ x0.states]) (.tup []) (.box 119 (I r.Ao.Time :: .os 1 :: .os 2 :: .os 3 :: .os 4 :: .os 9 :: .os 6::zb r.Aj [.os 7,.os 8])::zp r.Ao.Power [.non,v1_ r.Ao.A7,v1_ r.events,v7_ r.states,v2_ r.Ao.Av]):=by
 unfold Ac1 at h
 refine co 105 Tryz.func77 λ C hC=>?_
 obtain⟨y1,h2,y3,h4,h⟩:=Ba h
 refine ws Ls 28 [] [pc Arz (Aq6 x0.Aj.Ap _ h2) [],pc App (Apa x0.Aj x0.Ao.Power _ h4) [1,2,3,4],pl Bh y3] [] 9 G8 (N1 y3 0 ()) (S6 x0 x1 y1 y3 0 ()) hC [] ?_
 obtain⟨w0,hm0,hret0,hnext0⟩:=Ak h
 clear h
 refine wc w0 (Xp) (Zo x0 y1) ?_ λ z0 hs0=>?_
 ·refine wb ?_
  refine Cc 28 11 rfl rfl λ hl0=>?_
  refine wl (N1 y3) (S6 x0 x1 y1 y3) hm0 (λ z0 hn0=>?_) λ n0 a0 z0 w0b hi0 hx0 h hb0 hr0=>?_
  ·clear hm0
   exact wx w0 (Xp) (Zo x0 y1) Ls 26 [false] [] [] 9 [0,1,2,3,4,5,6,7,8,10] _ hC [pq (A6 hl0)] hn0
  ·unfold jL at h
   obtain⟨y5,h6,y7,h8,h⟩:=Ba h
   refine wn Ls 35 [true] [pr Bh (Bj hx0 hl0),pn Bh (Bj hx0 hl0),pr pI h6,pl pI a0.Ac,pv An9 (λ hg=>And x0.Aj x0.Ao.Power y5 _ (A9 h8 hg))] [] 9 G8 [0,3,4,7,28,29,30,55] hC [pq (A4 hi0 hl0)] ?_
   rcases cB h with⟨h9,h⟩ | ⟨h9,h⟩
   ·exact wx w0b (N1 y3 (n0+1)) (S6 x0 x1 y1 y3 (n0+1)) Ls 24 [true] [] [] 9 G8 _ hC [pq h9] (sI h).symm
   ·cases h
 ·have h:=hnext0 _ hs0
  replace h:=sI h
  subst h
  exact wf Ls 21 [] [] [.frz 5] 9 Gl hC []
theorem Apk:EN 77:=en Tryz.func77
theorem Ape (x0:Ad) (x1:Aa) (r:Ab×Ad) (h:Q_ x0 x1=some r):CO 28 [.d (.o 0 0),.agg [I x1.Ap,.os 1,.os 2,.os 3,I x1.Phase,I x1.An]] (.box 77 (d77 x0)::zs x1 []) (.agg [.os 4,.os 5,.os 6,.os 7]) (.box 77 (d77 r.2)::zs x1 (zp r.1 [])):=by
 unfold Q_ at h
 refine co 16 Tryz.func28 λ C hC=>?_
 obtain⟨y1,h2,y3,h4,h⟩:=Ba h
 replace h:=sI h
 subst h
 exact wr [0,1,3,4,5] 27 [] [⟨.flts [.box 39 [.p (.v (.slice none 0 0)),.p (.v (.slice none 0 0)),.p (.v (.slice none 0 0)),.p (.v (.slice none 0 0))]],trivial⟩,pc Aps (Apd x0 x1 _ h2) n4_,⟨.call 45 [.agg [I x1.Ap,.os 0,.os 1,.os 2,I x1.Phase,I x1.An],.agg [.os 3,.os 4,.os 5,.os 6]] (zs x1 (zp y1.1 [])) (.tup [.agg [.os 7,.os 8,.os 9,.os 10],dI y3.2]) (zs x1 (zp y1.1 (zp y3.1 []))) [1,2,3,7,8,9,10],⟨e45,((k45 x1 y1.1 _ h4).lend (by kernel_rfl) (by kernel_rfl) (by kernel_rfl) ⟨Bc (λ _=>rfl),Bc (λ _=>rfl),Bc (λ _=>rfl),Bc (λ _=>rfl),trivial⟩ (by kernel_rfl) (by kernel_rfl))⟩⟩,⟨.flt 6 (.box 39 [.p (.v (.slice none 0 0)),.p (.v (.slice none 0 0)),.p (.v (.slice none 0 0)),.p (.v (.slice none 0 0))]) (.box 39 [.p (.v (.slice none 0 0)),.p (.v (.slice none 0 0)),.p (.v (.slice none 0 0)),.p (.v (.slice none 0 0))]),rfl⟩] [] 4 [0,1,2,3,11,12,13,14] hC []
theorem Apt:EN 28:=en Tryz.func28
def Fq:List Nat:=[0,1,4,5,6,8,13,14,15,16,32,38,39,40,41]
def K6 (x0:Ax) (n0:Nat) (z0:Sg7):St:=[(0,dO 0 0),(1,.d (.fn (.func 158) [] [.o 6 0])),(4,dS 7),(13,.d (DS q70 x0.Aj.Ag)),(14,dI (ln x0.Aj.Ag)),(15,dI (cnt 0 n0))]
def O2  (n0:Nat) (z0:Sg7):List Res:=[.box 214 [I z0.1,DS q70 z0.2.1,DS q72 z0.2.2.1,DS q81 (g3_ z0),I (g4_ z0),I (g5_ z0),.os 8,.os 9,.os 10,.os 11,.os 12],.non,.non,.non,.non,.non,.box 190 [.o 0 0],v0_ ([]:List Int),v3_ (g6_ z0),v4_ (g7_ z0),v0_ (g8_ z0),v5_ (g9_ z0),v6_ (Dx z0)]
def T7  (z0:Sg7):St:=[(0,dO 0 0),(4,dS 7)]
def Uz  (z0:Sg7):List Res:=[.box 214 [I z0.1,DS q70 z0.2.1,DS q72 z0.2.2.1,DS q81 (g3_ z0),I (g4_ z0),I (g5_ z0),.os 8,.os 9,.os 10,.os 11,.os 12],.non,.non,.non,.non,.non,.box 190 [.o 0 0],v0_ ([]:List Int),v3_ (g6_ z0),v4_ (g7_ z0),v0_ (g8_ z0),v5_ (g9_ z0),v6_ (Dx z0)]
def K4  (n1:Nat) (z1:Sg7):St:=[(0,dO 0 0),(38,dS 7),(39,dI (ln ([]:List Int))),(40,dI (cnt 0 n1))]
def O1  (n1:Nat) (z1:Sg7):List Res:=[.box 214 [I z1.1,DS q70 z1.2.1,DS q72 z1.2.2.1,DS q81 (g3_ z1),I (g4_ z1),I (g5_ z1),.os 8,.os 9,.os 10,.os 11,.os 12],.non,.non,.non,.non,.non,.box 190 [.o 0 0],v0_ ([]:List Int),v3_ (g6_ z1),v4_ (g7_ z1),v0_ (g8_ z1),v5_ (g9_ z1),v6_ (Dx z1)]
def T6  (z1:Sg7):St:=[]
def Uy  (z1:Sg7):List Res:=[.box 214 [I z1.1,DS q70 z1.2.1,DS q72 z1.2.2.1,DS q81 (g3_ z1),I (g4_ z1),I (g5_ z1),.os 7,.os 8,.os 9,.os 10,.os 11],.non,.non,.non,.non,.non,.box 190 [.o 0 0],v3_ (g6_ z1),v4_ (g7_ z1),v0_ (g8_ z1),v5_ (g9_ z1),v6_ (Dx z1)]
theorem Amy (x0:Ax) (r:Ax) (h:qS x0=some r):CO 156 [.d (.o 0 0),.d (.fn (.func 158) [] [.o 6 0])] (.box 214 (zb x0.Aj [.os 1,.os 2,.os 3,.os 4,.os 5])::zp x0.Az [v6_ x0.acts,.box 190 [.o 0 0]]) (.tup []) (.box 214 (zb r.Aj [.os 7,.os 8,.os 9,.os 10,.os 11]) :: .non :: .non :: .non :: .non :: .non :: .box 190 [.o 0 0]::zp r.Az [v6_ r.acts]):=by
 unfold qS at h
 refine co 48 Tryz.func156 λ C hC=>?_
 refine ws Fq 26 [] [pl q70 x0.Aj.Ag] [.own 4 3 1,.mv 1,.mv 2,.mv 3,.mv 4,.mv 5] 7 Lo (K6 x0 0 (zt x0.Aj (zu x0.Az x0.acts))) (O2 0 (zt x0.Aj (zu x0.Az x0.acts))) hC [] ?_
 obtain⟨w0,hm0,hret0,hnext0⟩:=Ak h
 clear h
 refine wc w0 (T7) (Uz) ?_ λ z0 hs0=>?_
 ·refine wb ?_
  refine Bn 13 rfl λ hl0=>?_
  refine wl (K6 x0) (O2) hm0 (λ z0 hn0=>?_) λ n0 a0 z0 w0b hi0 hx0 h hb0 hr0=>?_
  ·clear hm0
   exact wx w0 (T7) (Uz) Fq 26 [false] [] [] 7 Lo _ hC [pq (A6 hl0)] hn0
  ·unfold Vc at h
   obtain⟨y1,h2,y3,h4,h⟩:=Ba h
   refine wn Fq 32 [true] [pt hx0 hl0,pr pB h2,pn pB h2,⟨.whenR [(y1,true)] (.call 158 [.agg (d70 a0),dO 0 0] [.box 190 [.o 1 0],.box 214 [I z0.1,DS q70 z0.2.1,DS q72 z0.2.2.1,DS q81 (g3_ z0),I (g4_ z0),I (g5_ z0),.os 2,.os 3,.os 4,.os 5,.os 6],v3_ (g6_ z0),v4_ (g7_ z0),v0_ (g8_ z0),v5_ (g9_ z0),v6_ (Dx z0)] (dB y3.1) (.box 190 [.o 1 0] :: .box 214 (zb y3.2.Aj [.os 2,.os 3,.os 4,.os 5,.os 6])::zp y3.2.Az [v6_ y3.2.acts]) [6,0,8,9,10,11,12]),⟨λ hg=>⟨Anr,(Amw a0 (⟨(⟨z0.1,z0.2.1,z0.2.2.1,(g3_ z0),(g4_ z0),(g5_ z0)⟩:Aa),(⟨(g6_ z0),(g7_ z0),(g8_ z0),(g9_ z0)⟩:Ab),(Dx z0)⟩:Ax) _ (A9 h4 hg))⟩,λ hg=>by have e:=E5 h4 hg;subst e;rfl⟩⟩] [] 7 Lo [0,1,4,5,13,14,15,32] hC [pq (A4 hi0 hl0)] ?_
   rcases cB h with⟨h5,h⟩ | ⟨h5,h⟩
   ·cases h
   ·exact wx w0b (K6 x0 (n0+1)) (O2 (n0+1)) Fq 25 [false] [] [] 7 Lo _ hC [pq h5] (sI h).symm
 ·have h:=hnext0 _ hs0
  refine ws Fq 23 [] [pl pI ([]:List Int)] [] 7 Lo (K4 0 (z0.1,z0.2.1,z0.2.2.1,(g3_ z0),(g4_ z0),(g5_ z0),(g6_ z0),(g7_ z0),(g8_ z0),(g9_ z0),(Dx z0))) (O1 0 (z0.1,z0.2.1,z0.2.2.1,(g3_ z0),(g4_ z0),(g5_ z0),(g6_ z0),(g7_ z0),(g8_ z0),(g9_ z0),(Dx z0))) hC [] ?_
  obtain⟨w1,hm1,hret1,hnext1⟩:=Ak h
  clear h
  refine wc w1 (T6) (Uy) ?_ λ z1 hs1=>?_
  ·refine wb ?_
   refine Cc 38 7 rfl rfl λ hl1=>?_
   refine wl (K4) (O1) hm1 (λ z1 hn1=>?_) λ n1 a1 z1 w1b hi1 hx1 h hb1 hr1=>?_
   ·clear hm1
    exact wx w1 (T6) (Uy) Fq 26 [false] [] [] 7 [0,1,2,3,4,5,6,8,9,10,11,12] _ hC [pq (A6 hl1)] hn1
   ·unfold Vb at h
    obtain⟨y6,h7,h⟩:=Au h
    exact wx w1b (K4 (n1+1)) (O1 (n1+1)) Fq 33 [true] [pr pI (Bj hx1 hl1),pn pI (Bj hx1 hl1),pc Afx (Afe (⟨(⟨z1.1,z1.2.1,z1.2.2.1,(g3_ z1),(g4_ z1),(g5_ z1)⟩:Aa),(⟨(g6_ z1),(g7_ z1),(g8_ z1),(g9_ z1)⟩:Ab),(Dx z1)⟩:Ax) a1 _ h7) [0,8,9,10,11,12]] [] 7 [0,1,2,3,4,5,6,7,8,9,10,11,13] _ hC [pq (A4 hi1 hl1)] (sI h).symm
  ·have h:=hnext1 _ hs1
   replace h:=sI h
   subst h
   exact wf Fq 20 [] [] [] 7 G8 hC []
theorem Ant:EN 156:=en Tryz.func156
def P2:List Nat:=[0,1,3,4,5,6,16]
def N_  (z0:Sg5):St:=[(0,dO 0 0),(3,dO 4 0),(4,dO 5 0),(5,dO 6 0),(6,dI z0.1)]
def Te (x1:Aa) (y1:Int×Ad) (y3:Ab×Ad) (z0:Sg5):List Res:=(.box 77 [DS pI z0.2.1,I z0.2.2.1]::zs x1 (.box 30 [I x1.Ap,.os 1,.os 2,.os 3,I x1.Phase,I x1.An] :: .box 43 [I 0,.os 11,.os 12,.os 13,.os 14,.os 15,.os 16] :: .box 43 [I y1.1,.os 7,.os 8,.os 9,.os 10,.os 17,.os 18]::zp y3.1 (ze [v2_ ([]:List Ar),v1_ ([]:List A3),v2_ (D3 z0),v1_ ([]:List A3)])))
def X3  (z0:Sg5):St:=[(4,dO 4 0),(5,dO 5 0)]
def Z2 (x1:Aa) (y1:Int×Ad) (y3:Ab×Ad) (z0:Sg5):List Res:=(.box 77 [DS pI z0.2.1,I z0.2.2.1]::zs x1 (.box 43 [I 0,.os 10,.os 11,.os 12,.os 13,.os 14,.os 15] :: .box 43 [I y1.1,.os 6,.os 7,.os 8,.os 9,.os 16,.os 17]::zp y3.1 (ze [v2_ ([]:List Ar),v1_ ([]:List A3),v2_ (D3 z0),v1_ ([]:List A3)])))
theorem Apg (x0:Ad) (x1:Aa) (r:Al×Ad) (h:Rf x0 x1=some r):CO 12 [.d (.o 0 0),.agg [I x1.Ap,.os 1,.os 2,.os 3,I x1.Phase,I x1.An]] (.box 77 (d77 x0)::zs x1 []) (.agg [I r.1.Time,.os 4,.os 5,.os 6,.os 7,.os 8,.os 9]) (.box 77 (d77 r.2)::zs x1 (zp r.1.Power [v2_ r.1.Av,v1_ r.1.A7])):=by
 unfold Rf at h
 refine co 30 Tryz.func12 λ C hC=>?_
 obtain⟨y1,h2,y3,h4,h⟩:=Ba h
 refine ws P2 28 [] [⟨.flts [.box 43 [I 0,.p (.v (.slice none 0 0)),.p (.v (.slice none 0 0)),.p (.v (.slice none 0 0)),.p (.v (.slice none 0 0)),.p (.v (.slice none 0 0)),.p (.v (.slice none 0 0))]],trivial⟩,pc e26 (k26 x0 5 20 _ h2) [0],pc Apt (Ape y1.2 x1 _ h4) n4_,⟨.flt 6 (.box 43 [I 0,.p (.v (.slice none 0 0)),.p (.v (.slice none 0 0)),.p (.v (.slice none 0 0)),.p (.v (.slice none 0 0)),.p (.v (.slice none 0 0)),.p (.v (.slice none 0 0))]) (.box 43 [I 0,.p (.v (.slice none 0 0)),.p (.v (.slice none 0 0)),.p (.v (.slice none 0 0)),.p (.v (.slice none 0 0)),.p (.v (.slice none 0 0)),.p (.v (.slice none 0 0))]),rfl⟩] [.ownb 5 1 4 1,.ownb 5 2 93 4,.ownb 5 3 3 1,.ownb 5 4 96 2,.ownb 5 5 84 2,.ownb 5 6 65 5,.ownb 6 5 84 2,.ownb 6 6 65 5] 4 Aqh (N_ (0,y3.2.L,y3.2.At,([]:List Ar))) (Te x1 y1 y3 (0,y3.2.L,y3.2.At,([]:List Ar))) hC [] ?_
 obtain⟨w0,hm0,hret0,hnext0⟩:=Ak h
 clear h
 refine wc w0 (X3) (Z2 x1 y1 y3) ?_ λ z0 hs0=>?_
 ·refine wb ?_
  refine ww (N_) (Te x1 y1 y3) hm0 λ z0 w0b h hb0 hr0=>?_
  unfold O_ at h
  rcases cB h with⟨h5,h⟩ | ⟨h5,h⟩
  ·obtain⟨y6,h7,y8,h9,y10,h11,h⟩:=Cg h
   exact wx w0b (N_) (Te x1 y1 y3) P2 31 [true] [pc e26 (k26 (⟨z0.2.1,z0.2.2.1⟩:Ad) (-1) 4 _ h7) [0],pc e26 (k26 y6.2 (-1) 4 _ h9) [0],pa q84 2 h11] [] 4 [0,1,2,3,4,5,6,7,8,9,10,11,12,13,14,15,16,19,18] _ hC [pq h5] (sI h).symm
  ·exact wx w0 (X3) (Z2 x1 y1 y3) P2 26 [false] [] [] 4 [0,1,2,3,5,6,7,8,9,10,11,12,13,14,15,16,17,18] (z0.1,z0.2.1,z0.2.2.1,(D3 z0)) hC [pq h5] (hb0 _ (sI h).symm)
 ·have h:=hnext0 _ hs0
  replace h:=sI h
  subst h
  exact wr P2 23 [] [] [] 4 [0,1,2,3,6,7,8,9,16,17] hC []
theorem Apv:EN 12:=en Tryz.func12
theorem Am6 (x0:Ax) (r:Ax) (h:uD x0=some r):CO 124 [.d (.o 0 0)] (.box 214 (zb x0.Aj [.os 1,.os 2,.os 3,.os 4,.os 5])::zp x0.Az [v6_ x0.acts]) (.tup []) (.box 214 (zb r.Aj [.os 6,.os 7,.os 8,.os 9,.os 10]) :: .non :: .non :: .non :: .non :: .non::zp r.Az [v6_ r.acts]):=by
 unfold uD at h
 refine co 24 Tryz.func124 λ C hC=>?_
 obtain⟨y1,h2,y3,h4,y5,h6,h⟩:=Cg h
 replace h:=sI h
 subst h
 exact wf [0,1] 27 [] [pc Anu (Amz x0 _ h2) n6_,pc Ant (Amy y1 _ h4) [0,7,8,9,10,11,6],⟨.call 47 [.agg (d30 y3.Aj),.agg [.os 0,.os 1,.os 2,.os 3]] (zp y3.Az []) (.tup [.agg [.os 4,.os 5,.os 6,.os 7],dI y5.2]) (zp y3.Az (zp y5.1 [])) [12,13,14,15],⟨e47,((k47 y3.Aj y3.Az _ h6).lend (by kernel_rfl) (by kernel_rfl) (by kernel_rfl) ⟨Bc (λ _=>rfl),Bc (λ _=>rfl),Bc (λ _=>rfl),Bc (λ _=>rfl),trivial⟩ (by kernel_rfl) (by kernel_rfl))⟩⟩] [] 6 [0,1,2,3,4,5,17,18,19,20,16] hC []
theorem An2:EN 124:=en Tryz.func124
theorem Am7 (x0:Ax) (r:Ax) (h:uE x0=some r):CO 123 [.d (.o 0 0)] (.box 214 (zb x0.Aj [.os 1,.os 2,.os 3,.os 4,.os 5])::zp x0.Az [v6_ x0.acts]) (.tup []) (.box 214 (zb r.Aj [.os 6,.os 7,.os 8,.os 9,.os 10]) :: .non :: .non :: .non :: .non :: .non::zp r.Az [v6_ r.acts]):=by
 unfold uE at h
 refine co 6 Tryz.func123 λ C hC=>?_
 obtain⟨y1,h2,y3,h4,h⟩:=Ba h
 replace h:=sI h
 subst h
 exact wf [0] 23 [] [pc An2 (Am6 x0 _ h2) n6_,pb An1 (Am5 y1 _ h4)] [] 6 Aau hC []
theorem An3:EN 123:=en Tryz.func123
def Sp:List Nat:=[0,1,2,3,4,6,7,8,9,10,15]
theorem Am8 (x0:Aa) (x1:Ab) (r:Ab×(List A0)×Int) (h:uF x0 x1=some r):CO 122 [.agg (d30 x0),.agg (d39 x1),.d (.fn (.func 123) [] [])] [] (.tup [.agg [.os 0,.os 1,.os 2,.os 3],.d (.os 4),.d (I r.2.2)]) (zp r.1 [v6_ r.2.1]):=by
 unfold uF at h
 refine co 34 Tryz.func122 λ C hC=>?_
 obtain⟨y1,h2,h⟩:=Au h
 refine wn Sp 28 [] [pc e65 (k65 x0 x1 _ h2) []] [.ownb 2 0 4 1,.ownb 2 1 93 4,.ownb 2 2 3 1,.ownb 2 3 96 2] 0 n7_ [2,3,4,6,7,8,9,15] hC [] ?_
 rcases cB h with⟨h3,h⟩ | ⟨h3,h⟩
 ·cases h
 ·obtain⟨y4,h5,h⟩:=Au h
  refine wn Sp 5 [false] [pc e66 (k66 x1 _ h5) []] [.ownb 11 10 63 3] 0 [2,3,4,5,6,7,8,9,10,11,12] [2,6,7,8,10] hC [pq h3] ?_
  obtain⟨y6,h7,h⟩:=Au h
  replace h:=sI h
  subst h
  exact wr Sp 24 [] [pc An3 (Am7 (⟨x0,y4,([]:List A0)⟩:Ax) _ h7) [9,5,6,7,8,10]] [] 0 [11,12,13,14,15] hC []
theorem An4:EN 122:=en Tryz.func122
theorem Aq7 (x0:Aa) (x1:Ab) (r:Ab×(List A0)×Int) (h:Akr x0 x1=some r):CO 104 [.agg (d30 x0),.agg (d39 x1)] [] (.tup [.agg [.os 0,.os 1,.os 2,.os 3],.d (.os 4),.d (I r.2.2)]) (zp r.1 [v6_ r.2.1]):=by
 unfold Akr at h
 refine co 13 Tryz.func104 λ C hC=>?_
 obtain⟨y1,h2,h⟩:=Au h
 replace h:=sI h
 subst h
 exact wr n7_ 25 [] [pc An4 (Am8 x0 x1 _ h2) []] [] 0 [3,4,5,6,7] hC []
theorem Ar0:EN 104:=en Tryz.func104
def Fe:List Nat:=[0,1,3,4,5,6,7,10,32,38,52,53,54,55,63,83]
def Xr (y1:Ab×Int) (z0:Unit):St:=[(0,dO 0 0),(3,dO 9 0),(4,dO 10 0),(5,dI y1.2)]
def Zq (x0:Ay) (x1:A0) (y1:Ab×Int) (z0:Unit):List Res:=(.box 119 (I x0.Ao.Time :: .os 1 :: .os 2 :: .os 3 :: .os 4 :: .os 5 :: .os 6::zb x0.Aj [.os 7,.os 8])::zp x0.Ao.Power (v2_ x0.Ao.Av::v1_ x0.Ao.A7::v1_ x0.events::v7_ x0.states :: .box 63 (d63 x1) :: .box 39 [.os 11,.os 12,.os 13,.os 14]::zp y1.1 []))
def Ju (y9:Ab×(List A0)×Int) (n1:Nat) (z1:Sg8):St:=[(0,dO 0 0),(4,dO 9 0),(6,dO 16 0),(52,dS 21),(53,dI (ln y9.2.1)),(54,dI (cnt 0 n1))]
def Nb (y1:Ab×Int) (y9:Ab×(List A0)×Int) (n1:Nat) (z1:Sg8):List Res:=(.box 119 [I z1.1,.os 1,.os 2,.os 3,.os 4,.os 5,.os 6,I z1.2.1,DS q70 z1.2.2.1,DS q72 (g3_ z1),DS q81 (g4_ z1),I (g5_ z1),I (g6_ z1),.os 14,.os 15]::v3_ (g7_ z1)::v4_ (g8_ z1)::v0_ (g9_ z1)::v5_ (Oo z1)::v2_ (On z1)::v1_ (Om z1) :: .non :: .non :: .box 39 [.os 10,.os 11,.os 12,.os 13]::v3_ (Lz z1)::v4_ y1.1.Ac::v0_ (Vu z1)::v5_ y1.1.As::v1_ (Ajj z1)::v7_ (Aji z1) :: .box 39 [.os 17,.os 18,.os 19,.os 20]::zp y9.1 [v6_ y9.2.1])
def Xq  (z1:Sg8):St:=[(0,dO 0 0),(4,dO 9 0),(6,dO 16 0)]
def Zp (y1:Ab×Int) (y9:Ab×(List A0)×Int) (z1:Sg8):List Res:=(.box 119 [I z1.1,.os 1,.os 2,.os 3,.os 4,.os 5,.os 6,I z1.2.1,DS q70 z1.2.2.1,DS q72 (g3_ z1),DS q81 (g4_ z1),I (g5_ z1),I (g6_ z1),.os 14,.os 15]::v3_ (g7_ z1)::v4_ (g8_ z1)::v0_ (g9_ z1)::v5_ (Oo z1)::v2_ (On z1)::v1_ (Om z1) :: .non :: .non :: .box 39 [.os 10,.os 11,.os 12,.os 13]::v3_ (Lz z1)::v4_ y1.1.Ac::v0_ (Vu z1)::v5_ y1.1.As::v1_ (Ajj z1)::v7_ (Aji z1) :: .box 39 [.os 17,.os 18,.os 19,.os 20]::zp y9.1 [])
set_option maxHeartbeats 4000000 in
theorem Ao6 (x0:Ay) (x1:A0) (r:Ay) (h:Ac2 x0 x1=some r):CO 76 [.d (.o 0 0),.agg (d63 x1)] (.box 119 (I x0.Ao.Time :: .os 1 :: .os 2 :: .os 3 :: .os 4 :: .os 5 :: .os 6::zb x0.Aj [.os 7,.os 8])::zp x0.Ao.Power [v2_ x0.Ao.Av,v1_ x0.Ao.A7,v1_ x0.events,v7_ x0.states]) (.tup []) (.box 119 (I r.Ao.Time :: .os 9 :: .os 10 :: .os 11 :: .os 12 :: .os 5 :: .os 6::zb r.Aj [.os 13,.os 14]) :: .non :: .non :: .non :: .non::v2_ r.Ao.Av::v1_ r.Ao.A7 :: .non :: .non::zp r.Ao.Power [v1_ r.events,v7_ r.states]):=by
 unfold Ac2 at h
 refine co 92 Tryz.func76 λ C hC=>?_
 obtain⟨y1,h2,h⟩:=Au h
 refine wn Fe 28 [] [⟨.flts [.box 39 [.p (.v (.slice none 0 0)),.p (.v (.slice none 0 0)),.p (.v (.slice none 0 0)),.p (.v (.slice none 0 0))]],trivial⟩,⟨.call 78 [.agg (d30 x0.Aj),.agg [.os 0,.os 1,.os 2,.os 3],dI x0.Ao.Time,.agg (d63 x1)] (zp x0.Ao.Power []) (.tup [.agg [.os 4,.os 5,.os 6,.os 7],dI y1.2]) (zp x0.Ao.Power (zp y1.1 [])) [1,2,3,4],⟨e78,((k78 x0.Aj x0.Ao.Power x0.Ao.Time x1 _ h2).lend (by kernel_rfl) (by kernel_rfl) (by kernel_rfl) ⟨Bc (λ _=>rfl),Bc (λ _=>rfl),Bc (λ _=>rfl),Bc (λ _=>rfl),trivial⟩ (by kernel_rfl) (by kernel_rfl))⟩⟩,⟨.flt 10 (.box 39 [.p (.v (.slice none 0 0)),.p (.v (.slice none 0 0)),.p (.v (.slice none 0 0)),.p (.v (.slice none 0 0))]) (.box 39 [.p (.v (.slice none 0 0)),.p (.v (.slice none 0 0)),.p (.v (.slice none 0 0)),.p (.v (.slice none 0 0))]),rfl⟩] [] 9 C1 [0,3,4,5,32] hC [] ?_
 obtain⟨w0,h,hret0,hnext0⟩:=Ak h
 refine wc w0 (Xr y1) (Zq x0 x1 y1) ?_ λ z0 hs0=>?_
 ·unfold jM at h
  rcases cB h with⟨h3,h⟩ | ⟨h3,h⟩
  ·cases h
  ·exact wx w0 (Xr y1) (Zq x0 x1 y1) Fe 23 [false] [] [] 9 C1 _ hC [pq h3] (sI h).symm
 ·clear h;have h:=hnext0 _ hs0
  obtain⟨y4,h5,h⟩:=Au h
  refine wn Fe 26 [] [pc Afz (Afg x0 x1 y1.2 _ h5) n9_] [] 9 [0,1,2,3,4,5,6,7,8,10,11,12,13,14,15] [0,4,38] hC [] ?_
  rcases cB h with⟨h6,h⟩ | ⟨h6,h⟩
  ·cases h
  ·obtain⟨y7,h8,y9,h10,h⟩:=Ba h
   refine ws Fe 30 [false] [pc Abd (Aa1 y4 y1.1 _ h8) [0,1,2,3,4,5,6,14,8,10,11,12,13],⟨.flts [.box 39 [.p (.v (.slice none 0 0)),.p (.v (.slice none 0 0)),.p (.v (.slice none 0 0)),.p (.v (.slice none 0 0))]],trivial⟩,⟨.call 104 [.agg (d30 y7.Aj),.agg [.os 0,.os 1,.os 2,.os 3]] (zp y1.1 []) (.tup [.agg [.os 4,.os 5,.os 6,.os 7],dS 8,dI y9.2.2]) (zp y1.1 (zp y9.1 [v6_ y9.2.1])) [10,11,12,13],⟨Ar0,((Aq7 y7.Aj y1.1 _ h10).lend (by kernel_rfl) (by kernel_rfl) (by kernel_rfl) ⟨Bc (λ _=>rfl),Bc (λ _=>rfl),Bc (λ _=>rfl),Bc (λ _=>rfl),Bc (λ _=>rfl),trivial⟩ (by kernel_rfl) (by kernel_rfl))⟩⟩,⟨.flt 16 (.box 39 [.p (.v (.slice none 0 0)),.p (.v (.slice none 0 0)),.p (.v (.slice none 0 0)),.p (.v (.slice none 0 0))]) (.box 39 [.p (.v (.slice none 0 0)),.p (.v (.slice none 0 0)),.p (.v (.slice none 0 0)),.p (.v (.slice none 0 0))]),rfl⟩,pl q63 y9.2.1] [] 9 Aqf (Ju y9 0 (y7.Ao.Time,zt y7.Aj (zu y7.Ao.Power (y7.Ao.Av,y7.Ao.A7,y1.1.Am,y7.events,y7.states,y1.1.Aw)))) (Nb y1 y9 0 (y7.Ao.Time,zt y7.Aj (zu y7.Ao.Power (y7.Ao.Av,y7.Ao.A7,y1.1.Am,y7.events,y7.states,y1.1.Aw)))) hC [pq h6] ?_
   obtain⟨w1,hm1,hret1,hnext1⟩:=Ak h
   clear h
   refine wc w1 (Xq) (Zp y1 y9) ?_ λ z1 hs1=>?_
   ·refine wb ?_
    refine Cc 52 21 rfl rfl λ hl1=>?_
    refine wl (Ju y9) (Nb y1 y9) hm1 (λ z1 hn1=>?_) λ n1 a1 z1 w1b hi1 hx1 h hb1 hr1=>?_
    ·clear hm1
     exact wx w1 (Xq) (Zp y1 y9) Fe 26 [false] [] [] 9 Aqg _ hC [pq (A6 hl1)] hn1
    ·unfold jN at h
     obtain⟨y11,h12,h⟩:=Au h
     refine wn Fe 35 [true] [pr q63 (Bj hx1 hl1),pn q63 (Bj hx1 hl1),pc Afz (Afg (⟨(⟨z1.1,(⟨(g7_ z1),(g8_ z1),(g9_ z1),(Oo z1)⟩:Ab),(On z1),(Om z1)⟩:Al),(⟨z1.2.1,z1.2.2.1,(g3_ z1),(g4_ z1),(g5_ z1),(g6_ z1)⟩:Aa),(Ajj z1),(Aji z1)⟩:Ay) a1 0 _ h12) [0,1,2,3,4,5,6,14,15]] [] 9 [0,1,2,3,4,5,6,7,8,9,10,11,12,13,15,16,17,18,19,20,21,22,23] [0,4,6,10,52,53,54,63] hC [pq (A4 hi1 hl1)] ?_
     rcases cB h with⟨h13,h⟩ | ⟨h13,h⟩
     ·obtain⟨y14,h15,y16,h17,y18,h19,h⟩:=Cg h
      exact wx w1b (Ju y9 (n1+1)) (Nb y1 y9 (n1+1)) Fe 26 [true] [pr pB h15,pu pB h15 h17,pc Abd (Aa1 y11 (⟨y16,y1.1.Ac,(Vu z1),y1.1.As⟩:Ab) _ h19) [0,1,2,3,4,5,6,22,14,10,11,12,13]] [] 9 [0,1,2,3,4,5,6,7,8,9,10,11,12,13,22,23,15,16,17,18,19,20] _ hC [pq h13] (sI h).symm
     ·obtain⟨y20,h21,y22,h23,y24,h25,h⟩:=Cg h
      exact wx w1b (Ju y9 (n1+1)) (Nb y1 y9 (n1+1)) Fe 26 [false] [pr pI h21,pu pI h21 h23,pc Abd (Aa1 y11 (⟨(Lz z1),y1.1.Ac,y22,y1.1.As⟩:Ab) _ h25) [0,1,2,3,4,5,6,22,14,10,11,12,13]] [] 9 [0,1,2,3,4,5,6,7,8,9,10,11,12,13,22,23,15,16,17,18,19,20] _ hC [pq h13] (sI h).symm
   ·have h:=hnext1 _ hs1
    obtain⟨y26,h27,h⟩:=Au h
    refine wn Fe 24 [] [pb e50 (k50 (⟨(Lz z1),y1.1.Ac,(Vu z1),y1.1.As⟩:Ab) y9.1 _ h27)] [] 9 [0,1,2,3,4,5,6,7,8,14,15,16,17,18,19,20] [0,6,83] hC [] ?_
    rcases cB h with⟨h28,h⟩ | ⟨h28,h⟩
    ·cases h
    ·replace h:=sI h
     subst h
     exact wf Fe 23 [false] [] [.frz 1,.frz 2,.frz 3,.frz 4] 9 [0,1,2,3,4,5,6,7,8,12,13,14,15,9,10] hC [pq h28]
theorem Apl:EN 76:=en Tryz.func76
def Si:List Nat:=[0,1,2,3,4,5,6,8,9,10,11,13,14,19,23,27,38,39,40,41]
def W_ (x3:List A0) (n0:Nat) (z0:Sg9):St:=[(4,dO 0 0),(5,dO 1 0),(8,.d (.p (.v (.pointer none)))),(9,dI 0),(11,dO 2 0),(38,.d (DS q63 x3)),(39,dI (ln x3)),(40,dI (cnt 0 n0))]
def Acl (x0:Aa) (x1:Bd) (n0:Nat) (z0:Sg9):List Res:=[.box 30 (d30 x0),.box 33 (d33 x1),.box 119 [I z0.1,.os 3,.os 4,.os 5,.os 6,.os 7,.os 8,I z0.2.1,DS q70 z0.2.2.1,DS q72 (g3_ z0),DS q81 (g4_ z0),I (g5_ z0),I (g6_ z0),.os 9,.os 10],v3_ (g7_ z0),v4_ (g8_ z0),v0_ (g9_ z0),v5_ (Oo z0),v2_ (On z0),v1_ (Om z0),v1_ (Lz z0),v7_ (Vv z0)]
def Aen  (z0:Sg9):St:=[(4,dO 0 0),(5,dO 1 0),(8,.d (.p (.v (.pointer none)))),(9,dI 0),(11,dO 2 0)]
def Ahd (x0:Aa) (x1:Bd) (z0:Sg9):List Res:=[.box 30 (d30 x0),.box 33 (d33 x1),.box 119 [I z0.1,.os 3,.os 4,.os 5,.os 6,.os 7,.os 8,I z0.2.1,DS q70 z0.2.2.1,DS q72 (g3_ z0),DS q81 (g4_ z0),I (g5_ z0),I (g6_ z0),.os 9,.os 10],v3_ (g7_ z0),v4_ (g8_ z0),v0_ (g9_ z0),v5_ (Oo z0),v2_ (On z0),v1_ (Om z0),v1_ (Lz z0),v7_ (Vv z0)]
theorem k53 (x0:Aa) (x1:Bd) (x2:Al) (x3:List A0) (r:Ay×Int) (h:F53 x0 x1 x2 x3=some r):CO 53 [.agg (d30 x0),.agg (d33 x1),.agg (d43 x2),.d (DS q63 x3)] [] (.tup [.d (.o 0 0),.d (I r.2)]) (.box 119 (I r.1.Ao.Time :: .os 1 :: .os 2 :: .os 3 :: .os 4 :: .os 5 :: .os 6::zb r.1.Aj [.os 7,.os 8])::zp r.1.Ao.Power [v2_ r.1.Ao.Av,v1_ r.1.Ao.A7,v1_ r.1.events,v7_ r.1.states]):=by
 unfold F53 at h
 refine co 109 Tryz.func53 λ C hC=>?_
 obtain⟨y1,h2,h⟩:=Au h
 refine wn Si 29 [] [pc e29 (k29 x0 x1 x2 _ h2) []] [] 0 n3_ [3,4,5,6,8,9,10,19] hC [] ?_
 rcases cB h with⟨h3,h⟩ | ⟨h3,h⟩
 ·cases h
 ·rcases cB h with⟨h4,h⟩ | ⟨h4,h⟩
  ·cases h
  ·rcases cB h with⟨h5,h⟩ | ⟨h5,h⟩
   ·cases h
   ·obtain⟨y6,h7,y8,h9,h⟩:=Ba h
    refine ws Si 37 [false,false,false] [pl q63 x3,pc e74 (k74 x0 x2 _ h7) [],pc Apn (Ao8 y6 x2.Power _ h9) [3,4,5,6,7,8,9,10,11],pl q63 x3] [] 0 [0,1,3,4,5,6,7,8,9,10,12] (W_ x3 0 (y8.Ao.Time,zt y8.Aj (zu y8.Ao.Power (y8.Ao.Av,y8.Ao.A7,y8.events,y8.states)))) (Acl x0 x1 0 (y8.Ao.Time,zt y8.Aj (zu y8.Ao.Power (y8.Ao.Av,y8.Ao.A7,y8.events,y8.states)))) hC [pq h3,pq h4,pq h5] ?_
    obtain⟨w0,hm0,hret0,hnext0⟩:=Ak h
    clear h
    refine wc w0 (Aen) (Ahd x0 x1) ?_ λ z0 hs0=>?_
    ·refine wb ?_
     refine Bn 38 rfl λ hl0=>?_
     refine wl (W_ x3) (Acl x0 x1) hm0 (λ z0 hn0=>?_) λ n0 a0 z0 w0b hi0 hx0 h hb0 hr0=>?_
     ·clear hm0
      exact wx w0 (Aen) (Ahd x0 x1) Si 26 [false] [] [] 0 Aau _ hC [pq (A6 hl0)] hn0
     ·unfold Aib at h
      obtain⟨y10,h11,h⟩:=Au h
      exact wx w0b (W_ x3 (n0+1)) (Acl x0 x1 (n0+1)) Si 33 [true] [pt hx0 hl0,pc Apl (Ao6 (⟨(⟨z0.1,(⟨(g7_ z0),(g8_ z0),(g9_ z0),(Oo z0)⟩:Ab),(On z0),(Om z0)⟩:Al),(⟨z0.2.1,z0.2.2.1,(g3_ z0),(g4_ z0),(g5_ z0),(g6_ z0)⟩:Aa),(Lz z0),(Vv z0)⟩:Ay) a0 _ h11) [2,3,4,5,6,7,8,9,10]] [] 0 [0,1,2,12,13,14,15,7,8,16,17] _ hC [pq (A4 hi0 hl0)] (sI h).symm
    ·have h:=hnext0 _ hs0
     obtain⟨y12,h13,y14,h15,y16,h17,y18,h19,h⟩:=Dt h
     refine wn Si 11 [] [pc Apk (Ao5 (⟨(⟨z0.1,(⟨(g7_ z0),(g8_ z0),(g9_ z0),(Oo z0)⟩:Ab),(On z0),(Om z0)⟩:Al),(⟨z0.2.1,z0.2.2.1,(g3_ z0),(g4_ z0),(g5_ z0),(g6_ z0)⟩:Aa),(Lz z0),(Vv z0)⟩:Ay) x1 _ h13) [2,3,4,5,6,7,8,9,10],⟨.call 78 [.agg (d30 x0),.agg [.os 0,.os 1,.os 2,.os 3],dI y12.Ao.Time,.agg [I 7,I 0,I 0]] (zp y12.Ao.Power []) (.tup [.agg [.os 4,.os 5,.os 6,.os 7],dI y14.2]) (zp y12.Ao.Power (zp y14.1 [])) [3,4,5,6],⟨e78,((k78 x0 y12.Ao.Power y12.Ao.Time (⟨7,0,0⟩:A0) _ h15).lend (by kernel_rfl) (by kernel_rfl) (by kernel_rfl) ⟨Bc (λ _=>rfl),Bc (λ _=>rfl),Bc (λ _=>rfl),Bc (λ _=>rfl),trivial⟩ (by kernel_rfl) (by kernel_rfl))⟩⟩,pc Apm (Ao7 (⟨(⟨y12.Ao.Time,y14.1,y12.Ao.Av,y12.Ao.A7⟩:Al),y12.Aj,y12.events,y12.states⟩:Ay) y14.1 _ h17) [2,12,13,14,15,11,8,9,10],pa q65 5 h19] [.frz 17] 0 [2,8,9,11,12,13,14,15,16] [8,9,11,14] hC [] ?_
     obtain⟨y21,h20,y22,h23,h⟩:=Ba h
     replace h:=sI h
     subst h
     exact wr Si 24 [] [pl q65 y18,⟨.cut (y18.map q65) 5 (max 0 (w64 ((ln y18)-200))) (ln (y18.map q65)) (y21.map q65),vC q65 5 (λ _=>rfl) h20⟩,pc e79 (k79 y21 _ h23) []] [] 0 [0,4,5,6,7,3,9,2,8] hC []
theorem e53:EN 53:=en Tryz.func53
end Go.Proofs.YtpdbkiafikdgpaaGreatDoor
