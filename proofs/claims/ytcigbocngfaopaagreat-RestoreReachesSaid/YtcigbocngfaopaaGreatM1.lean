import Derived.Test.YtcigbocngfaopaaGreatM0
set_option linter.unusedVariables false
set_option maxHeartbeats 4000000
namespace Go.Proofs.YtcigbocngfaopaaGreat
open Go.SL
def Er:List Nat:=[0,1,2,3,4,5,7,8,9,10,11,12,13,15,19,45,47,48,49,50,74,77,78,79,80,92,97,99,100,101,102,124,128,129,130,134,135,136,137,144,149]
def Agh (x1:Ab) (n0:Nat) (z0:Unit):St:=[(2,dO 0 0),(3,dO 1 0),(4,dI 0),(47,.d (DS q87 x1.Ac)),(48,dI (ln x1.Ac)),(49,dI (cnt 0 n0))]
def Ard (x0:Aa) (x1:Ab) (n0:Nat) (z0:Unit):List Res:=[.box 29 (d29 x0),.box 34 (d34 x1)]
def At2  (z0:Unit):St:=[(2,dO 0 0),(3,dO 1 0),(4,dI 0)]
def Axx (x0:Aa) (x1:Ab) (z0:Unit):List Res:=[.box 29 (d29 x0),.box 34 (d34 x1)]
def Agg (x1:Ab) (n1:Nat) (z1:Unit):St:=[(2,dO 0 0),(3,dO 1 0),(4,dI 0),(77,.d (DS pI x1.Am)),(78,dI (ln x1.Am)),(79,dI (cnt 0 n1))]
def Arc (x0:Aa) (x1:Ab) (n1:Nat) (z1:Unit):List Res:=[.box 29 (d29 x0),.box 34 (d34 x1)]
def At1  (z1:Unit):St:=[(2,dO 0 0),(3,dO 1 0),(4,dI 0)]
def Axw (x0:Aa) (x1:Ab) (z1:Unit):List Res:=[.box 29 (d29 x0),.box 34 (d34 x1)]
def Agf (x1:Ab) (n2:Nat) (z2:Unit):St:=[(2,dO 0 0),(3,dO 1 0),(4,dI 0),(99,.d (DS q92 x1.Ai)),(100,dI (ln x1.Ai)),(101,dI (cnt 0 n2))]
def Arb (x0:Aa) (x1:Ab) (n2:Nat) (z2:Unit):List Res:=[.box 29 (d29 x0),.box 34 (d34 x1)]
def At0  (z2:Unit):St:=[(2,dO 0 0),(3,dO 1 0),(4,dI 0)]
def Axv (x0:Aa) (x1:Ab) (z2:Unit):List Res:=[.box 29 (d29 x0),.box 34 (d34 x1)]
def Age (x0:Aa) (z3:Int):St:=[(2,dO 0 0),(3,dO 1 0),(4,dI 0),(128,dI (ln x0.Af)),(129,dI z3)]
def Ara (x0:Aa) (x1:Ab) (z3:Int):List Res:=[.box 29 (d29 x0),.box 34 (d34 x1)]
def Atz  (z3:Int):St:=[(4,dI 0)]
def Axu  (z3:Int):List Res:=[]
def jX (x0:Aa) (z3:Int) (y14:(List Int)) (n4:Nat) (z4:Int):St:=[(2,dO 0 0),(3,dO 1 0),(4,dI 0),(13,dI z4),(128,dI (ln x0.Af)),(129,dI z3),(134,dS 2),(135,dI (ln y14)),(136,dI (cnt 0 n4))]
def Ae4 (x0:Aa) (x1:Ab) (y14:(List Int)) (n4:Nat) (z4:Int):List Res:=[.box 29 (d29 x0),.box 34 (d34 x1),v0_ y14]
def Aty (x0:Aa) (z3:Int) (z4:Int):St:=[(2,dO 0 0),(3,dO 1 0),(4,dI 0),(13,dI z4),(128,dI (ln x0.Af)),(129,dI z3)]
def Axt (x0:Aa) (x1:Ab) (z4:Int):List Res:=[.box 29 (d29 x0),.box 34 (d34 x1)]
set_option maxHeartbeats 4000000 in
theorem k11 (x0 : Aa) (x1 : Ab) (r : Int) (h : F11 x0 x1 = some r) : CO 11 [.agg (d29 x0), .agg (d34 x1)] [] (.d (I r)) [] := by
 unfold F11 at h
 refine co 151 Tryz.func11 λ C hC=>?_
 obtain⟨y1,h2,h⟩:=Aw h
 rcases cB h with⟨h3,h⟩ | ⟨h3,h⟩
 ·replace h:=sI h
  subst h
  exact wr Er 31 [true] [pc e45 (k45 x0 _ h2) []] [] 0 [] hC [pq h3]
 ·refine wn Er 33 [false] [pc e45 (k45 x0 _ h2) [], pl pB x1.Ae, pl q49 x0.Ad, pL_ [(((ln x1.Ae) != (ln x0.Ad)), false)] q87 x1.Ac, pL_ [(((ln x1.Ae) != (ln x0.Ad)), false)] q98 x0.Ac, pL_ [((((ln x1.Ae) != (ln x0.Ad)) || ((ln x1.Ac) != (ln x0.Ac))), false)] pI x1.Am, pL_ [((((ln x1.Ae) != (ln x0.Ad)) || ((ln x1.Ac) != (ln x0.Ac))), false)] q90 x0.Af] [] 0 [0, 1] [2, 3, 4, 45] hC [pq h3] ?_
  rcases cB h with⟨h4,h⟩ | ⟨h4,h⟩
  ·replace h:=sI h
   subst h
   exact wr Er 24 [true] [] [] 0 [] hC [pq h4]
  ·refine ws Er 26 [false] [pl q87 x1.Ac] [] 0 [0, 1] (Agh x1 0 ()) (Ard x0 x1 0 ()) hC [pq h4] ?_
   obtain⟨w0,hm0,hret0,hnext0⟩:=Av h
   clear h
   refine wc w0 (At2) (Axx x0 x1) ?_ λ z0 hs0=>?_
   ·refine wb ?_
    refine Bq 47 rfl λ hl0=>?_
    refine wl (Agh x1) (Ard x0 x1) hm0 (λ z0 hn0=>?_) λ n0 a0 z0 w0b hi0 hx0 h hb0 hr0=>?_
    ·clear hm0
     exact wx w0 (At2) (Axx x0 x1) Er 26 [false] [] [] 0 [0,1] _ hC [pq (A6 hl0)] hn0
    ·unfold Alo at h
     refine wn Er 32 [true] [pt hx0 hl0,pc e46 (k46 a0.State 0 3 _ rfl) [],⟨.when [(!(F46 a0.State 0 3),false)] (.call 46 [dI a0.Since,dI 0,dI 2147483648] [] (dB (F46 a0.Since 0 2147483648)) [] []),λ hg=>⟨e46,(k46 a0.Since 0 2147483648 _ rfl)⟩⟩,⟨.when [(((!(F46 a0.State 0 3)) || (!(F46 a0.Since 0 2147483648))),false)] (.call 46 [dI a0.Ar,dI 0,dI 6000] [] (dB (F46 a0.Ar 0 6000)) [] []),λ hg=>⟨e46,(k46 a0.Ar 0 6000 _ rfl)⟩⟩,⟨.when [((((!(F46 a0.State 0 3)) || (!(F46 a0.Since 0 2147483648))) || (!(F46 a0.Ar 0 6000))),false)] (.call 46 [dI a0.Phase,dI 0,dI 3599] [] (dB (F46 a0.Phase 0 3599)) [] []),λ hg=>⟨e46,(k46 a0.Phase 0 3599 _ rfl)⟩⟩] [] 0 [0,1] [2,3,4,47,48,49,74] hC [pq (A4 hi0 hl0)] ?_
     rcases cB h with⟨h5,h⟩ | ⟨h5,h⟩
     ·have hq:=hret0 _ (hr0 _ (sI h).symm)
      replace hq:=sI hq
      subst hq
      exact wr Er 24 [true] [] [] 0 [] hC [pq h5]
     ·exact wx w0b (Agh x1 (n0+1)) (Ard x0 x1 (n0+1)) Er 25 [false] [] [] 0 [0,1] _ hC [pq h5] (sI h).symm
   ·have h := hnext0 _ hs0
    refine ws Er 24 [] [pl pI x1.Am] [] 0 [0,1] (Agg x1 0 ()) (Arc x0 x1 0 ()) hC [] ?_
    obtain⟨w1,hm1,hret1,hnext1⟩:=Av h
    clear h
    refine wc w1 (At1) (Axw x0 x1) ?_ λ z1 hs1=>?_
    ·refine wb ?_
     refine Bq 77 rfl λ hl1=>?_
     refine wl (Agg x1) (Arc x0 x1) hm1 (λ z1 hn1=>?_) λ n1 a1 z1 w1b hi1 hx1 h hb1 hr1=>?_
     ·clear hm1
      exact wx w1 (At1) (Axw x0 x1) Er 26 [false] [] [] 0 [0,1] _ hC [pq (A6 hl1)] hn1
     ·unfold Aln at h
      obtain⟨y6,h7,h⟩:=Aw h
      refine wn Er 32 [true] [pt hx1 hl1,pr q90 h7,pc e46 (k46 a1 0 y6.Load _ rfl) []] [] 0 [0,1] [2,3,4,77,78,79,92] hC [pq (A4 hi1 hl1)] ?_
      rcases cB h with⟨h8,h⟩ | ⟨h8,h⟩
      ·have hq:=hret1 _ (hr1 _ (sI h).symm)
       replace hq:=sI hq
       subst hq
       exact wr Er 24 [true] [] [] 0 [] hC [pq h8]
      ·exact wx w1b (Agg x1 (n1+1)) (Arc x0 x1 (n1+1)) Er 25 [false] [] [] 0 [0,1] _ hC [pq h8] (sI h).symm
    ·have h := hnext1 _ hs1
     rcases cB h with⟨h9,h⟩ | ⟨h9,h⟩
     ·replace h:=sI h
      subst h
      exact wr Er 27 [true] [pl q92 x1.Ai] [] 0 [] hC [pq h9]
     ·refine ws Er 29 [false] [pl q92 x1.Ai,pl q92 x1.Ai] [] 0 [0,1] (Agf x1 0 ()) (Arb x0 x1 0 ()) hC [pq h9] ?_
      obtain⟨w2,hm2,hret2,hnext2⟩:=Av h
      clear h
      refine wc w2 (At0) (Axv x0 x1) ?_ λ z2 hs2=>?_
      ·refine wb ?_
       refine Bq 99 rfl λ hl2=>?_
       refine wl (Agf x1) (Arb x0 x1) hm2 (λ z2 hn2=>?_) λ n2 a2 z2 w2b hi2 hx2 h hb2 hr2=>?_
       ·clear hm2
        exact wx w2 (At0) (Axv x0 x1) Er 26 [false] [] [] 0 [0,1] _ hC [pq (A6 hl2)] hn2
       ·unfold Alm at h
        obtain⟨y10,h11,h⟩:=Aw h
        refine wn Er 32 [true] [pt hx2 hl2,pc e47 (k47 x0 a2 _ rfl) [],pR q92 h11,⟨.when [(!(F47 x0 a2),false),(decide ((cnt 0 n2)>0),true)] (.call 48 [.agg (d92 y10),.agg (d92 a2)] [] (dB (F48 y10 a2)) [] []),λ hg=>⟨e48,(k48 y10 a2 _ rfl)⟩⟩] [] 0 [0,1] [2,3,4,99,100,101,124] hC [pq (A4 hi2 hl2)] ?_
        rcases cB h with⟨h12,h⟩ | ⟨h12,h⟩
        ·have hq:=hret2 _ (hr2 _ (sI h).symm)
         replace hq:=sI hq
         subst hq
         exact wr Er 24 [true] [] [] 0 [] hC [pq h12]
        ·exact wx w2b (Agf x1 (n2+1)) (Arb x0 x1 (n2+1)) Er 25 [false] [] [] 0 [0,1] _ hC [pq h12] (sI h).symm
      ·have h:=hnext2 _ hs2
       refine ws Er 24 [] [pl q90 x0.Af] [] 0 [0,1] (Age x0 0) (Ara x0 x1 0) hC [] ?_
       obtain⟨w3,hm3,hret3,hnext3⟩:=Av h
       clear h
       refine wc w3 (Atz) (Axu) ?_ λ z3 hs3=>?_
       ·refine wb ?_
        refine ww (Age x0) (Ara x0 x1) hm3 λ z3 w3b h hb3 hr3=>?_
        unfold All at h
        rcases cB h with⟨h13,h⟩ | ⟨h13,h⟩
        ·obtain⟨y14,h15,h⟩:=Aw h
         refine ws Er 35 [true] [pc e49 (k49 x0 3 z3 _ h15) [],pl pI y14] [] 0 n3_ (jX x0 z3 y14 0 0) (Ae4 x0 x1 y14 0 0) hC [pq h13] ?_
         obtain⟨w4,hm4,hret4,hnext4⟩:=Av h
         clear h
         refine wc w4 (Aty x0 z3) (Axt x0 x1) ?_ λ z4 hs4=>?_
         ·refine wb ?_
          refine B2 134 2 rfl rfl λ hl4=>?_
          refine wl (jX x0 z3 y14) (Ae4 x0 x1 y14) hm4 (λ z4 hn4=>?_) λ n4 a4 z4 w4b hi4 hx4 h hb4 hr4=>?_
          ·clear hm4
           exact wx w4 (Aty x0 z3) (Axt x0 x1) Er 26 [false] [] [] 0 [0,1] _ hC [pq (A6 hl4)] hn4
          ·unfold Alk at h
           obtain⟨y16,h17,h⟩:=Aw h
           rcases cB h with⟨h18,h⟩ | ⟨h18,h⟩
           ·exact wx w4b (jX x0 z3 y14 (n4+1)) (Ae4 x0 x1 y14 (n4+1)) Er 36 [true,true] [pr pI (Bd hx4 hl4),pn pI (Bd hx4 hl4),pr pB h17] [] 0 n3_ _ hC [pq (A4 hi4 hl4),pq h18] (sI h).symm
           ·exact wx w4b (jX x0 z3 y14 (n4+1)) (Ae4 x0 x1 y14 (n4+1)) Er 36 [true,false] [pr pI (Bd hx4 hl4),pn pI (Bd hx4 hl4),pr pB h17] [] 0 n3_ _ hC [pq (A4 hi4 hl4),pq h18] (sI h).symm
         ·have h:=hnext4 _ hs4
          rcases cB h with⟨h19,h⟩ | ⟨h19,h⟩
          ·have hq:=hret3 _ (hr3 _ (sI h).symm)
           replace hq:=sI hq
           subst hq
           exact wr Er 26 [true] [] [] 0 [] hC [pq h19]
          ·exact wx w3b (Age x0) (Ara x0 x1) Er 27 [false] [] [] 0 [0,1] _ hC [pq h19] (sI h).symm
        ·exact wx w3 (Atz) (Axu) Er 26 [false] [] [] 0 [] z3 hC [pq h13] (hb3 _ (sI h).symm)
       ·have h:=hnext3 _ hs3
        replace h:=sI h
        subst h
        exact wr Er 23 [] [] [] 0 [] hC []
theorem e11:EN 11:=en Tryz.func11
def R9:List Nat:=[0,1,2,3,4,5,6,9,11,15,16,17,18,25]
def Agd  (z0:Int×(List Int)):St:=[(1,dO 0 0),(2,.d (DS pI [])),(3,dS 1),(4,dI z0.1)]
def Aq9 (x0:Aa) (z0:Int×(List Int)):List Res:=[.box 29 (d29 x0),v0_ z0.2]
def Atx  (z0:Int×(List Int)):St:=[(2,.d (DS pI [])),(3,dS 0)]
def Axs  (z0:Int×(List Int)):List Res:=[v0_ z0.2]
def jW (x0:Aa) (z0:Int×(List Int)) (n1:Nat) (z1:(List Int)):St:=[(1,dO 0 0),(2,.d (DS pI [])),(3,dS 1),(4,dI z0.1),(15,.d (DS q90 x0.Af)),(16,dI (ln x0.Af)),(17,dI (cnt 0 n1))]
def Ae3 (x0:Aa) (n1:Nat) (z1:(List Int)):List Res:=[.box 29 (d29 x0),v0_ z1]
def Atw (z0:Int×(List Int)) (z1:(List Int)):St:=[(1,dO 0 0),(2,.d (DS pI [])),(3,dS 1),(4,dI z0.1)]
def Axr (x0:Aa) (z1:(List Int)):List Res:=[.box 29 (d29 x0),v0_ z1]
theorem k12 (x0:Aa) (r:(List Int)) (h:F12 x0=some r):CO 12 [.agg (d29 x0)] [] (.d (.os 0)) [v0_ r]:=by
 unfold F12 at h
 refine co 32 Tryz.func12 λ C hC=>?_
 obtain⟨y1,h2,h⟩:=Aw h
 rcases cB h with⟨h3,h⟩ | ⟨h3,h⟩
 ·replace h:=sI h
  subst h
  exact wr R9 29 [true] [pc e45 (k45 x0 _ h2) []] [.own 2 3 1] 0 [1] hC [pq h3]
 ·refine ws R9 33 [false] [pc e45 (k45 x0 _ h2) []] [.own 3 3 1] 0 [0,1] (Agd (0,([]:List Int))) (Aq9 x0 (0,([]:List Int))) hC [pq h3] ?_
  obtain⟨w0,hm0,hret0,hnext0⟩:=Av h
  clear h
  refine wc w0 (Atx) (Axs) ?_ λ z0 hs0=>?_
  ·refine wb ?_
   refine ww (Agd) (Aq9 x0) hm0 λ z0 w0b h hb0 hr0=>?_
   unfold Ali at h
   rcases cB h with⟨h4,h⟩ | ⟨h4,h⟩
   ·refine ws R9 30 [true] [pl q90 x0.Af] [] 0 [0,1] (jW x0 z0 0 z0.2) (Ae3 x0 0 z0.2) hC [pq h4] ?_
    obtain⟨w1,hm1,hret1,hnext1⟩:=Av h
    clear h
    refine wc w1 (Atw z0) (Axr x0) ?_ λ z1 hs1=>?_
    ·refine wb ?_
     refine Bq 15 rfl λ hl1=>?_
     refine wl (jW x0 z0) (Ae3 x0) hm1 (λ z1 hn1=>?_) λ n1 a1 z1 w1b hi1 hx1 h hb1 hr1=>?_
     ·clear hm1
      exact wx w1 (Atw z0) (Axr x0) R9 26 [false] [] [] 0 [0,1] _ hC [pq (A6 hl1)] hn1
     ·unfold Alh at h
      rcases cB h with⟨h5,h⟩ | ⟨h5,h⟩
      ·obtain⟨y6,h7,h⟩:=Aw h
       exact wx w1b (jW x0 z0 (n1+1)) (Ae3 x0 (n1+1)) R9 36 [true,true] [pt hx1 hl1,pa pI 1 h7] [] 0 [0,3] _ hC [pq (A4 hi1 hl1),pq h5] (sI h).symm
      ·exact wx w1b (jW x0 z0 (n1+1)) (Ae3 x0 (n1+1)) R9 36 [true,false] [pt hx1 hl1] [] 0 [0,1] _ hC [pq (A4 hi1 hl1),pq h5] (sI h).symm
    ·have h:=hnext1 _ hs1
     exact wx w0b (Agd) (Aq9 x0) R9 23 [] [] [] 0 [0,1] _ hC [] (sI h).symm
   ·exact wx w0 (Atx) (Axs) R9 26 [false] [] [] 0 [1] (z0.1,z0.2) hC [pq h4] (hb0 _ (sI h).symm)
  ·have h:=hnext0 _ hs0
   replace h:=sI h
   subst h
   exact wr R9 23 [] [] [] 0 [0] hC []
theorem e12:EN 12:=en Tryz.func12
theorem k16 (x0:Aa) (x1:Int) (x2:Int) (r:(List Int)) (h:F16 x0 x1 x2=some r):CO 16 [.agg (d29 x0),.d (I x1),.d (I x2)] [] (.d (.os 0)) [v0_ r]:=by
 unfold F16 at h
 refine co 14 Tryz.func16 λ C hC=>?_
 obtain⟨y1,h2,h⟩:=Aw h
 rcases cB h with⟨h3,h⟩ | ⟨h3,h⟩
 ·replace h:=sI h
  subst h
  exact wr [0,1,2,3,6,9] 29 [true] [pc e45 (k45 x0 _ h2) []] [.own 6 3 1] 0 [1] hC [pq h3]
 ·obtain⟨y4,h5,h⟩:=Aw h
  replace h:=sI h
  subst h
  exact wr [0,1,2,3,6,9] 30 [false] [pc e45 (k45 x0 _ h2) [],pc e49 (k49 x0 x1 x2 _ h5) []] [] 0 [1] hC [pq h3]
theorem e16:EN 16:=en Tryz.func16
def K2:List Nat:=[0,1,2,3,4,6,16,17,18,19,28,29,44,71]
def T5 (x0:Aa) (n0:Nat) (z0:(List Int)×(List (List Int))):St:=[(1,dO 0 0),(2,dB false),(3,dS 1),(4,dS 2),(16,.d (DS q49 x0.Ad)),(17,dI (ln x0.Ad)),(18,dI (cnt 0 n0))]
def vA (x0:Aa) (n0:Nat) (z0:(List Int)×(List (List Int))):List Res:=[.box 29 (d29 x0),v0_ z0.1,.dsl 22 1 3,.gh 1 [(3,1)] (z0.2.map (pL pI)) none]
def Ase  (z0:(List Int)×(List (List Int))):St:=[(2,dB false),(3,dS 0),(4,dS 1)]
def Av9  (z0:(List Int)×(List (List Int))):List Res:=[v0_ z0.1,.dsl 22 1 2,.gh 1 [(3,1)] (z0.2.map (pL pI)) none]
theorem k99 (x0:Aa) (r:Bool) (h:F99 x0=some r):CO 99 [.agg (d29 x0)] [] (.d (Bo r)) []:=by
 unfold F99 at h
 refine co 116 Tryz.func99 λ C hC=>?_
 obtain⟨y1,h2,y3,h4,h⟩:=A9 h
 refine ws K2 28 [] [⟨.flts [v0_ y1,.zsl 22 1 (y3.map (pL pI))],trivial⟩,pl q98 x0.Ac,⟨.fltm 1 (.room ((ln x0.Ac)*(8+1)) (List.replicate (Int.toNat (ln x0.Ac)) (pI 0)) (y1.map pI)) (v0_ y1) (v0_ y1),⟨K1 h2,rfl⟩⟩,pl q90 x0.Af,⟨.fltm 2 (.roomZ ((ln x0.Af)*(24+1)) (List.replicate (Int.toNat (ln x0.Af)) ((pL pI) ([]:List Int))) (y3.map (pL pI))) (.zsl 22 1 (y3.map (pL pI))) (.zsl 22 1 (y3.map (pL pI))),⟨Uz h4,rfl⟩⟩,pl q49 x0.Ad] [.deep 2 [(3,1)]] 0 n4_ (T5 x0 0 (y1,y3)) (vA x0 0 (y1,y3)) hC [] ?_
 obtain⟨w0,hm0,hret0,hnext0⟩:=Av h
 clear h
 refine wc w0 (Ase) (Av9) ?_ λ z0 hs0=>?_
 ·refine wb ?_
  refine Bq 16 rfl λ hl0=>?_
  refine wl (T5 x0) (vA x0) hm0 (λ z0 hn0=>?_) λ n0 a0 z0 w0b hi0 hx0 h hb0 hr0=>?_
  ·clear hm0
   exact wx w0 (Ase) (Av9) K2 26 [false] [] [] 0 [1,2,3] _ hC [pq (A6 hl0)] hn0
  ·unfold Aka at h
   refine wn K2 33 [true] [pt hx0 hl0,pc e93 (k93 a0.A 0 (w64 (x0.Al-1)) _ rfl) []] [] 0 n5_ [1,2,3,4,6,16,17,18,28] hC [pq (A4 hi0 hl0)] ?_
   rcases cB h with⟨h5,h⟩ | ⟨h5,h⟩
   ·have hq:=hret0 _ (hr0 _ (sI h).symm)
    replace hq:=sI hq
    subst hq
    exact wr K2 24 [true] [] [] 0 [] hC [pq h5]
   ·refine wn K2 26 [false] [⟨.when [((a0.Kind==1),true)] (.call 93 [dI a0.B,dI (w64 (a0.A+1)),dI (w64 (x0.Al-1))] [] (dB (F93 a0.B (w64 (a0.A+1)) (w64 (x0.Al-1)))) [] []),λ hg=>⟨e93,(k93 a0.B (w64 (a0.A+1)) (w64 (x0.Al-1)) _ rfl)⟩⟩] [] 0 n5_ [1,2,3,4,6,16,17,18,29] hC [pq h5] ?_
    rcases cB h with⟨h6,h⟩ | ⟨h6,h⟩
    ·exact wx w0b (T5 x0 (n0+1)) (vA x0 (n0+1)) K2 26 [true] [] [] 0 n4_ _ hC [pq h6] (sI h).symm
    ·obtain⟨y7,h8,h⟩:=Aw h
     refine wn K2 24 [false] [pL_ [((a0.Kind==2),true)] pI z0.1,⟨.when [((a0.Kind==2),true)] (.call 93 [dI a0.B,dI 0,dI (w64 ((ln z0.1)-1))] [] (.d (Bo (F93 a0.B 0 (w64 ((ln z0.1)-1))))) [] []),λ hg=>⟨e93,(k93 a0.B 0 (w64 ((ln z0.1)-1)) _ rfl)⟩⟩,pR pI h8,pN pI h8] [] 0 n5_ [1,2,3,4,6,16,17,18,44] hC [pq h6] ?_
     rcases cB h with⟨h9,h⟩ | ⟨h9,h⟩
     ·obtain⟨y10,h11,y12,h13,h⟩:=A9 h
      exact wx w0b (T5 x0 (n0+1)) (vA x0 (n0+1)) K2 26 [true] [pr pI h11,pn pI h11,pr pI h11,pu pI h11 h13] [] 0 n4_ _ hC [pq h9] (sI h).symm
     ·obtain⟨y14,h15,y16,h17,h⟩:=A9 h
      refine wn K2 24 [false] [pL_ [((a0.Kind==3),true)] (pL pI) z0.2,⟨.when [((a0.Kind==3),true)] (.call 93 [dI a0.B,dI 0,dI (w64 ((ln z0.2)-1))] [] (.d (Bo (F93 a0.B 0 (w64 ((ln z0.2)-1))))) [] []),λ hg=>⟨e93,(k93 a0.B 0 (w64 ((ln z0.2)-1)) _ rfl)⟩⟩,pR (pL pI) h15,pN (pL pI) h15,⟨.when [(((a0.Kind==3)&&(F93 a0.B 0 (w64 ((ln z0.2)-1)))),true)] (.callB 59 [.d (DS pI y14),dI a0.A] (dB y16) (z0.2.map (pL pI)) (Int.toNat a0.B) ((pL pI) y14)),λ hg=>Ay8 ⟨e59,(k59 y14 a0.A _ (A1 h17 hg))⟩ (A1 h15 hg)⟩] [] 0 n5_ [1,2,3,4,6,16,17,18,71] hC [pq h9] ?_
      rcases cB h with⟨h18,h⟩ | ⟨h18,h⟩
      ·obtain⟨y19,h20,y21,h22,y23,h24,h⟩:=By h
       exact wx w0b (T5 x0 (n0+1)) (vA x0 (n0+1)) K2 26 [true] [pr (pL pI) h20,pn (pL pI) h20,⟨.appD (z0.2.map (pL pI)) (Int.toNat a0.B) ((pL pI) y19) 0 (y19.map pI) ([a0.A].map pI) 1 (((y19.map pI).length+([a0.A].map pI).length)*(8+1)) (y21.map pI),Jm 1 (λ _=>rfl) h20 rfl h22⟩,pr (pL pI) h20,⟨.updD (z0.2.map (pL pI)) (Int.toNat a0.B) (Int.toNat a0.B) ((pL pI) y19) ((pL pI) y21) (y23.map (pL pI)),Jj h20 h24⟩] [] 0 [0,1,2,8] _ hC [pq h18] (sI h).symm
      ·have hq:=hret0 _ (hr0 _ (sI h).symm)
       replace hq:=sI hq
       subst hq
       exact wr K2 24 [false] [] [] 0 [] hC [pq h18]
 ·have h:=hnext0 _ hs0
  refine wn K2 1 [] [] [.flat 1] 0 [0,1] [2,3,4] hC [] ?_
  obtain⟨y27,h28,y29,h30,h⟩:=A9 h
  replace h:=sI h
  subst h
  exact wr K2 22 [] [pb e59 (k59 z0.1 0 _ h28),pv A5z (λ hg=>A4r z0.2 _ (A1 h30 hg))] [] 0 [] hC []
theorem e99:EN 99:=en Tryz.func99
def Na:List Nat:=[0,1,4,5,7,8,9,16]
def Ud (x0:List Ag) (n0:Nat) (z0:Unit):St:=[(0,.d (DS q87 x0)),(1,.d (.fn (.func 91) [] [])),(4,dI 0),(7,dI (ln x0)),(8,dI (cnt 0 n0))]
def Zn  (n0:Nat) (z0:Unit):List Res:=[]
def Abx  (z0:Unit):St:=[(4,dI 0)]
def Adb  (z0:Unit):List Res:=[]
theorem A4s (x0:List Ag) (r:Int) (h:yF x0=some r):CO 138 [.d (DS q87 x0),.d (.fn (.func 91) [] [])] [] (.d (I r)) []:=by
 unfold yF at h
 refine co 19 Tryz.func138 λ C hC=>?_
 refine ws Na 26 [] [pl q87 x0] [] 0 [] (Ud x0 0 ()) (Zn 0 ()) hC [] ?_
 obtain⟨w0,hm0,hret0,hnext0⟩:=Av h
 clear h
 refine wc w0 (Abx) (Adb) ?_ λ z0 hs0=>?_
 ·refine wb ?_
  refine Bq 0 rfl λ hl0=>?_
  refine wl (Ud x0) (Zn) hm0 (λ z0 hn0=>?_) λ n0 a0 z0 w0b hi0 hx0 h hb0 hr0=>?_
  ·clear hm0
   exact wx w0 (Abx) (Adb) Na 26 [false] [] [] 0 [] _ hC [pq (A6 hl0)] hn0
  ·unfold Adt at h
   refine wn Na 32 [true] [pt hx0 hl0,pc e91 (k91 a0 _ rfl) []] [] 0 [] [0,1,4,5,7,8,16] hC [pq (A4 hi0 hl0)] ?_
   rcases cB h with⟨h1,h⟩ | ⟨h1,h⟩
   ·have hq:=hret0 _ (hr0 _ (sI h).symm)
    replace hq:=sI hq
    subst hq
    exact wr Na 24 [true] [] [] 0 [] hC [pq h1]
   ·exact wx w0b (Ud x0 (n0+1)) (Zn (n0+1)) Na 25 [false] [] [] 0 [] _ hC [pq h1] (sI h).symm
 ·have h:=hnext0 _ hs0
  replace h:=sI h
  subst h
  exact wr Na 23 [] [] [] 0 [] hC []
theorem A50:EN 138:=en Tryz.func138
theorem qU (x0:Int) (x1:Int) (x2:Ax) (r:Bool×Ax) (h:Me x0 x1 x2=some r):CO 154 [.d (I x0),.d (I x1),.d (.o 0 0)] (.box 112 [.o 1 0] :: .box 147 (zb x2.An [.os 2,.os 3,.os 4,.os 5,.os 6])::zp x2.Aq [v2_ x2.acts]) (.d (Bo r.1)) (.box 112 [.o 1 0] :: .box 147 (zb r.2.An [.os 2,.os 3,.os 4,.os 5,.os 6])::zp r.2.Aq [v2_ r.2.acts]):=by
 unfold Me at h
 refine co 13 Tryz.func154 λ C hC=>?_
 obtain⟨y1,h2,h⟩:=Aw h
 replace h:=sI h
 subst h
 exact wr [0,1,2,5] 25 [] [pb e76 (k76 x2.Aq x0 x1 _ h2)] [] 7 n7_ hC []
theorem uF:EN 154:=en Tryz.func154
def Jt:List Nat:=[0,1,2,3,8,9,14,34]
def T8 (x1:Int) (x2:Int) (z0:Int×(List Int)):St:=[(0,dS 0),(1,dI x1),(2,dI x2),(3,.d (.fn (.func 133) [] [.o 1 0])),(8,dI z0.1)]
def Zh (x3c0:Aa) (z0:Int×(List Int)):List Res:=[v0_ z0.2,.box 29 (d29 x3c0)]
def Abo  (z0:Int×(List Int)):St:=[]
def Ac2 (x3c0:Aa) (z0:Int×(List Int)):List Res:=[v0_ z0.2,.box 29 (d29 x3c0)]
def T7 (x1:Int) (x2:Int) (z0:Int×(List Int)) (z1:Int×(List Int)):St:=[(0,dS 0),(1,dI x1),(2,dI x2),(3,.d (.fn (.func 133) [] [.o 1 0])),(8,dI z0.1),(9,dI z1.1)]
def Zg (x3c0:Aa) (z1:Int×(List Int)):List Res:=[v0_ z1.2,.box 29 (d29 x3c0)]
def Abn (x1:Int) (x2:Int) (z0:Int×(List Int)) (z1:Int×(List Int)):St:=[(0,dS 0),(1,dI x1),(2,dI x2),(3,.d (.fn (.func 133) [] [.o 1 0])),(8,dI z0.1)]
def Ac1 (x3c0:Aa) (z1:Int×(List Int)):List Res:=[v0_ z1.2,.box 29 (d29 x3c0)]
theorem Auk (x0:List Int) (x1:Int) (x2:Int) (x3c0:Aa) (r:(List Int)×Aa) (h:Vy x0 x1 x2 x3c0=some r):CO 175 [.d (.os 0),.d (I x1),.d (I x2),.d (.fn (.func 133) [] [.o 1 0])] [v0_ x0,.box 29 (d29 x3c0)] (.tup []) [v0_ r.1,.box 29 (d29 r.2)]:=by
 unfold Vy at h
 refine co 53 Tryz.func175 λ C hC=>?_
 refine ws Jt 23 [] [] [] 2 [0,1] (T8 x1 x2 (w64 (x1+1),x0)) (Zh x3c0 (w64 (x1+1),x0)) hC [] ?_
 obtain⟨w0,hm0,hret0,hnext0⟩:=Av h
 clear h
 refine wc w0 (Abo) (Ac2 x3c0) ?_ λ z0 hs0=>?_
 ·refine wb ?_
  refine ww (T8 x1 x2) (Zh x3c0) hm0 λ z0 w0b h hb0 hr0=>?_
  unfold Vx at h
  rcases cB h with⟨h1,h⟩ | ⟨h1,h⟩
  ·refine ws Jt 30 [true] [] [] 2 [0,1] (T7 x1 x2 z0 (z0.1,z0.2)) (Zg x3c0 (z0.1,z0.2)) hC [pq h1] ?_
   obtain⟨w1,hm1,hret1,hnext1⟩:=Av h
   clear h
   refine wc w1 (Abn x1 x2 z0) (Ac1 x3c0) ?_ λ z1 hs1=>?_
   ·refine wb ?_
    refine ww (T7 x1 x2 z0) (Zg x3c0) hm1 λ z1 w1b h hb1 hr1=>?_
    unfold Pi at h
    obtain⟨y8,h9,y10,h11,y12,h13,h⟩:=By h
    refine wn Jt 24 [] [pR pI h9,pN pI h9,pR pI h11,pN pI h11,pv A51 (λ hg=>A4t y8 y10 x3c0 _ (A1 h13 hg))] [] 2 [0,1] [0,1,2,3,8,9,34] hC [] ?_
    rcases cB h with⟨h14,h⟩ | ⟨h14,h⟩
    ·obtain⟨y15,h16,y17,h18,y19,h20,h⟩:=By h
     obtain⟨y21,h22,y23,h24,h⟩:=A9 h
     exact wx w1b (T7 x1 x2 z0) (Zg x3c0) Jt 28 [true] [pr pI h16,pn pI h16,pr pI h18,pn pI h18,pr pI h18,pu pI h18 h20,pr pI h22,pu pI h22 h24] [] 2 [0,1] _ hC [pq h14] (sI h).symm
    ·exact wx w1 (Abn x1 x2 z0) (Ac1 x3c0) Jt 23 [false] [] [] 2 [0,1] (z1.1,z1.2) hC [pq h14] (hb1 _ (sI h).symm)
   ·have h:=hnext1 _ hs1
    exact wx w0b (T8 x1 x2) (Zh x3c0) Jt 23 [] [] [] 2 [0,1] _ hC [] (sI h).symm
  ·exact wx w0 (Abo) (Ac2 x3c0) Jt 26 [false] [] [] 2 [0,1] (z0.1,z0.2) hC [pq h1] (hb0 _ (sI h).symm)
 ·have h:=hnext0 _ hs0
  replace h:=sI h
  subst h
  exact wf Jt 20 [] [] [] 2 [0,1] hC []
theorem Ave:EN 175:=en Tryz.func175
def M9:List Nat:=[0,1,4,5,7,8,9,16]
def Ub (x0:List Int) (n0:Nat) (z0:Unit):St:=[(0,dS 0),(1,.d (.fn (.func 126) [] [.o 1 0])),(4,dI 0),(7,dI (ln x0)),(8,dI (cnt 0 n0))]
def Zl (x0:List Int) (x1c0:Aj) (n0:Nat) (z0:Unit):List Res:=[v0_ x0,.box 62 (d62 x1c0)]
def Abt  (z0:Unit):St:=[(4,dI 0)]
def Ac7 (x0:List Int) (x1c0:Aj) (z0:Unit):List Res:=[v0_ x0,.box 62 (d62 x1c0)]
theorem A4k (x0:List Int) (x1c0:Aj) (r:Int×Aj) (h:yD x0 x1c0=some r):CO 159 [.d (.os 0),.d (.fn (.func 126) [] [.o 1 0])] [v0_ x0,.box 62 (d62 x1c0)] (.d (I r.1)) [v0_ x0,.box 62 (d62 r.2)]:=by
 unfold yD at h
 refine co 19 Tryz.func159 λ C hC=>?_
 refine ws M9 26 [] [pl pI x0] [] 2 [0,1] (Ub x0 0 ()) (Zl x0 x1c0 0 ()) hC [] ?_
 obtain⟨w0,hm0,hret0,hnext0⟩:=Av h
 clear h
 refine wc w0 (Abt) (Ac7 x0 x1c0) ?_ λ z0 hs0=>?_
 ·refine wb ?_
  refine B2 0 0 rfl rfl λ hl0=>?_
  refine wl (Ub x0) (Zl x0 x1c0) hm0 (λ z0 hn0=>?_) λ n0 a0 z0 w0b hi0 hx0 h hb0 hr0=>?_
  ·clear hm0
   exact wx w0 (Abt) (Ac7 x0 x1c0) M9 26 [false] [] [] 2 [0,1] _ hC [pq (A6 hl0)] hn0
  ·unfold Pj at h
   obtain⟨y1,h2,h⟩:=Aw h
   refine wn M9 32 [true] [pr pI (Bd hx0 hl0),pn pI (Bd hx0 hl0),pb Avj (Aup a0 x1c0 _ h2)] [] 2 [0,1] [0,1,4,5,7,8,16] hC [pq (A4 hi0 hl0)] ?_
   rcases cB h with⟨h3,h⟩ | ⟨h3,h⟩
   ·have hq:=hret0 _ (hr0 _ (sI h).symm)
    replace hq:=sI hq
    subst hq
    exact wr M9 24 [true] [] [] 2 [0,1] hC [pq h3]
   ·exact wx w0b (Ub x0 (n0+1)) (Zl x0 x1c0 (n0+1)) M9 25 [false] [] [] 2 [0,1] _ hC [pq h3] (sI h).symm
 ·have h:=hnext0 _ hs0
  replace h:=sI h
  subst h
  exact wr M9 23 [] [] [] 2 [0,1] hC []
theorem A5s:EN 159:=en Tryz.func159
theorem k57 (x0:Aa) (x1:Ab) (x2:Int) (r:Bool) (h:F57 x0 x1 x2=some r):CO 57 [.agg (d29 x0),.agg (d34 x1),.d (I x2)] [] (.d (Bo r)) []:=by
 unfold F57 at h
 refine co 36 Tryz.func57 λ C hC=>?_
 obtain⟨y1,h2,y3,h4,y5,h6,y7,h8,h⟩:=Dd h
 replace h:=sI h
 subst h
 exact wr [0,1,2,3,4,6,7] 27 [] [pr q49 h2,pc e76 (k76 x1 2 x2 _ h4) [],pw e76 (λ hg=>k76 x1 3 y1.A _ (A1 h6 hg)) [],pw e76 (λ hg=>k76 x1 3 y1.B _ (A1 h8 hg)) []] [] 0 [] hC []
theorem e57:EN 57:=en Tryz.func57
theorem Ah3 (x0:A0) (x1:Int) (r:Bool) (h:Jc x0 x1=some r):CO 146 [.d (.ip [.v (.int .i64 x0.An.Al),.s (x0.An.Ad.map q49),.s (x0.An.Ac.map q98),.s (x0.An.Af.map q90),.v (.int .i64 x0.An.Phase),.v (.int .i64 x0.An.Ar),.s (x0.Aq.Ae.map pB),.s (x0.Aq.Ac.map q87),.s (x0.Aq.Am.map pI),.s (x0.Aq.Ai.map q92),.v (.int .i64 x0.time)]),.d (I x1)] [] (.d (Bo r)) []:=by
 unfold Jc at h
 refine co 19 Tryz.func146 λ C hC=>?_
 obtain⟨y1,h2,y3,h4,h⟩:=A9 h
 replace h:=sI h
 subst h
 exact wr [0,1,4] 25 [] [pc e56 (k56 x0.An x1 _ h2) [],pr pB h4] [] 0 [] hC []
theorem Ait:EN 146:=en Tryz.func146
def Ahv:List Nat:=[0,1,2,3,4,6,7,8,32,43]
theorem k52 (x0:Aa) (x1:Ab) (x2:Int) (r:Int×Bool) (h:F52 x0 x1 x2=some r):CO 52 [.agg (d29 x0),.agg (d34 x1),.d (I x2)] [] (.tup [.d (I r.1),.d (Bo r.2)]) []:=by
 unfold F52 at h
 refine co 50 Tryz.func52 λ C hC=>?_
 obtain⟨y1,h2,y3,h4,h⟩:=A9 h
 refine wn Ahv 26 [] [pc e11 (k11 x0 x1 _ h2) [],pL_ [(((y1 != 0) || (decide (x2<0))),false)] q98 x0.Ac,pR q87 h4] [] 0 [0,1] [2,3,4,6,7,32] hC [] ?_
 rcases cB h with⟨h5,h⟩ | ⟨h5,h⟩
 ·replace h:=sI h
  subst h
  exact wr Ahv 24 [true] [] [] 0 [] hC [pq h5]
 ·obtain⟨y6,h7,y8,h9,y10,h11,h⟩:=By h
  refine wn Ahv 28 [false] [pc e49 (k49 x0 2 x2 _ h7) [],pr pI h9,pn pI h9,pr pB h11] [] 0 [0] [3,6,7,8,43] hC [pq h5] ?_
  rcases cB h with⟨h12,h⟩ | ⟨h12,h⟩
  ·replace h:=sI h
   subst h
   exact wr Ahv 24 [true] [] [] 0 [] hC [pq h12]
  ·obtain⟨y13,h14,h⟩:=Aw h
   replace h:=sI h
   subst h
   exact wr Ahv 25 [false] [pr q49 h14] [] 0 [] hC [pq h12]
theorem e52:EN 52:=en Tryz.func52
def Y0:List Nat:=[0,1,2,3,4,6,7,9,24,27,28,29,30,37]
def Agc (y4:(List Int)) (n0:Nat) (z0:Unit):St:=[(3,dO 0 0),(4,dO 1 0),(6,dI 0),(7,dB false),(27,dS 2),(28,dI (ln y4)),(29,dI (cnt 0 n0))]
def Aq8 (x0:Aa) (x1:Ab) (y4:(List Int)) (n0:Nat) (z0:Unit):List Res:=[.box 29 (d29 x0),.box 34 (d34 x1),v0_ y4]
def Atv  (z0:Unit):St:=[(6,dI 0),(7,dB false)]
def Axq  (z0:Unit):List Res:=[]
theorem k13 (x0:Aa) (x1:Ab) (x2:Int) (r:Int×Bool) (h:F13 x0 x1 x2=some r):CO 13 [.agg (d29 x0),.agg (d34 x1),.d (I x2)] [] (.tup [.d (I r.1),.d (Bo r.2)]) []:=by
 unfold F13 at h
 refine co 45 Tryz.func13 λ C hC=>?_
 obtain⟨y1,h2,h⟩:=Aw h
 refine wn Y0 26 [] [pc e11 (k11 x0 x1 _ h2) [],pL_ [(((y1 != 0) || (decide (x2<0))),false)] q90 x0.Af] [] 0 [0,1] [2,3,4,6,7,24] hC [] ?_
 rcases cB h with⟨h3,h⟩ | ⟨h3,h⟩
 ·replace h:=sI h
  subst h
  exact wr Y0 24 [true] [] [] 0 [] hC [pq h3]
 ·obtain⟨y4,h5,h⟩:=Aw h
  refine ws Y0 26 [false] [pc e49 (k49 x0 3 x2 _ h5) [],pl pI y4] [] 0 n3_ (Agc y4 0 ()) (Aq8 x0 x1 y4 0 ()) hC [pq h3] ?_
  obtain⟨w0,hm0,hret0,hnext0⟩:=Av h
  clear h
  refine wc w0 (Atv) (Axq) ?_ λ z0 hs0=>?_
  ·refine wb ?_
   refine B2 27 2 rfl rfl λ hl0=>?_
   refine wl (Agc y4) (Aq8 x0 x1 y4) hm0 (λ z0 hn0=>?_) λ n0 a0 z0 w0b hi0 hx0 h hb0 hr0=>?_
   ·clear hm0
    exact wx w0 (Atv) (Axq) Y0 26 [false] [] [] 0 [] _ hC [pq (A6 hl0)] hn0
   ·unfold yE at h
    obtain⟨y6,h7,h⟩:=Aw h
    rcases cB h with⟨h8,h⟩ | ⟨h8,h⟩
    ·obtain⟨y9,h10,h⟩:=Aw h
     have hq:=hret0 _ (hr0 _ (sI h).symm)
     replace hq:=sI hq
     subst hq
     exact wr Y0 35 [true,true] [pr pI (Bd hx0 hl0),pn pI (Bd hx0 hl0),pr pB h7,pr q49 h10] [] 0 [] hC [pq (A4 hi0 hl0),pq h8]
    ·exact wx w0b (Agc y4 (n0+1)) (Aq8 x0 x1 y4 (n0+1)) Y0 36 [true,false] [pr pI (Bd hx0 hl0),pn pI (Bd hx0 hl0),pr pB h7] [] 0 n3_ _ hC [pq (A4 hi0 hl0),pq h8] (sI h).symm
  ·have h:=hnext0 _ hs0
   replace h:=sI h
   subst h
   exact wr Y0 23 [] [] [] 0 [] hC []
theorem e13:EN 13:=en Tryz.func13
def Ps:List Nat:=[0,1,2,3,5,6,7,29,43,44,45,46,56,57,58,59,71]
def Af0 (x0:Aa) (n0:Nat) (z0:Bool):St:=[(1,dO 0 0),(2,dI 0),(3,dB z0),(43,.d (DS q98 x0.Ac)),(44,dI (ln x0.Ac)),(45,dI (cnt 0 n0))]
def Aqw (x0:Aa) (n0:Nat) (z0:Bool):List Res:=[.box 29 (d29 x0)]
def Ata  (z0:Bool):St:=[(1,dO 0 0),(2,dI 0),(3,dB z0)]
def Aw5 (x0:Aa) (z0:Bool):List Res:=[.box 29 (d29 x0)]
def Afz (x0:Aa) (n1:Nat) (z1:Bool):St:=[(2,dI 0),(3,dB z1),(56,.d (DS q90 x0.Af)),(57,dI (ln x0.Af)),(58,dI (cnt 0 n1))]
def Aqv  (n1:Nat) (z1:Bool):List Res:=[]
def As9  (z1:Bool):St:=[(2,dI 0),(3,dB z1)]
def Aw4  (z1:Bool):List Res:=[]
theorem k51 (x0:Aa) (r:Int) (h:F51 x0=some r):CO 51 [.agg (d29 x0)] [] (.d (I r)) []:=by
 unfold F51 at h
 refine co 72 Tryz.func51 λ C hC=>?_
 refine wn Ps 26 [] [pc e93 (k93 x0.Al 1 6 _ rfl) [],pL_ [(!(F93 x0.Al 1 6),false)] q49 x0.Ad,pL_ [(((!(F93 x0.Al 1 6)) || (decide ((ln x0.Ad)>24))),false)] q98 x0.Ac,pL_ [((((!(F93 x0.Al 1 6)) || (decide ((ln x0.Ad)>24))) || (decide ((ln x0.Ac)>8))),false)] q90 x0.Af] [] 0 [0] [1,2,29] hC [] ?_
 rcases cB h with⟨h1,h⟩ | ⟨h1,h⟩
 ·replace h:=sI h
  subst h
  exact wr Ps 24 [true] [] [] 0 [] hC [pq h1]
 ·obtain⟨y2,h3,h⟩:=Aw h
  refine ws Ps 28 [false] [pc e99 (k99 x0 _ h3) [],⟨.when [(y2,true)] (.call 93 [dI x0.Phase,dI 0,dI 1800] [] (dB (F93 x0.Phase 0 1800)) [] []),λ hg=>⟨e93,(k93 x0.Phase 0 1800 _ rfl)⟩⟩,⟨.when [((y2&&(F93 x0.Phase 0 1800)),true)] (.call 93 [dI x0.Ar,dI 0,dI 6000] [] (dB (F93 x0.Ar 0 6000)) [] []),λ hg=>⟨e93,(k93 x0.Ar 0 6000 _ rfl)⟩⟩,pl q98 x0.Ac] [] 0 [0] (Af0 x0 0 ((y2&&(F93 x0.Phase 0 1800))&&(F93 x0.Ar 0 6000))) (Aqw x0 0 ((y2&&(F93 x0.Phase 0 1800))&&(F93 x0.Ar 0 6000))) hC [pq h1] ?_
  obtain⟨w0,hm0,hret0,hnext0⟩:=Av h
  clear h
  refine wc w0 (Ata) (Aw5 x0) ?_ λ z0 hs0=>?_
  ·refine wb ?_
   refine Bq 43 rfl λ hl0=>?_
   refine wl (Af0 x0) (Aqw x0) hm0 (λ z0 hn0=>?_) λ n0 a0 z0 w0b hi0 hx0 h hb0 hr0=>?_
   ·clear hm0
    exact wx w0 (Ata) (Aw5 x0) Ps 26 [false] [] [] 0 [0] _ hC [pq (A6 hl0)] hn0
   ·unfold Ax2 at h
    exact wx w0b (Af0 x0 (n0+1)) (Aqw x0 (n0+1)) Ps 33 [true] [pt hx0 hl0,⟨.when [(z0,true)] (.call 100 [.agg (d98 a0)] [] (dB (Aba a0)) [] []),λ hg=>⟨A9w,(A87 a0 _ rfl)⟩⟩] [] 0 [0] _ hC [pq (A4 hi0 hl0)] (sI h).symm
  ·have h:=hnext0 _ hs0
   refine ws Ps 24 [] [pl q90 x0.Af] [] 0 [] (Afz x0 0 z0) (Aqv 0 z0) hC [] ?_
   obtain⟨w1,hm1,hret1,hnext1⟩:=Av h
   clear h
   refine wc w1 (As9) (Aw4) ?_ λ z1 hs1=>?_
   ·refine wb ?_
    refine Bq 56 rfl λ hl1=>?_
    refine wl (Afz x0) (Aqv) hm1 (λ z1 hn1=>?_) λ n1 a1 z1 w1b hi1 hx1 h hb1 hr1=>?_
    ·clear hm1
     exact wx w1 (As9) (Aw4) Ps 26 [false] [] [] 0 [] _ hC [pq (A6 hl1)] hn1
    ·unfold Akz at h
     obtain⟨y4,h5,h⟩:=Aw h
     exact wx w1b (Afz x0 (n1+1)) (Aqv (n1+1)) Ps 33 [true] [pt hx1 hl1,pw A9v (λ hg=>A86 a1 (cnt 0 n1) _ (A1 h5 hg)) []] [] 0 [] _ hC [pq (A4 hi1 hl1)] (sI h).symm
   ·have h:=hnext1 _ hs1
    rcases cB h with⟨h6,h⟩ | ⟨h6,h⟩
    ·replace h:=sI h
     subst h
     exact wr Ps 27 [true] [] [] 0 [] hC [pq h6]
    ·replace h:=sI h
     subst h
     exact wr Ps 28 [false] [] [] 0 [] hC [pq h6]
theorem e51:EN 51:=en Tryz.func51
theorem A7h (x0:List Ag) (r:Bool) (h:Xq x0=some r):CO 90 [.d (DS q87 x0),.d (.fn (.func 91) [] [])] [] (.d (Bo r)) []:=by
 unfold Xq at h
 refine co 9 Tryz.func90 λ C hC=>?_
 obtain⟨y1,h2,h⟩:=Aw h
 replace h:=sI h
 subst h
 exact wr [0,1,4] 25 [] [pc A50 (A4s x0 _ h2) []] [] 0 [] hC []
theorem A7x:EN 90:=en Tryz.func90
def Qi:List Nat:=[0,1,2,3,4,5,7,12,20]
theorem A42 (x0:Ax) (x1:Ah) (r:Bool×Ax) (h:We x0 x1=some r):CO 121 [.d (.o 0 0),.agg (d49 x1)] (.box 147 (zb x0.An [.os 1,.os 2,.os 3,.os 4,.os 5])::zp x0.Aq [v2_ x0.acts]) (.d (Bo r.1)) (.box 147 (zb r.2.An [.os 1,.os 2,.os 3,.os 4,.os 5])::zp r.2.Aq [v2_ r.2.acts]):=by
 unfold We at h
 refine co 45 Tryz.func121 λ C hC=>?_
 obtain⟨y1,h2,h⟩:=Aw h
 refine wn Qi 29 [] [pc uF (qU 3 x1.A x0 _ h2) [6,0,1,2,3,4,5]] [] 6 n8_ [2,3,4,5,7] hC [] ?_
 rcases cB h with⟨h3,h⟩ | ⟨h3,h⟩
 ·replace h:=sI h
  subst h
  exact wr Qi 24 [true] [] [] 6 n6_ hC [pq h3]
 ·rcases cB h with⟨h4,h⟩ | ⟨h4,h⟩
  ·obtain⟨y5,h6,h⟩:=Aw h
   replace h:=sI h
   subst h
   exact wr Qi 27 [false,true] [pc uF (qU 3 x1.B y1.2 _ h6) [6,0,1,2,3,4,5]] [] 6 n6_ hC [pq h3,pq h4]
  ·rcases cB h with⟨h7,h⟩ | ⟨h7,h⟩
   ·obtain⟨y8,h9,y10,h11,h⟩:=A9 h
    replace h:=sI h
    subst h
    exact wr Qi 30 [false,false,true] [pc uF (qU 1 x1.B y1.2 _ h9) [6,0,1,2,3,4,5],pR q87 h11,pN q87 h11] [] 6 n6_ hC [pq h3,pq h4,pq h7]
   ·obtain⟨y12,h13,h⟩:=Aw h
    replace h:=sI h
    subst h
    exact wr Qi 32 [false,false,false] [pc uF (qU 4 x1.B y1.2 _ h13) [6,0,1,2,3,4,5]] [] 6 n6_ hC [pq h3,pq h4,pq h7]
theorem A6a:EN 121:=en Tryz.func121
def M8:List Nat:=[0,1,2,6,7,8,9,13,30,35,54]
def Ua (x1:Int) (z0:Zf):St:=[(0,dS 0),(1,dI x1),(2,.d (.fn (.func 133) [] [.o 1 0])),(6,dI 20),(7,dI z0.1),(8,dI z0.2.1)]
def Zk  (z0:Zf):List Res:=[v0_ z0.2.2.1,.box 29 [I (g3_ z0),DS q49 (g4_ z0),DS q98 (g5_ z0),DS q90 (g6_ z0),I (g7_ z0),I (Ah8 z0)]]
def Abs (x1:Int) (z0:Zf):St:=[(0,dS 0),(1,dI x1),(2,.d (.fn (.func 133) [] [.o 1 0])),(6,dI 20),(7,dI z0.1),(8,dI z0.2.1)]
def Ac6  (z0:Zf):List Res:=[v0_ z0.2.2.1,.box 29 [I (g3_ z0),DS q49 (g4_ z0),DS q98 (g5_ z0),DS q90 (g6_ z0),I (g7_ z0),I (Ah8 z0)]]
def Abh (x1:Int) (z0:Zf) (z1:Unit):St:=[(0,dS 0),(1,dI x1),(2,.d (.fn (.func 133) [] [.o 1 0])),(6,dI 20),(7,dI z0.1),(8,dI z0.2.1)]
def Ajx (y4:(List Int)×Aa) (z1:Unit):List Res:=[v0_ y4.1,.box 29 (d29 y4.2)]
def Abr  (z1:Unit):St:=[]
def Ac5 (y4:(List Int)×Aa) (z1:Unit):List Res:=[v0_ y4.1,.box 29 (d29 y4.2)]
def A8f (x1:Int) (z2:Unit):St:=[(0,dS 0),(1,dI x1),(2,.d (.fn (.func 133) [] [.o 1 0])),(6,dI 20),(7,dI 0),(8,dI 40)]
def A9z (y4:(List Int)×Aa) (z2:Unit):List Res:=[v0_ y4.1,.box 29 (d29 y4.2)]
def A8g (x1:Int) (z2:Unit):St:=[(0,dS 0),(1,dI x1),(2,.d (.fn (.func 133) [] [.o 1 0])),(6,dI 20),(7,dI 0),(8,dI 40)]
def A8h (y4:(List Int)×Aa) (z2:Unit):List Res:=[v0_ y4.1,.box 29 (d29 y4.2)]
theorem A4i (x0:List Int) (x1:Int) (x2c0:Aa) (r:(List Int)×Aa) (h:yB x0 x1 x2c0=some r):CO 165 [.d (.os 0),.d (I x1),.d (.fn (.func 133) [] [.o 1 0])] [v0_ x0,.box 29 (d29 x2c0)] (.tup []) [v0_ r.1,.box 29 (d29 r.2)]:=by
 unfold yB at h
 refine co 63 Tryz.func165 λ C hC=>?_
 refine ws M8 26 [] [] [] 2 [0,1] (Ua x1 (0,20,x0,x2c0.Al,x2c0.Ad,x2c0.Ac,x2c0.Af,x2c0.Phase,x2c0.Ar)) (Zk (0,20,x0,x2c0.Al,x2c0.Ad,x2c0.Ac,x2c0.Af,x2c0.Phase,x2c0.Ar)) hC [] ?_
 obtain⟨w0,hm0,hret0,hnext0⟩:=Av h
 clear h
 refine wc w0 (Abs x1) (Ac6) ?_ λ z0 hs0=>?_
 ·refine wb ?_
  refine ww (Ua x1) (Zk) hm0 λ z0 w0b h hb0 hr0=>?_
  unfold V1 at h
  rcases cB h with⟨h1,h⟩ | ⟨h1,h⟩
  ·obtain⟨y2,h3,h⟩:=Aw h
   exact wx w0b (Ua x1) (Zk) M8 33 [true] [pc Ave (Auk z0.2.2.1 z0.1 z0.2.1 (⟨(g3_ z0),(g4_ z0),(g5_ z0),(g6_ z0),(g7_ z0),(Ah8 z0)⟩:Aa) _ h3) [0,1]] [] 2 [0,1] _ hC [pq h1] (sI h).symm
  ·exact wx w0 (Abs x1) (Ac6) M8 26 [false] [] [] 2 [0,1] (z0.1,z0.2.1,z0.2.2.1,(g3_ z0),(g4_ z0),(g5_ z0),(g6_ z0),(g7_ z0),(Ah8 z0)) hC [pq h1] (hb0 _ (sI h).symm)
 ·have h:=hnext0 _ hs0
  obtain⟨y4,h5,h⟩:=Aw h
  refine ws M8 23 [] [pc Ave (Auk z0.2.2.1 z0.1 x1 (⟨(g3_ z0),(g4_ z0),(g5_ z0),(g6_ z0),(g7_ z0),(Ah8 z0)⟩:Aa) _ h5) [0,1]] [] 2 [0,1] (Abh x1 z0 ()) (Ajx y4 ()) hC [] ?_
  obtain⟨w1,hm1,hret1,hnext1⟩:=Av h
  clear h
  refine wc w1 (Abr) (Ac5 y4) ?_ λ z1 hs1=>?_
  ·refine wb ?_
   refine ww (Abh x1 z0) (Ajx y4) hm1 λ z1 w1b h hb1 hr1=>?_
   unfold V0 at h
   rcases cB h with⟨h6,h⟩ | ⟨h6,h⟩
   ·cases h
   ·exact wx w1 (Abr) (Ac5 y4) M8 26 [false] [] [] 2 [0,1] () hC [pq h6] (hb1 _ (sI h).symm)
  ·have h:=hnext1 _ hs1
   replace h:=sI h
   subst h
   exact wf M8 20 [] [] [] 2 [0,1] hC []
theorem A5q:EN 165:=en Tryz.func165
def Ju:List Nat:=[0,1,4,5,6,7,12,19,29]
def Oo  (z0:Int×Int×(List Int)):St:=[(0,dS 0),(1,.d (.fn (.func 126) [] [.o 1 0])),(4,.d (DS pI [])),(5,dI z0.1),(6,dI z0.2.1)]
def Ta (y1:Int×Aj) (z0:Int×Int×(List Int)):List Res:=[v0_ z0.2.2,.box 62 (d62 y1.2)]
def Ab0  (z0:Int×Int×(List Int)):St:=[(0,dS 0),(4,.d (DS pI [])),(5,dI z0.1)]
def Ade (y1:Int×Aj) (z0:Int×Int×(List Int)):List Res:=[v0_ z0.2.2,.box 62 (d62 y1.2)]
theorem A4x (x0:List Int) (x1c0:Aj) (r:(List Int)×Aj) (h:Wc x0 x1c0=some r):CO 125 [.d (.os 0),.d (.fn (.func 126) [] [.o 1 0])] [.sl 3 1 (x0.map pI),.box 62 (d62 x1c0)] (.d (.os 2)) [.non,.box 62 (d62 r.2),.sl 3 1 (r.1.map pI)]:=by
 unfold Wc at h
 refine co 42 Tryz.func125 λ C hC=>?_
 obtain⟨y1,h2,h⟩:=Aw h
 refine wn Ju 28 [] [pc A5s (A4k x0 x1c0 _ h2) [0,1]] [] 2 [0,1] [0,1,4,5,12] hC [] ?_
 rcases cB h with⟨h3,h⟩ | ⟨h3,h⟩
 ·replace h:=sI h
  subst h
  exact wr Ju 24 [true] [] [.mv 0] 2 n3_ hC [pq h3]
 ·refine ws Ju 26 [false] [] [] 2 [0,1] (Oo (y1.1,w64 (y1.1+1),x0)) (Ta y1 (y1.1,w64 (y1.1+1),x0)) hC [pq h3] ?_
  obtain⟨w0,hm0,hret0,hnext0⟩:=Av h
  clear h
  refine wc w0 (Ab0) (Ade y1) ?_ λ z0 hs0=>?_
  ·refine wb ?_
   refine ww (Oo) (Ta y1) hm0 λ z0 w0b h hb0 hr0=>?_
   unfold Wb at h
   rcases cB h with⟨h4,h⟩ | ⟨h4,h⟩
   ·obtain⟨y5,h6,y7,h8,h⟩:=A9 h
    refine wn Ju 32 [true] [pl pI z0.2.2,pr pI h6,pn pI h6,pb Avj (Aup y5 y1.2 _ h8)] [] 2 [0,1] [0,1,4,5,6,7,29] hC [pq h4] ?_
    rcases cB h with⟨h9,h⟩ | ⟨h9,h⟩
    ·obtain⟨y10,h11,y12,h13,h⟩:=A9 h
     exact wx w0b (Oo) (Ta y1) Ju 27 [true] [pr pI h11,pu pI h11 h13] [] 2 [0,1] _ hC [pq h9] (sI h).symm
    ·exact wx w0b (Oo) (Ta y1) Ju 25 [false] [] [] 2 [0,1] _ hC [pq h9] (sI h).symm
   ·exact wx w0 (Ab0) (Ade y1) Ju 26 [false] [pl pI z0.2.2] [] 2 [0,1] (z0.1,z0.2.1,z0.2.2) hC [pq h4] (hb0 _ (sI h).symm)
  ·have h:=hnext0 _ hs0
   obtain⟨u15,h14,u17,h16,h⟩:=A9 h
   replace h:=sI h
   subst h
   (rw [List.map_take];exact uY (bs:=[]) Jg Ju 25 [] [.bnd (z0.2.2.map pI).length z0.1 (((z0.2.2.map pI).length:Nat):Int) (ln z0.2.2),.eqr ((z0.2.2.map pI).take (Int.toNat z0.1)++(List.replicate ((Int.toNat (ln z0.2.2))-(Int.toNat z0.1)) (pI 0)++(z0.2.2.map pI).drop ((Int.toNat z0.1)+((Int.toNat (ln z0.2.2))-(Int.toNat z0.1))))) ((Hf z0.2.2 (Int.toNat z0.1) ((Int.toNat (ln z0.2.2))-(Int.toNat z0.1)) 0).map pI),.bnd ((Hf z0.2.2 (Int.toNat z0.1) ((Int.toNat (ln z0.2.2))-(Int.toNat z0.1)) 0).map pI).length 0 z0.1 z0.1] [.trunc 4] [.tmp 4] 2 n3_ rfl hC ⟨Gd (by simp) (by simp) h14,Aah pI rfl,Gd (by simp) rfl h16,trivial⟩ trivial (by kernel_rfl))
theorem A55:EN 125:=en Tryz.func125
theorem k55 (x0:Aa) (x1:Ab) (x2:Int) (r:Bool) (h:F55 x0 x1 x2=some r):CO 55 [.agg (d29 x0),.agg (d34 x1),.d (I x2)] [] (.d (Bo r)) []:=by
 unfold F55 at h
 refine co 28 Tryz.func55 λ C hC=>?_
 obtain⟨y1,h2,y3,h4,y5,h6,y7,h8,h⟩:=Dd h
 replace h:=sI h
 subst h
 exact wr [0,1,2,3,4,6] 25 [] [pc e56 (k56 x0 x2 _ h2) [],pc e57 (k57 x0 x1 y1 _ h4) [],pw e76 (λ hg=>k76 x1 1 x2 _ (A1 h6 hg)) [],pR q87 h8] [] 0 [] hC []
theorem e55:EN 55:=en Tryz.func55
theorem A5a (x0:A0) (x1:Int) (r:Int×A0) (h:Jd x0 x1=some r):CO 112 [.d (.o 0 0),.d (I x1)] (.box 107 (zb x0.An [.os 1,.os 2,.os 3,.os 4,I x0.time])::zp x0.Aq []) (.d (I r.1)) (.box 107 (zb r.2.An [.os 1,.os 2,.os 3,.os 4,I r.2.time])::zp r.2.Aq []):=by
 unfold Jd at h
 refine co 53 Tryz.func112 λ C hC=>?_
 obtain⟨y1,h2,y3,h4,h⟩:=A9 h
 refine wn [0,1,4,5,23,43] 26 [] [pr q87 h2,pn q87 h2,pv e76 (λ hg=>k76 x0.Aq 1 x1 _ (A1 h4 hg))] [] 5 n5_ [0,1,4,23] hC [] ?_
 rcases cB h with⟨h5,h⟩ | ⟨h5,h⟩
 ·replace h:=sI h
  subst h
  exact wr [0,1,4,5,23,43] 24 [true] [] [] 5 n5_ hC [pq h5]
 ·obtain⟨y6,h7,y8,h9,h⟩:=A9 h
  refine wn [0,1,4,5,23,43] 28 [false] [pr q98 h7,pv Ait (λ hg=>Ah3 x0 x1 _ (A1 h9 hg))] [] 5 n6_ [0,1,4,5,43] hC [pq h5] ?_
  rcases cB h with⟨h10,h⟩ | ⟨h10,h⟩
  ·obtain⟨y11,h12,h⟩:=Aw h
   replace h:=sI h
   subst h
   exact wr [0,1,4,5,23,43] 27 [true] [pr q87 h2,pu q87 h2 h12] [] 5 n5_ hC [pq h10]
  ·obtain⟨y13,h14,h⟩:=Aw h
   replace h:=sI h
   subst h
   exact wr [0,1,4,5,23,43] 27 [false] [pr q87 h2,pu q87 h2 h14] [] 5 n5_ hC [pq h10]
theorem A6i:EN 112:=en Tryz.func112
def K6:List Nat:=[0,1,2,3,4,6,7,8,9,10,11,12,13,14,28,37,38,39,54,64,65,66,81]
def jP (x0:Aa) (z0:Int×(List Int)):St:=[(3,dO 0 0),(4,dO 1 0),(6,dO 2 0),(7,dB false),(8,dO 7 0),(37,dI (ln x0.Ac)),(38,dI z0.1)]
def Aew (x0:Aa) (x1:Ab) (y4:(List Int)) (z0:Int×(List Int)):List Res:=[.box 29 (d29 x0),.box 34 (d34 x1),.box 62 [.os 3,.os 4,.os 5],v0_ ([]:List Int),v0_ ([]:List Int),v0_ ([]:List Int),v0_ y4,.box 62 [.os 6,.os 8,.os 9],v0_ z0.2,v0_ ([]:List Int)]
def Atc  (z0:Int×(List Int)):St:=[(3,dO 0 0),(4,dO 1 0),(6,dO 2 0),(7,dB false),(8,dO 7 0)]
def Aw7 (x0:Aa) (x1:Ab) (y4:(List Int)) (z0:Int×(List Int)):List Res:=[.box 29 (d29 x0),.box 34 (d34 x1),.box 62 [.os 3,.os 4,.os 5],v0_ ([]:List Int),v0_ ([]:List Int),v0_ ([]:List Int),v0_ y4,.box 62 [.os 6,.os 8,.os 9],v0_ z0.2,v0_ ([]:List Int)]
def jO (x0:Aa) (z1:Int×(List Int)):St:=[(3,dO 0 0),(4,dO 1 0),(6,dO 2 0),(7,dB false),(8,dO 7 0),(64,dI (ln x0.Af)),(65,dI z1.1)]
def Aev (x0:Aa) (x1:Ab) (y4:(List Int)) (z0:Int×(List Int)) (z1:Int×(List Int)):List Res:=[.box 29 (d29 x0),.box 34 (d34 x1),.box 62 [.os 3,.os 4,.os 5],v0_ ([]:List Int),v0_ ([]:List Int),v0_ ([]:List Int),v0_ y4,.box 62 [.os 6,.os 8,.os 9],v0_ z0.2,v0_ z1.2]
def Atb  (z1:Int×(List Int)):St:=[(6,dO 0 0),(7,dB false),(8,dO 5 0)]
def Aw6 (y4:(List Int)) (z0:Int×(List Int)) (z1:Int×(List Int)):List Res:=[.box 62 [.os 1,.os 2,.os 3],v0_ ([]:List Int),v0_ ([]:List Int),v0_ ([]:List Int),v0_ y4,.box 62 [.os 4,.os 6,.os 7],v0_ z0.2,v0_ z1.2]
theorem k50 (x0:Aa) (x1:Ab) (x2:Int) (r:Aj×Bool) (h:F50 x0 x1 x2=some r):CO 50 [.agg (d29 x0),.agg (d34 x1),.d (I x2)] [] (.tup [.agg [.os 0,.os 1,.os 2],.d (Bo r.2)]) [v0_ r.1.Al,v0_ r.1.Ac,v0_ r.1.Af]:=by
 unfold F50 at h
 refine co 90 Tryz.func50 λ C hC=>?_
 obtain⟨y1,h2,h⟩:=Aw h
 refine wn K6 26 [] [pc e11 (k11 x0 x1 _ h2) []] [.ownb 2 0 3 1,.ownb 2 1 3 1,.ownb 2 2 3 1] 0 n6_ [2,3,4,6,7,28] hC [] ?_
 rcases cB h with⟨h3,h⟩ | ⟨h3,h⟩
 ·replace h:=sI h
  subst h
  exact wr K6 24 [true] [] [.ownb 2 0 3 1,.ownb 2 1 3 1,.ownb 2 2 3 1] 0 [6,7,8] hC [pq h3]
 ·obtain⟨y4,h5,h⟩:=Aw h
  refine ws K6 28 [false] [pc e98 (k98 x0 x1 x2 _ h5) [],pl q98 x0.Ac] [.ownb 7 1 3 1,.ownb 7 2 3 1] 0 Ia (jP x0 (0,([]:List Int))) (Aew x0 x1 y4 (0,([]:List Int))) hC [pq h3] ?_
  obtain⟨w0,hm0,hret0,hnext0⟩:=Av h
  clear h
  refine wc w0 (Atc) (Aw7 x0 x1 y4) ?_ λ z0 hs0=>?_
  ·refine wb ?_
   refine ww (jP x0) (Aew x0 x1 y4) hm0 λ z0 w0b h hb0 hr0=>?_
   unfold Ak1 at h
   rcases cB h with⟨h6,h⟩ | ⟨h6,h⟩
   ·obtain⟨y7,h8,y9,h10,h⟩:=A9 h
    refine wn K6 34 [true] [pc e52 (k52 x0 x1 z0.1 _ h8) [],pv e53 (λ hg=>k53 y4 y7.1 _ (A1 h10 hg))] [] 0 Ia [3,4,6,7,8,9,37,38,54] hC [pq h6] ?_
    rcases cB h with⟨h11,h⟩ | ⟨h11,h⟩
    ·obtain⟨y12,h13,h⟩:=Aw h
     exact wx w0b (jP x0) (Aew x0 x1 y4) K6 25 [true] [pa pI 1 h13] [] 0 [0,1,2,3,4,5,6,7,10,9] _ hC [pq h11] (sI h).symm
    ·exact wx w0b (jP x0) (Aew x0 x1 y4) K6 25 [false] [] [] 0 Ia _ hC [pq h11] (sI h).symm
   ·exact wx w0 (Atc) (Aw7 x0 x1 y4) K6 26 [false] [] [] 0 Ia (z0.1,z0.2) hC [pq h6] (hb0 _ (sI h).symm)
  ·have h:=hnext0 _ hs0
   refine ws K6 24 [] [pl q90 x0.Af] [] 0 Ia (jO x0 (0,([]:List Int))) (Aev x0 x1 y4 z0 (0,([]:List Int))) hC [] ?_
   obtain⟨w1,hm1,hret1,hnext1⟩:=Av h
   clear h
   refine wc w1 (Atb) (Aw6 y4 z0) ?_ λ z1 hs1=>?_
   ·refine wb ?_
    refine ww (jO x0) (Aev x0 x1 y4 z0) hm1 λ z1 w1b h hb1 hr1=>?_
    unfold Ak0 at h
    rcases cB h with⟨h14,h⟩ | ⟨h14,h⟩
    ·obtain⟨y15,h16,y17,h18,h⟩:=A9 h
     refine wn K6 34 [true] [pc e13 (k13 x0 x1 z1.1 _ h16) [],pv e53 (λ hg=>k53 y4 y15.1 _ (A1 h18 hg))] [] 0 Ia [3,4,6,7,8,12,64,65,81] hC [pq h14] ?_
     rcases cB h with⟨h19,h⟩ | ⟨h19,h⟩
     ·obtain⟨y20,h21,h⟩:=Aw h
      exact wx w1b (jO x0) (Aev x0 x1 y4 z0) K6 25 [true] [pa pI 1 h21] [] 0 [0,1,2,3,4,5,6,7,8,10] _ hC [pq h19] (sI h).symm
     ·exact wx w1b (jO x0) (Aev x0 x1 y4 z0) K6 25 [false] [] [] 0 Ia _ hC [pq h19] (sI h).symm
    ·exact wx w1 (Atb) (Aw6 y4 z0) K6 26 [false] [] [] 0 [2,3,4,5,6,7,8,9] (z1.1,z1.2) hC [pq h14] (hb1 _ (sI h).symm)
   ·have h:=hnext1 _ hs1
    replace h:=sI h
    subst h
    exact wr K6 23 [] [] [] 0 [4,6,7] hC []
theorem e50:EN 50:=en Tryz.func50
def U1:List Nat:=[0,1,2,3,4,5,6,7,8,12,38,50,51,52,53,77]
def Af1 (x1:Ab) (n0:Nat) (z0:Bool):St:=[(2,dO 0 0),(3,dO 1 0),(4,dI 0),(6,dB z0),(50,.d (DS pI x1.Am)),(51,dI (ln x1.Am)),(52,dI (cnt 0 n0))]
def Aqx (x0:Aa) (x1:Ab) (n0:Nat) (z0:Bool):List Res:=[.box 29 (d29 x0),.box 34 (d34 x1)]
def Ate  (z0:Bool):St:=[(4,dI 0),(6,dB z0)]
def Aw9  (z0:Bool):List Res:=[]
theorem k44 (x0:Aa) (x1:Ab) (r:Int) (h:F44 x0 x1=some r):CO 44 [.agg (d29 x0),.agg (d34 x1)] [] (.d (I r)) []:=by
 unfold F44 at h
 refine co 78 Tryz.func44 λ C hC=>?_
 obtain⟨y1,h2,h⟩:=Aw h
 rcases cB h with⟨h3,h⟩ | ⟨h3,h⟩
 ·replace h:=sI h
  subst h
  exact wr U1 31 [true] [pc e51 (k51 x0 _ h2) []] [] 0 [] hC [pq h3]
 ·refine wn U1 33 [false] [pc e51 (k51 x0 _ h2) [],pl pB x1.Ae,pl q49 x0.Ad,pL_ [(((ln x1.Ae) != (ln x0.Ad)),false)] q87 x1.Ac,pL_ [(((ln x1.Ae) != (ln x0.Ad)),false)] q98 x0.Ac,pL_ [((((ln x1.Ae) != (ln x0.Ad)) || ((ln x1.Ac) != (ln x0.Ac))),false)] pI x1.Am,pL_ [((((ln x1.Ae) != (ln x0.Ad)) || ((ln x1.Ac) != (ln x0.Ac))),false)] q90 x0.Af] [] 0 [0,1] [2,3,4,38] hC [pq h3] ?_
  rcases cB h with⟨h4,h⟩ | ⟨h4,h⟩
  ·replace h:=sI h
   subst h
   exact wr U1 24 [true] [] [] 0 [] hC [pq h4]
  ·obtain⟨y5,h6,y7,h8,h⟩:=A9 h
   refine ws U1 28 [false] [pc e89 (k89 x0 x1.Ai _ h6) [],pw A7x (λ hg=>A7h x1.Ac _ (A1 h8 hg)) [],pl pI x1.Am] [] 0 [0,1] (Af1 x1 0 (y5&&(!y7))) (Aqx x0 x1 0 (y5&&(!y7))) hC [pq h4] ?_
   obtain⟨w0,hm0,hret0,hnext0⟩:=Av h
   clear h
   refine wc w0 (Ate) (Aw9) ?_ λ z0 hs0=>?_
   ·refine wb ?_
    refine Bq 50 rfl λ hl0=>?_
    refine wl (Af1 x1) (Aqx x0 x1) hm0 (λ z0 hn0=>?_) λ n0 a0 z0 w0b hi0 hx0 h hb0 hr0=>?_
    ·clear hm0
     exact wx w0 (Ate) (Aw9) U1 26 [false] [] [] 0 [] _ hC [pq (A6 hl0)] hn0
    ·unfold Ak3 at h
     obtain⟨y9,h10,y11,h12,h⟩:=A9 h
     exact wx w0b (Af1 x1 (n0+1)) (Aqx x0 x1 (n0+1)) U1 33 [true] [pt hx0 hl0,pR q90 h10,⟨.when [(z0,true)] (.call 93 [dI a0,dI 0,dI y9.Load] [] (dB (F93 a0 0 y9.Load)) [] []),λ hg=>⟨e93,(k93 a0 0 y9.Load _ rfl)⟩⟩,pw e94 (λ hg=>k94 x0 x1 (cnt 0 n0) _ (A1 h12 hg)) []] [] 0 [0,1] _ hC [pq (A4 hi0 hl0)] (sI h).symm
   ·have h:=hnext0 _ hs0
    rcases cB h with⟨h13,h⟩ | ⟨h13,h⟩
    ·replace h:=sI h
     subst h
     exact wr U1 27 [true] [] [] 0 [] hC [pq h13]
    ·replace h:=sI h
     subst h
     exact wr U1 28 [false] [] [] 0 [] hC [pq h13]
theorem e44:EN 44:=en Tryz.func44
theorem A49 (x0:A0) (x1:Int) (r:Int×A0) (h:Oi x0 x1=some r):CO 113 [.d (.o 0 0),.d (I x1)] (.box 107 (zb x0.An [.os 1,.os 2,.os 3,.os 4,I x0.time])::zp x0.Aq []) (.d (I r.1)) (.box 107 (zb r.2.An [.os 1,.os 2,.os 3,.os 4,I r.2.time])::zp r.2.Aq []):=by
 unfold Oi at h
 refine co 34 Tryz.func113 λ C hC=>?_
 obtain⟨y1,h2,y3,h4,h⟩:=A9 h
 refine wn [0,1,4,5,30] 28 [] [pr q87 h2,pn q87 h2,⟨.when [((y1.State != 1),true)] (.row (x0.Aq.Ac.map q87) (((Int.toNat x1):Nat):Int) (q87 y1)),λ hg=>Ku h2⟩,pv Ait (λ hg=>Ah3 x0 x1 _ (A1 h4 hg))] [] 5 n5_ [4,5,30] hC [] ?_
 rcases cB h with⟨h5,h⟩ | ⟨h5,h⟩
 ·replace h:=sI h
  subst h
  exact wr [0,1,4,5,30] 24 [true] [] [] 5 n5_ hC [pq h5]
 ·obtain⟨y6,h7,h⟩:=Aw h
  replace h:=sI h
  subst h
  exact wr [0,1,4,5,30] 27 [false] [pu q87 h2 h7] [] 5 n5_ hC [pq h5]
theorem A6h:EN 113:=en Tryz.func113
def Is:List Nat:=[0,1,4,5,6,8,13,14,15,16,32,38,39,40,41]
def Ow (x0:Ax) (n0:Nat) (z0:Sg8):St:=[(0,dO 0 0),(1,.d (.fn (.func 121) [.o 0 0] [])),(4,dS 6),(13,.d (DS q49 x0.An.Ad)),(14,dI (ln x0.An.Ad)),(15,dI (cnt 0 n0))]
def Tf  (n0:Nat) (z0:Sg8):List Res:=[.box 147 [I z0.1,DS q49 z0.2.1,DS q98 z0.2.2.1,DS q90 (g3_ z0),I (g4_ z0),I (g5_ z0),.os 7,.os 8,.os 9,.os 10,.os 11],.non,.non,.non,.non,.non,v0_ (g6_ z0),v1_ (g7_ z0),v4_ (g8_ z0),v0_ (g9_ z0),v3_ (Ct z0),v2_ (Dc z0)]
def Ab9  (z0:Sg8):St:=[(0,dO 0 0),(4,dS 6)]
def Ado  (z0:Sg8):List Res:=[.box 147 [I z0.1,DS q49 z0.2.1,DS q98 z0.2.2.1,DS q90 (g3_ z0),I (g4_ z0),I (g5_ z0),.os 7,.os 8,.os 9,.os 10,.os 11],.non,.non,.non,.non,.non,v0_ (g6_ z0),v1_ (g7_ z0),v4_ (g8_ z0),v0_ (g9_ z0),v3_ (Ct z0),v2_ (Dc z0)]
def Uh (z0:Sg8) (n1:Nat) (z1:Sg7):St:=[(0,dO 0 0),(38,dS 6),(39,dI (ln (g6_ z0))),(40,dI (cnt 0 n1))]
def Zr (z0:Sg8) (n1:Nat) (z1:Sg7):List Res:=[.box 147 [I z1.1,DS q49 z1.2.1,DS q98 z1.2.2.1,DS q90 (g3_ z1),I (g4_ z1),I (g5_ z1),.os 7,.os 8,.os 9,.os 10,.os 11],.non,.non,.non,.non,.non,v0_ (g6_ z0),v1_ (g6_ z1),v4_ (g7_ z1),v0_ (g8_ z1),v3_ (g9_ z1),v2_ (Gu z1)]
def Ab8  (z1:Sg7):St:=[]
def Adn  (z1:Sg7):List Res:=[.box 147 [I z1.1,DS q49 z1.2.1,DS q98 z1.2.2.1,DS q90 (g3_ z1),I (g4_ z1),I (g5_ z1),.os 6,.os 7,.os 8,.os 9,.os 10],.non,.non,.non,.non,.non,v1_ (g6_ z1),v4_ (g7_ z1),v0_ (g8_ z1),v3_ (g9_ z1),v2_ (Gu z1)]
theorem A45 (x0:Ax) (r:Ax) (h:Wk x0=some r):CO 120 [.d (.o 0 0),.d (.fn (.func 121) [.o 0 0] [])] (.box 147 (zb x0.An [.os 1,.os 2,.os 3,.os 4,.os 5])::zp x0.Aq [v2_ x0.acts]) (.tup []) (.box 147 (zb r.An [.os 6,.os 7,.os 8,.os 9,.os 10]) :: .non :: .non :: .non :: .non :: .non::zp r.Aq [v2_ r.acts]):=by
 unfold Wk at h
 refine co 48 Tryz.func120 λ C hC=>?_
 refine ws Is 26 [] [pl q49 x0.An.Ad] [.own 4 3 1,.mv 1,.mv 2,.mv 3,.mv 4,.mv 5] 6 E3 (Ow x0 0 (zt x0.An (([]:List Int),zu x0.Aq x0.acts))) (Tf 0 (zt x0.An (([]:List Int),zu x0.Aq x0.acts))) hC [] ?_
 obtain⟨w0,hm0,hret0,hnext0⟩:=Av h
 clear h
 refine wc w0 (Ab9) (Ado) ?_ λ z0 hs0=>?_
 ·refine wb ?_
  refine Bq 13 rfl λ hl0=>?_
  refine wl (Ow x0) (Tf) hm0 (λ z0 hn0=>?_) λ n0 a0 z0 w0b hi0 hx0 h hb0 hr0=>?_
  ·clear hm0
   exact wx w0 (Ab9) (Ado) Is 26 [false] [] [] 6 E3 _ hC [pq (A6 hl0)] hn0
  ·unfold Wj at h
   obtain⟨y1,h2,y3,h4,h⟩:=A9 h
   refine wn Is 32 [true] [pt hx0 hl0,pr pB h2,pn pB h2,⟨.whenR [(y1,true)] (.call 121 [dO 0 0,.agg (d49 a0)] [.box 147 [I z0.1,DS q49 z0.2.1,DS q98 z0.2.2.1,DS q90 (g3_ z0),I (g4_ z0),I (g5_ z0),.os 1,.os 2,.os 3,.os 4,.os 5],v1_ (g7_ z0),v4_ (g8_ z0),v0_ (g9_ z0),v3_ (Ct z0),v2_ (Dc z0)] (dB y3.1) (.box 147 (zb y3.2.An [.os 1,.os 2,.os 3,.os 4,.os 5])::zp y3.2.Aq [v2_ y3.2.acts]) [0,7,8,9,10,11]),⟨λ hg=>⟨A6a,(A42 (⟨(⟨z0.1,z0.2.1,z0.2.2.1,(g3_ z0),(g4_ z0),(g5_ z0)⟩:Aa),(⟨(g7_ z0),(g8_ z0),(g9_ z0),(Ct z0)⟩:Ab),(Dc z0)⟩:Ax) a0 _ (A1 h4 hg))⟩,λ hg=>by have e:=Kg h4 hg;subst e;rfl⟩⟩] [] 6 E3 [0,1,4,5,13,14,15,32] hC [pq (A4 hi0 hl0)] ?_
   rcases cB h with⟨h5,h⟩ | ⟨h5,h⟩
   ·obtain⟨y6,h7,h⟩:=Aw h
    exact wx w0b (Ow x0 (n0+1)) (Tf (n0+1)) Is 25 [true] [pa pI 1 h7] [] 6 [0,1,2,3,4,5,12,7,8,9,10,11] _ hC [pq h5] (sI h).symm
   ·exact wx w0b (Ow x0 (n0+1)) (Tf (n0+1)) Is 25 [false] [] [] 6 E3 _ hC [pq h5] (sI h).symm
 ·have h:=hnext0 _ hs0
  refine ws Is 23 [] [pl pI (g6_ z0)] [] 6 E3 (Uh z0 0 (z0.1,z0.2.1,z0.2.2.1,(g3_ z0),(g4_ z0),(g5_ z0),(g7_ z0),(g8_ z0),(g9_ z0),(Ct z0),(Dc z0))) (Zr z0 0 (z0.1,z0.2.1,z0.2.2.1,(g3_ z0),(g4_ z0),(g5_ z0),(g7_ z0),(g8_ z0),(g9_ z0),(Ct z0),(Dc z0))) hC [] ?_
  obtain⟨w1,hm1,hret1,hnext1⟩:=Av h
  clear h
  refine wc w1 (Ab8) (Adn) ?_ λ z1 hs1=>?_
  ·refine wb ?_
   refine B2 38 6 rfl rfl λ hl1=>?_
   refine wl (Uh z0) (Zr z0) hm1 (λ z1 hn1=>?_) λ n1 a1 z1 w1b hi1 hx1 h hb1 hr1=>?_
   ·clear hm1
    exact wx w1 (Ab8) (Adn) Is 26 [false] [] [] 6 [0,1,2,3,4,5,7,8,9,10,11] _ hC [pq (A6 hl1)] hn1
   ·unfold Pk at h
    obtain⟨y8,h9,h⟩:=Aw h
    exact wx w1b (Uh z0 (n1+1)) (Zr z0 (n1+1)) Is 33 [true] [pr pI (Bd hx1 hl1),pn pI (Bd hx1 hl1),pc Ais (Ah2 (⟨(⟨z1.1,z1.2.1,z1.2.2.1,(g3_ z1),(g4_ z1),(g5_ z1)⟩:Aa),(⟨(g6_ z1),(g7_ z1),(g8_ z1),(g9_ z1)⟩:Ab),(Gu z1)⟩:Ax) a1 _ h9) [0,7,8,9,10,11]] [] 6 [0,1,2,3,4,5,6,7,8,9,10,12] _ hC [pq (A4 hi1 hl1)] (sI h).symm
  ·have h:=hnext1 _ hs1
   replace h:=sI h
   subst h
   exact wf Is 20 [] [] [] 6 Ao4 hC []
theorem A6d:EN 120:=en Tryz.func120
theorem A4u (x0:List Int) (x1c0:Aa) (r:(List Int)×Aa) (h:V9 x0 x1c0=some r):CO 132 [.d (.os 0),.d (.fn (.func 133) [] [.o 1 0])] [v0_ x0,.box 29 (d29 x1c0)] (.tup []) [v0_ r.1,.box 29 (d29 r.2)]:=by
 unfold V9 at h
 refine co 9 Tryz.func132 λ C hC=>?_
 obtain⟨y1,h2,h⟩:=Aw h
 replace h:=sI h
 subst h
 exact wf [0,1] 21 [] [pl pI x0,pc A5q (A4i x0 (ln x0) x1c0 _ h2) [0,1]] [] 2 [0,1] hC []
theorem A52:EN 132:=en Tryz.func132
def Ahy:List Nat:=[0,1,2,3,5,8,10,11,12,13]
def Af8 (x0:Aa) (n0:Nat) (z0:Int):St:=[(1,dO 0 0),(2,dI 0),(3,dI z0),(10,.d (DS q98 x0.Ac)),(11,dI (ln x0.Ac)),(12,dI (cnt 0 n0))]
def Aq4 (x0:Aa) (n0:Nat) (z0:Int):List Res:=[.box 29 (d29 x0)]
def Atr  (z0:Int):St:=[(1,dO 0 0),(2,dI 0),(3,dI z0)]
def Axm (x0:Aa) (z0:Int):List Res:=[.box 29 (d29 x0)]
theorem k19 (x0:Aa) (r:Int) (h:F19 x0=some r):CO 19 [.agg (d29 x0)] [] (.d (I r)) []:=by
 unfold F19 at h
 refine co 32 Tryz.func19 λ C hC=>?_
 obtain⟨y1,h2,h⟩:=Aw h
 rcases cB h with⟨h3,h⟩ | ⟨h3,h⟩
 ·replace h:=sI h
  subst h
  exact wr Ahy 29 [true] [pc e51 (k51 x0 _ h2) []] [] 0 [] hC [pq h3]
 ·refine ws Ahy 33 [false] [pc e51 (k51 x0 _ h2) [],pl q98 x0.Ac] [] 0 [0] (Af8 x0 0 0) (Aq4 x0 0 0) hC [pq h3] ?_
  obtain⟨w0,hm0,hret0,hnext0⟩:=Av h
  clear h
  refine wc w0 (Atr) (Axm x0) ?_ λ z0 hs0=>?_
  ·refine wb ?_
   refine Bq 10 rfl λ hl0=>?_
   refine wl (Af8 x0) (Aq4 x0) hm0 (λ z0 hn0=>?_) λ n0 a0 z0 w0b hi0 hx0 h hb0 hr0=>?_
   ·clear hm0
    exact wx w0 (Atr) (Axm x0) Ahy 26 [false] [] [] 0 [0] _ hC [pq (A6 hl0)] hn0
   ·unfold Ale at h
    exact wx w0b (Af8 x0 (n0+1)) (Aq4 x0 (n0+1)) Ahy 33 [true] [pt hx0 hl0] [] 0 [0] _ hC [pq (A4 hi0 hl0)] (sI h).symm
  ·have h:=hnext0 _ hs0
   replace h:=sI h
   subst h
   exact wr Ahy 23 [] [pl q49 x0.Ad,pl q98 x0.Ac] [] 0 [] hC []
theorem e19:EN 19:=en Tryz.func19
theorem k14 (x0:Aa) (x1:Ab) (x2:Int) (r:Bool) (h:F14 x0 x1 x2=some r):CO 14 [.agg (d29 x0),.agg (d34 x1),.d (I x2)] [] (.d (Bo r)) []:=by
 unfold F14 at h
 refine co 23 Tryz.func14 λ C hC=>?_
 obtain⟨y1,h2,h⟩:=Aw h
 replace h:=sI h
 subst h
 exact wr [0,1,2,3,4,6,7,8] 27 [] [pc e50 (k50 x0 x1 x2 _ h2) [],pL_ [(y1.2,true)] pI y1.1.Ac] [] 0 [] hC []
theorem e14:EN 14:=en Tryz.func14
def Ny:List Nat:=[0,1,2,3,4,5,6,7,12,16,31]
def jV  (z0:Int×(List Aj)):St:=[(2,dO 0 0),(3,dO 1 0),(4,.d (DS q62 [])),(5,dS 2),(6,dI z0.1)]
def Ae2 (x0:Aa) (x1:Ab) (z0:Int×(List Aj)):List Res:=[.box 29 (d29 x0),.box 34 (d34 x1),v5_ z0.2]
def Ato  (z0:Int×(List Aj)):St:=[(4,.d (DS q62 [])),(5,dS 0)]
def Axj  (z0:Int×(List Aj)):List Res:=[v5_ z0.2]
theorem k21 (x0:Aa) (x1:Ab) (r:(List Aj)) (h:F21 x0 x1=some r):CO 21 [.agg (d29 x0),.agg (d34 x1)] [] (.d (.os 0)) [v5_ r]:=by
 unfold F21 at h
 refine co 37 Tryz.func21 λ C hC=>?_
 obtain⟨y1,h2,h⟩:=Aw h
 refine wn Ny 26 [] [pc e11 (k11 x0 x1 _ h2) []] [] 0 [0,1] [2,3,4,12] hC [] ?_
 rcases cB h with⟨h3,h⟩ | ⟨h3,h⟩
 ·replace h:=sI h
  subst h
  exact wr Ny 24 [true] [] [.own 4 62 3] 0 [2] hC [pq h3]
 ·refine ws Ny 28 [false] [] [.own 5 62 3] 0 n3_ (jV (0,([]:List Aj))) (Ae2 x0 x1 (0,([]:List Aj))) hC [pq h3] ?_
  obtain⟨w0,hm0,hret0,hnext0⟩:=Av h
  clear h
  refine wc w0 (Ato) (Axj) ?_ λ z0 hs0=>?_
  ·refine wb ?_
   refine ww (jV) (Ae2 x0 x1) hm0 λ z0 w0b h hb0 hr0=>?_
   unfold Alb at h
   rcases cB h with⟨h4,h⟩ | ⟨h4,h⟩
   ·obtain⟨y5,h6,y7,h8,h⟩:=A9 h
    refine wn Ny 32 [true] [pc e50 (k50 x0 x1 z0.1 _ h6) [],pr pI h8,pn pI h8] [] 0 n7_ [2,3,4,5,6,7,31] hC [pq h4] ?_
    rcases cB h with⟨h9,h⟩ | ⟨h9,h⟩
    ·refine wn Ny 1 [true] [] [.frz 3] 0 [0,1,2,4,5,6] [2,3,4,5,6,7] hC [pq h9] ?_
     refine wn Ny 0 [] [] [.frz 3] 0 [0,1,2,4,5] [2,3,4,5,6,7] hC [] ?_
     refine wn Ny 0 [] [] [.frz 3] 0 [0,1,2,4] [2,3,4,5,6,7] hC [] ?_
     obtain⟨y10,h11,h⟩:=Aw h
     exact wx w0b (jV) (Ae2 x0 x1) Ny 24 [] [pa q62 3 h11] [] 0 [0,1,4] _ hC [] (sI h).symm
    ·exact wx w0b (jV) (Ae2 x0 x1) Ny 25 [false] [] [] 0 n3_ _ hC [pq h9] (sI h).symm
   ·exact wx w0 (Ato) (Axj) Ny 26 [false] [] [] 0 [2] (z0.1,z0.2) hC [pq h4] (hb0 _ (sI h).symm)
  ·have h:=hnext0 _ hs0
   replace h:=sI h
   subst h
   exact wr Ny 23 [] [] [] 0 [0] hC []
theorem e21:EN 21:=en Tryz.func21
def zQ:List Nat:=[0,1,2,3,4,6,7,8,9,11,26,28,29,30,31]
def Aga (y1:Aj×Bool) (n0:Nat) (z0:Int):St:=[(4,dO 0 0),(6,dI 0),(9,dI z0),(28,dS 1),(29,dI (ln y1.1.Af)),(30,dI (cnt 0 n0))]
def Aq6 (x1:Ab) (y1:Aj×Bool) (n0:Nat) (z0:Int):List Res:=[.box 34 (d34 x1),v0_ y1.1.Af]
def Att  (z0:Int):St:=[(6,dI 0),(9,dI z0)]
def Axo  (z0:Int):List Res:=[]
theorem k17 (x0:Aa) (x1:Ab) (x2:Int) (r:Int) (h:F17 x0 x1 x2=some r):CO 17 [.agg (d29 x0),.agg (d34 x1),.d (I x2)] [] (.d (I r)) []:=by
 unfold F17 at h
 refine co 43 Tryz.func17 λ C hC=>?_
 obtain⟨y1,h2,h⟩:=Aw h
 refine wn zQ 28 [] [pc e50 (k50 x0 x1 x2 _ h2) [],pL_ [(!y1.2,false)] pI y1.1.Ac] [] 0 [1,2,3,4,5] [4,6,7,26] hC [] ?_
 rcases cB h with⟨h3,h⟩ | ⟨h3,h⟩
 ·replace h:=sI h
  subst h
  exact wr zQ 24 [true] [] [] 0 [] hC [pq h3]
 ·refine ws zQ 28 [false] [pl pI y1.1.Af] [] 0 [0,3] (Aga y1 0 0) (Aq6 x1 y1 0 0) hC [pq h3] ?_
  obtain⟨w0,hm0,hret0,hnext0⟩:=Av h
  clear h
  refine wc w0 (Att) (Axo) ?_ λ z0 hs0=>?_
  ·refine wb ?_
   refine B2 28 1 rfl rfl λ hl0=>?_
   refine wl (Aga y1) (Aq6 x1 y1) hm0 (λ z0 hn0=>?_) λ n0 a0 z0 w0b hi0 hx0 h hb0 hr0=>?_
   ·clear hm0
    exact wx w0 (Att) (Axo) zQ 26 [false] [] [] 0 [] _ hC [pq (A6 hl0)] hn0
   ·unfold vZ at h
    obtain⟨y4,h5,h⟩:=Aw h
    exact wx w0b (Aga y1 (n0+1)) (Aq6 x1 y1 (n0+1)) zQ 33 [true] [pr pI (Bd hx0 hl0),pn pI (Bd hx0 hl0),pr pI h5] [] 0 [0,1] _ hC [pq (A4 hi0 hl0)] (sI h).symm
  ·have h:=hnext0 _ hs0
   replace h:=sI h
   subst h
   exact wr zQ 23 [] [] [] 0 [] hC []
theorem e17:EN 17:=en Tryz.func17
def Ao7:List Nat:=[0,1,2,3,4,6,7,9,11,20,21,22,23]
def Af9 (y1:Aj×Bool) (n0:Nat) (z0:Int):St:=[(3,dO 0 0),(6,dI 0),(9,dI z0),(20,dS 1),(21,dI (ln y1.1.Ac)),(22,dI (cnt 0 n0))]
def Aq5 (x0:Aa) (y1:Aj×Bool) (n0:Nat) (z0:Int):List Res:=[.box 29 (d29 x0),v0_ y1.1.Ac]
def Ats  (z0:Int):St:=[(6,dI 0),(9,dI z0)]
def Axn  (z0:Int):List Res:=[]
theorem k18 (x0:Aa) (x1:Ab) (x2:Int) (r:Int) (h:F18 x0 x1 x2=some r):CO 18 [.agg (d29 x0),.agg (d34 x1),.d (I x2)] [] (.d (I r)) []:=by
 unfold F18 at h
 refine co 36 Tryz.func18 λ C hC=>?_
 obtain⟨y1,h2,h⟩:=Aw h
 refine ws Ao7 30 [] [pc e50 (k50 x0 x1 x2 _ h2) [],pl pI y1.1.Ac] [] 0 [0,3] (Af9 y1 0 0) (Aq5 x0 y1 0 0) hC [] ?_
 obtain⟨w0,hm0,hret0,hnext0⟩:=Av h
 clear h
 refine wc w0 (Ats) (Axn) ?_ λ z0 hs0=>?_
 ·refine wb ?_
  refine B2 20 1 rfl rfl λ hl0=>?_
  refine wl (Af9 y1) (Aq5 x0 y1) hm0 (λ z0 hn0=>?_) λ n0 a0 z0 w0b hi0 hx0 h hb0 hr0=>?_
  ·clear hm0
   exact wx w0 (Ats) (Axn) Ao7 26 [false] [] [] 0 [] _ hC [pq (A6 hl0)] hn0
  ·unfold Alf at h
   obtain⟨y3,h4,h⟩:=Aw h
   exact wx w0b (Af9 y1 (n0+1)) (Aq5 x0 y1 (n0+1)) Ao7 33 [true] [pr pI (Bd hx0 hl0),pn pI (Bd hx0 hl0),pr q98 h4] [] 0 [0,1] _ hC [pq (A4 hi0 hl0)] (sI h).symm
 ·have h:=hnext0 _ hs0
  replace h:=sI h
  subst h
  exact wr Ao7 23 [] [] [] 0 [] hC []
theorem e18:EN 18:=en Tryz.func18
def Gh:List Nat:=[0,1,2,3,4,5,6,7,8,9,10,11,12,13,14,18,25,26,27,28,47,48,49,58,80,81,82,91]
def yR (y4:(List Int)) (n0:Nat) (z0:(List Aj)):St:=[(2,dO 0 0),(3,dO 1 0),(4,.d (DS q62 [])),(5,dS 2),(6,dS 3),(25,dS 2),(26,dI (ln y4)),(27,dI (cnt 0 n0))]
def Aj4 (x0:Aa) (x1:Ab) (y4:(List Int)) (n0:Nat) (z0:(List Aj)):List Res:=[.box 29 (d29 x0),.box 34 (d34 x1),v0_ y4,.dsl 62 3 4,.gh 3 [(3,1),(3,1),(3,1)] (z0.map q62) none]
def Am0  (z0:(List Aj)):St:=[(2,dO 0 0),(3,dO 1 0),(4,.d (DS q62 [])),(5,dS 2),(6,dS 3)]
def An5 (x0:Aa) (x1:Ab) (y4:(List Int)) (z0:(List Aj)):List Res:=[.box 29 (d29 x0),.box 34 (d34 x1),v0_ y4,.dsl 62 3 4,.gh 3 [(3,1),(3,1),(3,1)] (z0.map q62) none]
def Wp (x0:Aa) (z1:Int×(List Aj)):St:=[(2,dO 0 0),(3,dO 1 0),(4,.d (DS q62 [])),(5,dS 2),(6,dS 3),(47,dI (ln x0.Ac)),(48,dI z1.1)]
def vF (x0:Aa) (x1:Ab) (y4:(List Int)) (z1:Int×(List Aj)):List Res:=[.box 29 (d29 x0),.box 34 (d34 x1),v0_ y4,.dsl 62 3 4,.gh 3 [(3,1),(3,1),(3,1)] (z1.2.map q62) none]
def Amz  (z1:Int×(List Aj)):St:=[(2,dO 0 0),(3,dO 1 0),(4,.d (DS q62 [])),(5,dS 2),(6,dS 3)]
def An4 (x0:Aa) (x1:Ab) (y4:(List Int)) (z1:Int×(List Aj)):List Res:=[.box 29 (d29 x0),.box 34 (d34 x1),v0_ y4,.dsl 62 3 4,.gh 3 [(3,1),(3,1),(3,1)] (z1.2.map q62) none]
def Wo (x0:Aa) (z2:Int×(List Aj)):St:=[(2,dO 0 0),(3,dO 1 0),(4,.d (DS q62 [])),(5,dS 2),(6,dS 3),(80,dI (ln x0.Af)),(81,dI z2.1)]
def vE (x0:Aa) (x1:Ab) (y4:(List Int)) (z2:Int×(List Aj)):List Res:=[.box 29 (d29 x0),.box 34 (d34 x1),v0_ y4,.dsl 62 3 4,.gh 3 [(3,1),(3,1),(3,1)] (z2.2.map q62) none]
def Amy  (z2:Int×(List Aj)):St:=[(4,.d (DS q62 [])),(6,dS 0)]
def An3  (z2:Int×(List Aj)):List Res:=[.dsl 62 3 1,.gh 3 [(3,1),(3,1),(3,1)] (z2.2.map q62) none]
theorem A4z (x0:Aa) (x1:Ab) (r:(List Aj)) (h:Z6 x0 x1=some r):CO 124 [.agg (d29 x0),.agg (d34 x1)] [] (.d (.os 0)) [v5_ r]:=by
 unfold Z6 at h
 refine co 113 Tryz.func124 λ C hC=>?_
 obtain⟨y1,h2,h⟩:=Aw h
 refine wn Gh 26 [] [pc e44 (k44 x0 x1 _ h2) []] [] 0 [0,1] [2,3,4,18] hC [] ?_
 rcases cB h with⟨h3,h⟩ | ⟨h3,h⟩
 ·replace h:=sI h
  subst h
  exact wr Gh 24 [true] [] [.own 4 62 3] 0 [2] hC [pq h3]
 ·obtain⟨y4,h5,y6,h7,h⟩:=A9 h
  refine ws Gh 30 [false] [pc A5u (A4m x0 x1 _ h5) [],⟨.roomZ (x0.Al*(72+1)) (List.replicate (Int.toNat x0.Al) (q62 (⟨([]:List Int),([]:List Int),([]:List Int)⟩:Aj))) (y6.map q62),Uz h7⟩,pl pI y4] [.deep 3 [(3,1),(3,1),(3,1)]] 0 n5_ (yR y4 0 y6) (Aj4 x0 x1 y4 0 y6) hC [pq h3] ?_
  obtain⟨w0,hm0,hret0,hnext0⟩:=Av h
  clear h
  refine wc w0 (Am0) (An5 x0 x1 y4) ?_ λ z0 hs0=>?_
  ·refine wb ?_
   refine B2 25 2 rfl rfl λ hl0=>?_
   refine wl (yR y4) (Aj4 x0 x1 y4) hm0 (λ z0 hn0=>?_) λ n0 a0 z0 w0b hi0 hx0 h hb0 hr0=>?_
   ·clear hm0
    exact wx w0 (Am0) (An5 x0 x1 y4) Gh 26 [false] [] [] 0 n5_ _ hC [pq (A6 hl0)] hn0
   ·unfold Aa5 at h
    obtain⟨y8,h9,y10,h11,y12,h13,h⟩:=By h
    exact wx w0b (yR y4 (n0+1)) (Aj4 x0 x1 y4 (n0+1)) Gh 33 [true] [pr pI (Bd hx0 hl0),pn pI (Bd hx0 hl0),pr q62 h9,pn q62 h9,⟨.appD (z0.map q62) (Int.toNat a0) (q62 y8) 0 (y8.Al.map pI) ([cnt 0 n0].map pI) 1 (((y8.Al.map pI).length+([cnt 0 n0].map pI).length)*(8+1)) (y10.map pI),Jm 1 (λ _=>rfl) h9 rfl h11⟩,pr q62 h9,⟨.updD (z0.map q62) (Int.toNat a0) (Int.toNat a0) (q62 y8) (q62 (⟨y10,y8.Ac,y8.Af⟩:Aj)) (y12.map q62),Jj h9 h13⟩] [] 0 [0,1,2,3,8] _ hC [pq (A4 hi0 hl0)] (sI h).symm
  ·have h:=hnext0 _ hs0
   refine ws Gh 24 [] [pl q98 x0.Ac] [] 0 n5_ (Wp x0 (0,z0)) (vF x0 x1 y4 (0,z0)) hC [] ?_
   obtain⟨w1,hm1,hret1,hnext1⟩:=Av h
   clear h
   refine wc w1 (Amz) (An4 x0 x1 y4) ?_ λ z1 hs1=>?_
   ·refine wb ?_
    refine ww (Wp x0) (vF x0 x1 y4) hm1 λ z1 w1b h hb1 hr1=>?_
    unfold Aa4 at h
    rcases cB h with⟨h14,h⟩ | ⟨h14,h⟩
    ·obtain⟨y15,h16,h⟩:=Aw h
     refine wn Gh 34 [true] [pc Azw (Azb x0 x1 z1.1 _ h16) []] [] 0 n5_ [2,3,4,5,6,9,10,47,48,58] hC [pq h14] ?_
     rcases cB h with⟨h17,h⟩ | ⟨h17,h⟩
     ·obtain⟨y18,h19,y20,h21,y22,h23,y24,h25,h⟩:=Dd h
      exact wx w1b (Wp x0) (vF x0 x1 y4) Gh 25 [true] [pr pI h19,pn pI h19,pr pI h19,pn pI h19,pr q62 h21,pn q62 h21,⟨.appD (z1.2.map q62) (Int.toNat y18) (q62 y20) 1 (y20.Ac.map pI) ([z1.1].map pI) 1 (((y20.Ac.map pI).length+([z1.1].map pI).length)*(8+1)) (y22.map pI),Jm 1 (λ _=>rfl) h21 rfl h23⟩,pr q62 h21,⟨.updD (z1.2.map q62) (Int.toNat y18) (Int.toNat y18) (q62 y20) (q62 (⟨y20.Al,y22,y20.Af⟩:Aj)) (y24.map q62),Jj h21 h25⟩] [] 0 [0,1,2,3,8] _ hC [pq h17] (sI h).symm
     ·exact wx w1b (Wp x0) (vF x0 x1 y4) Gh 25 [false] [] [] 0 n5_ _ hC [pq h17] (sI h).symm
    ·exact wx w1 (Amz) (An4 x0 x1 y4) Gh 26 [false] [] [] 0 n5_ (z1.1,z1.2) hC [pq h14] (hb1 _ (sI h).symm)
   ·have h:=hnext1 _ hs1
    refine ws Gh 24 [] [pl q90 x0.Af] [] 0 n5_ (Wo x0 (0,z1.2)) (vE x0 x1 y4 (0,z1.2)) hC [] ?_
    obtain⟨w2,hm2,hret2,hnext2⟩:=Av h
    clear h
    refine wc w2 (Amy) (An3) ?_ λ z2 hs2=>?_
    ·refine wb ?_
     refine ww (Wo x0) (vE x0 x1 y4) hm2 λ z2 w2b h hb2 hr2=>?_
     unfold Aa3 at h
     rcases cB h with⟨h26,h⟩ | ⟨h26,h⟩
     ·obtain⟨y27,h28,h⟩:=Aw h
      refine wn Gh 34 [true] [pc Azz (Aze x0 x1 z2.1 _ h28) []] [] 0 n5_ [2,3,4,5,6,12,13,80,81,91] hC [pq h26] ?_
      rcases cB h with⟨h29,h⟩ | ⟨h29,h⟩
      ·obtain⟨y30,h31,y32,h33,y34,h35,y36,h37,h⟩:=Dd h
       exact wx w2b (Wo x0) (vE x0 x1 y4) Gh 25 [true] [pr pI h31,pn pI h31,pr pI h31,pn pI h31,pr q62 h33,pn q62 h33,⟨.appD (z2.2.map q62) (Int.toNat y30) (q62 y32) 2 (y32.Af.map pI) ([z2.1].map pI) 1 (((y32.Af.map pI).length+([z2.1].map pI).length)*(8+1)) (y34.map pI),Jm 1 (λ _=>rfl) h33 rfl h35⟩,pr q62 h33,⟨.updD (z2.2.map q62) (Int.toNat y30) (Int.toNat y30) (q62 y32) (q62 (⟨y32.Al,y32.Ac,y34⟩:Aj)) (y36.map q62),Jj h33 h37⟩] [] 0 [0,1,2,3,8] _ hC [pq h29] (sI h).symm
      ·exact wx w2b (Wo x0) (vE x0 x1 y4) Gh 25 [false] [] [] 0 n5_ _ hC [pq h29] (sI h).symm
     ·exact wx w2 (Amy) (An3) Gh 26 [false] [] [] 0 [3,4] (z2.1,z2.2) hC [pq h26] (hb2 _ (sI h).symm)
    ·have h:=hnext2 _ hs2
     refine wn Gh 1 [] [] [.flat 0] 0 [0] [4,6] hC [] ?_
     obtain⟨y38,h39,h⟩:=Aw h
     replace h:=sI h
     subst h
     exact wr Gh 22 [] [pc Avh (Aun z2.2 _ h39) [0]] [] 0 [1] hC []
theorem A57:EN 124:=en Tryz.func124
def Ahs:List Nat:=[0,1,2,3,4,7,10,11,12]
def Afp (x0:Aa) (z0:Int×(List Int)):St:=[(1,dO 0 0),(2,.d (DS pI [])),(3,dS 1),(10,dI (ln x0.Af)),(11,dI z0.1)]
def Aqm (x0:Aa) (z0:Int×(List Int)):List Res:=[.box 29 (d29 x0),v0_ z0.2]
def Ast  (z0:Int×(List Int)):St:=[(1,dO 0 0),(2,.d (DS pI [])),(3,dS 1)]
def Awo (x0:Aa) (z0:Int×(List Int)):List Res:=[.box 29 (d29 x0),v0_ z0.2]
theorem k85 (x0:Aa) (r:(List Int)) (h:F85 x0=some r):CO 85 [.agg (d29 x0)] [] (.d (.os 0)) [v0_ r]:=by
 unfold F85 at h
 refine co 23 Tryz.func85 λ C hC=>?_
 obtain⟨y1,h2,h⟩:=Aw h
 rcases cB h with⟨h3,h⟩ | ⟨h3,h⟩
 ·replace h:=sI h
  subst h
  exact wr Ahs 29 [true] [pc e51 (k51 x0 _ h2) []] [.own 2 3 1] 0 [1] hC [pq h3]
 ·refine ws Ahs 33 [false] [pc e51 (k51 x0 _ h2) [],pl q90 x0.Af] [.own 3 3 1] 0 [0,1] (Afp x0 (0,([]:List Int))) (Aqm x0 (0,([]:List Int))) hC [pq h3] ?_
  obtain⟨w0,hm0,hret0,hnext0⟩:=Av h
  clear h
  refine wc w0 (Ast) (Awo x0) ?_ λ z0 hs0=>?_
  ·refine wb ?_
   refine ww (Afp x0) (Aqm x0) hm0 λ z0 w0b h hb0 hr0=>?_
   unfold Akm at h
   rcases cB h with⟨h4,h⟩ | ⟨h4,h⟩
   ·obtain⟨y5,h6,h⟩:=Aw h
    exact wx w0b (Afp x0) (Aqm x0) Ahs 33 [true] [pa pI 1 h6] [] 0 [0,2] _ hC [pq h4] (sI h).symm
   ·exact wx w0 (Ast) (Awo x0) Ahs 26 [false] [] [] 0 [0,1] (z0.1,z0.2) hC [pq h4] (hb0 _ (sI h).symm)
  ·have h:=hnext0 _ hs0
   obtain⟨y7,h8,h⟩:=Aw h
   replace h:=sI h
   subst h
   exact wr Ahs 25 [] [pc A52 (A4u z0.2 x0 _ h8) [1,0]] [] 0 [1] hC []
theorem e85:EN 85:=en Tryz.func85
def D3:List Nat:=[0,1,2,3,4,5,6,7,8,9,10,11,12,13,14,18,25,26,27,28,47,48,49,58,80,81,82,91]
def Ue (y4:(List Int)) (n0:Nat) (z0:(List Aj)):St:=[(2,dO 4 0),(3,dO 5 0),(4,.d (DS q62 [])),(5,dS 6),(6,dS 7),(25,dS 6),(26,dI (ln y4)),(27,dI (cnt 0 n0))]
def Zo (x0:Aa) (x1:Ab) (y4:(List Int)) (n0:Nat) (z0:(List Aj)):List Res:=(zp x1 [.box 29 (d29 x0),.box 34 [.os 0,.os 1,.os 2,.os 3],v0_ y4,.dsl 62 3 8,.gh 3 [(3,1),(3,1),(3,1)] (z0.map q62) none])
def Ab3  (z0:(List Aj)):St:=[(2,dO 4 0),(3,dO 5 0),(4,.d (DS q62 [])),(5,dS 6),(6,dS 7)]
def Adh (x0:Aa) (x1:Ab) (y4:(List Int)) (z0:(List Aj)):List Res:=(zp x1 [.box 29 (d29 x0),.box 34 [.os 0,.os 1,.os 2,.os 3],v0_ y4,.dsl 62 3 8,.gh 3 [(3,1),(3,1),(3,1)] (z0.map q62) none])
def Ot (x0:Aa) (z1:Int×(List Aj)):St:=[(2,dO 4 0),(3,dO 5 0),(4,.d (DS q62 [])),(5,dS 6),(6,dS 7),(47,dI (ln x0.Ac)),(48,dI z1.1)]
def Tc (x0:Aa) (x1:Ab) (y4:(List Int)) (z1:Int×(List Aj)):List Res:=(zp x1 [.box 29 (d29 x0),.box 34 [.os 0,.os 1,.os 2,.os 3],v0_ y4,.dsl 62 3 8,.gh 3 [(3,1),(3,1),(3,1)] (z1.2.map q62) none])
def Ab2  (z1:Int×(List Aj)):St:=[(2,dO 4 0),(3,dO 5 0),(4,.d (DS q62 [])),(5,dS 6),(6,dS 7)]
def Adg (x0:Aa) (x1:Ab) (y4:(List Int)) (z1:Int×(List Aj)):List Res:=(zp x1 [.box 29 (d29 x0),.box 34 [.os 0,.os 1,.os 2,.os 3],v0_ y4,.dsl 62 3 8,.gh 3 [(3,1),(3,1),(3,1)] (z1.2.map q62) none])
def Oq (x0:Aa) (z2:Int×(List Aj)):St:=[(2,dO 4 0),(3,dO 5 0),(4,.d (DS q62 [])),(5,dS 6),(6,dS 7),(80,dI (ln x0.Af)),(81,dI z2.1)]
def Tb (x0:Aa) (x1:Ab) (y4:(List Int)) (z2:Int×(List Aj)):List Res:=(zp x1 [.box 29 (d29 x0),.box 34 [.os 0,.os 1,.os 2,.os 3],v0_ y4,.dsl 62 3 8,.gh 3 [(3,1),(3,1),(3,1)] (z2.2.map q62) none])
def Ab1  (z2:Int×(List Aj)):St:=[(4,.d (DS q62 [])),(6,dS 4)]
def Adf (x1:Ab) (z2:Int×(List Aj)):List Res:=(zp x1 [.dsl 62 3 5,.gh 3 [(3,1),(3,1),(3,1)] (z2.2.map q62) none])
theorem A4y (x0:Aa) (x1:Ab) (r:(List Aj)) (h:Alj x0 x1=some r):CO 124 [.agg (d29 x0),.agg [.os 0,.os 1,.os 2,.os 3]] (zp x1 []) (.d (.os 4)) (zp x1 [v5_ r]):=by
 unfold Alj at h
 refine co 113 Tryz.func124 λ C hC=>?_
 obtain⟨y1,h2,h⟩:=Aw h
 refine wn D3 26 [] [pb e44 (k44 x0 x1 _ h2)] [] 4 n6_ [2,3,4,18] hC [] ?_
 rcases cB h with⟨h3,h⟩ | ⟨h3,h⟩
 ·replace h:=sI h
  subst h
  exact wr D3 24 [true] [] [.own 4 62 3] 4 [0,1,2,3,6] hC [pq h3]
 ·obtain⟨y4,h5,y6,h7,h⟩:=A9 h
  refine ws D3 30 [false] [⟨.call 155 [.agg (d29 x0),.agg [.os 0,.os 1,.os 2,.os 3]] (zp x1 []) (dS 4) (zp x1 [v0_ y4]) n4_,⟨A5u,((A4m x0 x1 _ h5).lend (by kernel_rfl) (by kernel_rfl) (by kernel_rfl) ⟨Bh (λ _=>rfl),trivial⟩ (by kernel_rfl) (by kernel_rfl))⟩⟩,⟨.roomZ (x0.Al*(72+1)) (List.replicate (Int.toNat x0.Al) (q62 (⟨([]:List Int),([]:List Int),([]:List Int)⟩:Aj))) (y6.map q62),Uz h7⟩,pl pI y4] [.deep 7 [(3,1),(3,1),(3,1)]] 4 n9_ (Ue y4 0 y6) (Zo x0 x1 y4 0 y6) hC [pq h3] ?_
  obtain⟨w0,hm0,hret0,hnext0⟩:=Av h
  clear h
  refine wc w0 (Ab3) (Adh x0 x1 y4) ?_ λ z0 hs0=>?_
  ·refine wb ?_
   refine B2 25 6 rfl rfl λ hl0=>?_
   refine wl (Ue y4) (Zo x0 x1 y4) hm0 (λ z0 hn0=>?_) λ n0 a0 z0 w0b hi0 hx0 h hb0 hr0=>?_
   ·clear hm0
    exact wx w0 (Ab3) (Adh x0 x1 y4) D3 26 [false] [] [] 4 n9_ _ hC [pq (A6 hl0)] hn0
   ·unfold Adw at h
    obtain⟨y8,h9,y10,h11,y12,h13,h⟩:=By h
    exact wx w0b (Ue y4 (n0+1)) (Zo x0 x1 y4 (n0+1)) D3 33 [true] [pr pI (Bd hx0 hl0),pn pI (Bd hx0 hl0),pr q62 h9,pn q62 h9,⟨.appD (z0.map q62) (Int.toNat a0) (q62 y8) 0 (y8.Al.map pI) ([cnt 0 n0].map pI) 1 (((y8.Al.map pI).length+([cnt 0 n0].map pI).length)*(8+1)) (y10.map pI),Jm 1 (λ _=>rfl) h9 rfl h11⟩,pr q62 h9,⟨.updD (z0.map q62) (Int.toNat a0) (Int.toNat a0) (q62 y8) (q62 (⟨y10,y8.Ac,y8.Af⟩:Aj)) (y12.map q62),Jj h9 h13⟩] [] 4 [0,1,2,3,4,5,6,7,12] _ hC [pq (A4 hi0 hl0)] (sI h).symm
  ·have h:=hnext0 _ hs0
   refine ws D3 24 [] [pl q98 x0.Ac] [] 4 n9_ (Ot x0 (0,z0)) (Tc x0 x1 y4 (0,z0)) hC [] ?_
   obtain⟨w1,hm1,hret1,hnext1⟩:=Av h
   clear h
   refine wc w1 (Ab2) (Adg x0 x1 y4) ?_ λ z1 hs1=>?_
   ·refine wb ?_
    refine ww (Ot x0) (Tc x0 x1 y4) hm1 λ z1 w1b h hb1 hr1=>?_
    unfold Adv at h
    rcases cB h with⟨h14,h⟩ | ⟨h14,h⟩
    ·obtain⟨y15,h16,h⟩:=Aw h
     refine wn D3 34 [true] [pb Azw (Azb x0 x1 z1.1 _ h16)] [] 4 n9_ [2,3,4,5,6,9,10,47,48,58] hC [pq h14] ?_
     rcases cB h with⟨h17,h⟩ | ⟨h17,h⟩
     ·obtain⟨y18,h19,y20,h21,y22,h23,y24,h25,h⟩:=Dd h
      exact wx w1b (Ot x0) (Tc x0 x1 y4) D3 25 [true] [pr pI h19,pn pI h19,pr pI h19,pn pI h19,pr q62 h21,pn q62 h21,⟨.appD (z1.2.map q62) (Int.toNat y18) (q62 y20) 1 (y20.Ac.map pI) ([z1.1].map pI) 1 (((y20.Ac.map pI).length+([z1.1].map pI).length)*(8+1)) (y22.map pI),Jm 1 (λ _=>rfl) h21 rfl h23⟩,pr q62 h21,⟨.updD (z1.2.map q62) (Int.toNat y18) (Int.toNat y18) (q62 y20) (q62 (⟨y20.Al,y22,y20.Af⟩:Aj)) (y24.map q62),Jj h21 h25⟩] [] 4 [0,1,2,3,4,5,6,7,12] _ hC [pq h17] (sI h).symm
     ·exact wx w1b (Ot x0) (Tc x0 x1 y4) D3 25 [false] [] [] 4 n9_ _ hC [pq h17] (sI h).symm
    ·exact wx w1 (Ab2) (Adg x0 x1 y4) D3 26 [false] [] [] 4 n9_ (z1.1,z1.2) hC [pq h14] (hb1 _ (sI h).symm)
   ·have h:=hnext1 _ hs1
    refine ws D3 24 [] [pl q90 x0.Af] [] 4 n9_ (Oq x0 (0,z1.2)) (Tb x0 x1 y4 (0,z1.2)) hC [] ?_
    obtain⟨w2,hm2,hret2,hnext2⟩:=Av h
    clear h
    refine wc w2 (Ab1) (Adf x1) ?_ λ z2 hs2=>?_
    ·refine wb ?_
     refine ww (Oq x0) (Tb x0 x1 y4) hm2 λ z2 w2b h hb2 hr2=>?_
     unfold Adu at h
     rcases cB h with⟨h26,h⟩ | ⟨h26,h⟩
     ·obtain⟨y27,h28,h⟩:=Aw h
      refine wn D3 34 [true] [pb Azz (Aze x0 x1 z2.1 _ h28)] [] 4 n9_ [2,3,4,5,6,12,13,80,81,91] hC [pq h26] ?_
      rcases cB h with⟨h29,h⟩ | ⟨h29,h⟩
      ·obtain⟨y30,h31,y32,h33,y34,h35,y36,h37,h⟩:=Dd h
       exact wx w2b (Oq x0) (Tb x0 x1 y4) D3 25 [true] [pr pI h31,pn pI h31,pr pI h31,pn pI h31,pr q62 h33,pn q62 h33,⟨.appD (z2.2.map q62) (Int.toNat y30) (q62 y32) 2 (y32.Af.map pI) ([z2.1].map pI) 1 (((y32.Af.map pI).length+([z2.1].map pI).length)*(8+1)) (y34.map pI),Jm 1 (λ _=>rfl) h33 rfl h35⟩,pr q62 h33,⟨.updD (z2.2.map q62) (Int.toNat y30) (Int.toNat y30) (q62 y32) (q62 (⟨y32.Al,y32.Ac,y34⟩:Aj)) (y36.map q62),Jj h33 h37⟩] [] 4 [0,1,2,3,4,5,6,7,12] _ hC [pq h29] (sI h).symm
      ·exact wx w2b (Oq x0) (Tb x0 x1 y4) D3 25 [false] [] [] 4 n9_ _ hC [pq h29] (sI h).symm
     ·exact wx w2 (Ab1) (Adf x1) D3 26 [false] [] [] 4 [0,1,2,3,7,8] (z2.1,z2.2) hC [pq h26] (hb2 _ (sI h).symm)
    ·have h:=hnext2 _ hs2
     refine wn D3 1 [] [] [.flat 4] 4 n5_ [4,6] hC [] ?_
     obtain⟨y38,h39,h⟩:=Aw h
     replace h:=sI h
     subst h
     exact wr D3 22 [] [pc Avh (Aun z2.2 _ h39) [4]] [] 4 [0,1,2,3,5] hC []
theorem A56:EN 124:=en Tryz.func124
def I5:List Nat:=[0,1,2,3,4,5,6,7,8,9,13,19,20,21,26,39,40,41,43,44,45,46,58]
def jU (x0:Aa) (z0:Int×(List Bool)):St:=[(2,dO 0 0),(3,dO 1 0),(4,.d (DS pB [])),(5,dS 2),(19,dI (ln x0.Ac)),(20,dI z0.1)]
def Ae1 (x0:Aa) (x1:Ab) (z0:Int×(List Bool)):List Res:=[.box 29 (d29 x0),.box 34 (d34 x1),v1_ z0.2]
def Atn  (z0:Int×(List Bool)):St:=[(2,dO 0 0),(3,dO 1 0),(4,.d (DS pB [])),(5,dS 2)]
def Axi (x0:Aa) (x1:Ab) (z0:Int×(List Bool)):List Res:=[.box 29 (d29 x0),.box 34 (d34 x1),v1_ z0.2]
def Af6 (x0:Aa) (z1:Int×(List Bool)):St:=[(2,dO 0 0),(3,dO 1 0),(4,.d (DS pB [])),(5,dS 2),(39,dI x0.Al),(40,dI z1.1)]
def Aq2 (x0:Aa) (x1:Ab) (z1:Int×(List Bool)):List Res:=[.box 29 (d29 x0),.box 34 (d34 x1),v1_ z1.2]
def Atm  (z1:Int×(List Bool)):St:=[(4,.d (DS pB [])),(5,dS 0)]
def Axh  (z1:Int×(List Bool)):List Res:=[v1_ z1.2]
def jT (x0:Aa) (z1:Int×(List Bool)) (n2:Nat) (z2:(List Bool)):St:=[(2,dO 0 0),(3,dO 1 0),(4,.d (DS pB [])),(5,dS 2),(39,dI x0.Al),(40,dI z1.1),(43,.d (DS q49 x0.Ad)),(44,dI (ln x0.Ad)),(45,dI (cnt 0 n2))]
def Ae0 (x0:Aa) (x1:Ab) (n2:Nat) (z2:(List Bool)):List Res:=[.box 29 (d29 x0),.box 34 (d34 x1),v1_ z2]
def Atl (x0:Aa) (z1:Int×(List Bool)) (z2:(List Bool)):St:=[(2,dO 0 0),(3,dO 1 0),(4,.d (DS pB [])),(5,dS 2),(39,dI x0.Al),(40,dI z1.1)]
def Axg (x0:Aa) (x1:Ab) (z2:(List Bool)):List Res:=[.box 29 (d29 x0),.box 34 (d34 x1),v1_ z2]
theorem k23 (x0 : Aa) (x1 : Ab) (r : (List Bool)) (h : F23 x0 x1 = some r) : CO 23 [.agg (d29 x0), .agg (d34 x1)] [] (.d (.os 0)) [v1_ r] := by
 unfold F23 at h
 refine co 84 Tryz.func23 λ C hC=>?_
 obtain⟨y1,h2,h⟩:=Aw h
 refine wn I5 26 [] [pc e44 (k44 x0 x1 _ h2) []] [] 0 [0,1] [2,3,4,13] hC [] ?_
 rcases cB h with⟨h3,h⟩ | ⟨h3,h⟩
 ·replace h:=sI h
  subst h
  exact wr I5 24 [true] [] [.own 4 4 1] 0 [2] hC [pq h3]
 ·obtain⟨y4,h5,h⟩:=Aw h
  refine ws I5 28 [false] [⟨.room (x0.Al*(1+1)) (List.replicate (Int.toNat x0.Al) (pB false)) (y4.map pB),K1 h5⟩,pl q98 x0.Ac] [] 0 n3_ (jU x0 (0,y4)) (Ae1 x0 x1 (0,y4)) hC [pq h3] ?_
  obtain⟨w0,hm0,hret0,hnext0⟩:=Av h
  clear h
  refine wc w0 (Atn) (Axi x0 x1) ?_ λ z0 hs0=>?_
  ·refine wb ?_
   refine ww (jU x0) (Ae1 x0 x1) hm0 λ z0 w0b h hb0 hr0=>?_
   unfold Ak9 at h
   rcases cB h with⟨h6,h⟩ | ⟨h6,h⟩
   ·obtain⟨y7,h8,h⟩:=Aw h
    refine wn I5 32 [true] [pc e55 (k55 x0 x1 z0.1 _ h8) []] [] 0 n3_ [2,3,4,5,6,19,20,26] hC [pq h6] ?_
    rcases cB h with⟨h9,h⟩ | ⟨h9,h⟩
    ·obtain⟨y10,h11,y12,h13,y14,h15,y16,h17,h⟩:=Dd h
     exact wx w0b (jU x0) (Ae1 x0 x1) I5 25 [true] [pc e56 (k56 x0 z0.1 _ h11) [],pr q49 h13,pr pB h15,pu pB h15 h17] [] 0 n3_ _ hC [pq h9] (sI h).symm
    ·exact wx w0b (jU x0) (Ae1 x0 x1) I5 25 [false] [] [] 0 n3_ _ hC [pq h9] (sI h).symm
   ·exact wx w0 (Atn) (Axi x0 x1) I5 26 [false] [] [] 0 n3_ (z0.1,z0.2) hC [pq h6] (hb0 _ (sI h).symm)
  ·have h := hnext0 _ hs0
   refine ws I5 24 [] [] [] 0 n3_ (Af6 x0 (0,z0.2)) (Aq2 x0 x1 (0,z0.2)) hC [] ?_
   obtain⟨w1,hm1,hret1,hnext1⟩:=Av h
   clear h
   refine wc w1 (Atm) (Axh) ?_ λ z1 hs1=>?_
   ·refine wb ?_
    refine ww (Af6 x0) (Aq2 x0 x1) hm1 λ z1 w1b h hb1 hr1=>?_
    unfold Ak8 at h
    rcases cB h with⟨h18,h⟩ | ⟨h18,h⟩
    ·refine ws I5 30 [true] [pl q49 x0.Ad] [] 0 n3_ (jT x0 z1 0 z1.2) (Ae0 x0 x1 0 z1.2) hC [pq h18] ?_
     obtain⟨w2,hm2,hret2,hnext2⟩:=Av h
     clear h
     refine wc w2 (Atl x0 z1) (Axg x0 x1) ?_ λ z2 hs2=>?_
     ·refine wb ?_
      refine Bq 43 rfl λ hl2=>?_
      refine wl (jT x0 z1) (Ae0 x0 x1) hm2 (λ z2 hn2=>?_) λ n2 a2 z2 w2b hi2 hx2 h hb2 hr2=>?_
      ·clear hm2
       exact wx w2 (Atl x0 z1) (Axg x0 x1) I5 26 [false] [] [] 0 n3_ _ hC [pq (A6 hl2)] hn2
      ·unfold vY at h
       obtain⟨y19,h20,h⟩:=Aw h
       refine wn I5 32 [true] [pt hx2 hl2,pw e57 (λ hg=>k57 x0 x1 (cnt 0 n2) _ (A1 h20 hg)) []] [] 0 n4_ [2,3,4,5,8,39,40,43,44,45,58] hC [pq (A4 hi2 hl2)] ?_
       rcases cB h with⟨h21,h⟩ | ⟨h21,h⟩
       ·obtain⟨y22,h23,y24,h25,y26,h27,h⟩:=By h
        obtain⟨y28,h29,y30,h31,h⟩:=A9 h
        exact wx w2b (jT x0 z1 (n2+1)) (Ae0 x0 x1 (n2+1)) I5 27 [true] [pr pB h23,pn pB h23,pR pB h25,pN pB h25,pr pB h23,pu pB h23 h27,pr pB h29,pu pB h29 h31] [] 0 n3_ _ hC [pq h21] (sI h).symm
       ·exact wx w2b (jT x0 z1 (n2+1)) (Ae0 x0 x1 (n2+1)) I5 25 [false] [] [] 0 n3_ _ hC [pq h21] (sI h).symm
     ·have h:=hnext2 _ hs2
      exact wx w1b (Af6 x0) (Aq2 x0 x1) I5 23 [] [] [] 0 n3_ _ hC [] (sI h).symm
    ·exact wx w1 (Atm) (Axh) I5 26 [false] [] [] 0 [2] (z1.1,z1.2) hC [pq h18] (hb1 _ (sI h).symm)
   ·have h:=hnext1 _ hs1
    replace h:=sI h
    subst h
    exact wr I5 23 [] [] [] 0 [0] hC []
theorem e23:EN 23:=en Tryz.func23
def Ay0:List Nat:=[0,1,2,3,4,6,7,11]
theorem k86 (x0:Aa) (x1:Ab) (x2:Int) (r:Int×Bool) (h:F86 x0 x1 x2=some r):CO 86 [.agg (d29 x0),.agg (d34 x1),.d (I x2)] [] (.tup [.d (I r.1),.d (Bo r.2)]) []:=by
 unfold F86 at h
 refine co 18 Tryz.func86 λ C hC=>?_
 obtain⟨y1,h2,h⟩:=Aw h
 refine wn Ay0 26 [] [pc e44 (k44 x0 x1 _ h2) []] [] 0 [0,1] [2,3,4,6,7,11] hC [] ?_
 rcases cB h with⟨h3,h⟩ | ⟨h3,h⟩
 ·replace h:=sI h
  subst h
  exact wr Ay0 24 [true] [] [] 0 [] hC [pq h3]
 ·obtain⟨y4,h5,h⟩:=Aw h
  replace h:=sI h
  subst h
  exact wr Ay0 25 [false] [pc Azz (Aze x0 x1 x2 _ h5) []] [] 0 [] hC [pq h3]
theorem e86:EN 86:=en Tryz.func86
def Wz:List Nat:=[0,1,2,3,4,6,7,8,9,13,18,29]
theorem A81 (x0:Aa) (x1:Ab) (x2:Int) (r:Ab×Int) (h:P2 x0 x1 x2=some r):CO 110 [.agg (d29 x0),.agg (d34 x1),.d (I x2)] [] (.tup [.agg [.os 0,.os 1,.os 2,.os 3],.d (I r.2)]) (zp r.1 []):=by
 unfold P2 at h
 refine co 49 Tryz.func110 λ C hC=>?_
 obtain⟨y1,h2,h⟩:=Aw h
 refine wn Wz 29 [] [pc e44 (k44 x0 x1 _ h2) []] [.ownb 2 0 4 1,.ownb 2 1 87 4,.ownb 2 2 3 1,.ownb 2 3 92 2] 0 n7_ [2,3,4,6,7,8,13] hC [] ?_
 rcases cB h with⟨h3,h⟩ | ⟨h3,h⟩
 ·replace h:=sI h
  subst h
  exact wr Wz 24 [true] [] [.ownb 2 0 4 1,.ownb 2 1 87 4,.ownb 2 2 3 1,.ownb 2 3 92 2] 0 [7,8,9,10] hC [pq h3]
 ·rcases cB h with⟨h4,h⟩ | ⟨h4,h⟩
  ·replace h:=sI h
   subst h
   exact wr Wz 27 [false,true] [pL_ [(decide (x2<0),false)] q49 x0.Ad] [.ownb 2 0 4 1,.ownb 2 1 87 4,.ownb 2 2 3 1,.ownb 2 3 92 2] 0 [7,8,9,10] hC [pq h3,pq h4]
  ·obtain⟨y5,h6,y7,h8,h⟩:=A9 h
   refine wn Wz 27 [false,false] [pL_ [(decide (x2<0),false)] q49 x0.Ad,pr pB h6,pw e76 (λ hg=>k76 x1 2 x2 _ (A1 h8 hg)) []] [] 0 [1,2,3,4,5,6] [2,4,6,7,29] hC [pq h3,pq h4] ?_
   rcases cB h with⟨h9,h⟩ | ⟨h9,h⟩
   ·replace h:=sI h
    subst h
    exact wr Wz 24 [true] [] [.ownb 1 0 4 1,.ownb 1 1 87 4,.ownb 1 2 3 1,.ownb 1 3 92 2] 0 [6,7,8,9] hC [pq h9]
   ·obtain⟨y10,h11,y12,h13,y14,h15,h⟩:=By h
    replace h:=sI h
    subst h
    exact wr Wz 30 [false] [pc e35 (k35 x1 _ h11) [],pr pB h13,pu pB h13 h15] [] 0 [6,7,8,9] hC [pq h9]
theorem A9q:EN 110:=en Tryz.func110
def Ao9:List Nat:=[0,1,2,3,4,6,7,11]
theorem A8s (x0:Aa) (x1:Ab) (x2:Int) (r:Int×Bool) (h:Alg x0 x1 x2=some r):CO 144 [.agg (d29 x0),.agg (d34 x1),.d (I x2)] [] (.tup [.d (I r.1),.d (Bo r.2)]) []:=by
 unfold Alg at h
 refine co 18 Tryz.func144 λ C hC=>?_
 obtain⟨y1,h2,h⟩:=Aw h
 refine wn Ao9 26 [] [pc e44 (k44 x0 x1 _ h2) []] [] 0 [0,1] [2,3,4,6,7,11] hC [] ?_
 rcases cB h with⟨h3,h⟩ | ⟨h3,h⟩
 ·replace h:=sI h
  subst h
  exact wr Ao9 24 [true] [] [] 0 [] hC [pq h3]
 ·obtain⟨y4,h5,h⟩:=Aw h
  replace h:=sI h
  subst h
  exact wr Ao9 25 [false] [pc Azw (Azb x0 x1 x2 _ h5) []] [] 0 [] hC [pq h3]
theorem A9h:EN 144:=en Tryz.func144
def R8:List Nat:=[0,1,2,3,4,5,6,7,8,9,14,20,21,22,23,29]
def Wn (x1:Ab) (n0:Nat) (z0:(List Ag)):St:=[(4,dO 0 0),(5,dI 0),(7,dO 9 0),(20,.d (DS q87 x1.Ac)),(21,dI (ln x1.Ac)),(22,dI (cnt 0 n0))]
def vD (y4:Ab) (n0:Nat) (z0:(List Ag)):List Res:=(.box 34 [.os 1,.os 2,.os 3,.os 4]::ze [v1_ y4.Ae,v4_ z0,v0_ y4.Am,v3_ y4.Ai,.box 34 [.os 5,.os 6,.os 7,.os 8]])
def Amw  (z0:(List Ag)):St:=[(4,dO 0 0),(5,dI 0),(7,dO 9 0)]
def An1 (y4:Ab) (z0:(List Ag)):List Res:=(.box 34 [.os 1,.os 2,.os 3,.os 4]::ze [v1_ y4.Ae,v4_ z0,v0_ y4.Am,v3_ y4.Ai,.box 34 [.os 5,.os 6,.os 7,.os 8]])
theorem A8r (x0:Aa) (x1:Ab) (r:Ab×Int) (h:Z4 x0 x1=some r):CO 147 [.agg (d29 x0),.agg (d34 x1)] [] (.tup [.agg [.os 0,.os 1,.os 2,.os 3],.d (I r.2)]) (zp r.1 []):=by
 unfold Z4 at h
 refine co 45 Tryz.func147 λ C hC=>?_
 obtain⟨y1,h2,h⟩:=Aw h
 refine wn R8 28 [] [pc e44 (k44 x0 x1 _ h2) []] [.ownb 2 0 4 1,.ownb 2 1 87 4,.ownb 2 2 3 1,.ownb 2 3 92 2] 0 [1,2,3,4,5,6] [3,4,5,6,14] hC [] ?_
 rcases cB h with⟨h3,h⟩ | ⟨h3,h⟩
 ·replace h:=sI h
  subst h
  exact wr R8 24 [true] [] [.ownb 1 0 4 1,.ownb 1 1 87 4,.ownb 1 2 3 1,.ownb 1 3 92 2] 0 [6,7,8,9] hC [pq h3]
 ·obtain⟨y4,h5,h⟩:=Aw h
  refine ws R8 28 [false] [pc e35 (k35 x1 _ h5) [],pl q87 x1.Ac] [] 0 [1,2,3,4,5,6,7,8,9,10] (Wn x1 0 y4.Ac) (vD y4 0 y4.Ac) hC [pq h3] ?_
  obtain⟨w0,hm0,hret0,hnext0⟩:=Av h
  clear h
  refine wc w0 (Amw) (An1 y4) ?_ λ z0 hs0=>?_
  ·refine wb ?_
   refine Bq 20 rfl λ hl0=>?_
   refine wl (Wn x1) (vD y4) hm0 (λ z0 hn0=>?_) λ n0 a0 z0 w0b hi0 hx0 h hb0 hr0=>?_
   ·clear hm0
    exact wx w0 (Amw) (An1 y4) R8 26 [false] [] [] 0 Ia _ hC [pq (A6 hl0)] hn0
   ·unfold Xv at h
    rcases cB h with⟨h6,h⟩ | ⟨h6,h⟩
    ·obtain⟨y7,h8,y9,h10,h⟩:=A9 h
     exact wx w0b (Wn x1 (n0+1)) (vD y4 (n0+1)) R8 36 [true,true] [pt hx0 hl0,pc Apq (Ape (w64 (a0.Phase+(w64 (36*(w64 (a0.Ar-5000)))))) _ rfl) [],pr q87 h8,pu q87 h8 h10] [] 0 Ia _ hC [pq (A4 hi0 hl0),pq h6] (sI h).symm
    ·exact wx w0b (Wn x1 (n0+1)) (vD y4 (n0+1)) R8 36 [true,false] [pt hx0 hl0] [] 0 Ia _ hC [pq (A4 hi0 hl0),pq h6] (sI h).symm
  ·have h:=hnext0 _ hs0
   replace h:=sI h
   subst h
   exact wr R8 23 [] [] [] 0 [5,6,7,8] hC []
theorem A9g:EN 147:=en Tryz.func147
def G0:List Nat:=[0,1,2,3,4,5,6,7,8,9,10,11,12,13,14,15,16,17,19,30,33,34,35,39,75,87,91,102,115]
def Af7 (x0:Aa) (z0:Int):St:=[(3,dO 0 0),(4,dO 1 0),(5,dO 2 0),(6,dB false),(33,dI (ln x0.Ac)),(34,dI z0)]
def Aq3 (x0:Aa) (x1:Ab) (x2:Ab) (z0:Int):List Res:=[.box 29 (d29 x0),.box 34 (d34 x1),.box 34 (d34 x2)]
def Atq  (z0:Int):St:=[(6,dB false)]
def Axl  (z0:Int):List Res:=[]
def Np (x0:Aa) (z0:Int) (z1:Int):St:=[(3,dO 0 0),(4,dO 1 0),(5,dO 2 0),(6,dB false),(7,dI z0),(8,dI z1),(33,dI (ln x0.Ac)),(34,dI z0)]
def S6 (x0:Aa) (x1:Ab) (x2:Ab) (z1:Int):List Res:=[.box 29 (d29 x0),.box 34 (d34 x1),.box 34 (d34 x2)]
def Atp (x0:Aa) (z0:Int) (z1:Int):St:=[(3,dO 0 0),(4,dO 1 0),(5,dO 2 0),(6,dB false),(33,dI (ln x0.Ac)),(34,dI z0)]
def Axk (x0:Aa) (x1:Ab) (x2:Ab) (z1:Int):List Res:=[.box 29 (d29 x0),.box 34 (d34 x1),.box 34 (d34 x2)]
theorem k20 (x0 : Aa) (x1 : Ab) (x2 : Ab) (r : Bool) (h : F20 x0 x1 x2 = some r) : CO 20 [.agg (d29 x0), .agg (d34 x1), .agg (d34 x2)] [] (.d (Bo r)) [] := by
 unfold F20 at h
 refine co 117 Tryz.func20 λ C hC=>?_
 obtain⟨y1,h2,y3,h4,h⟩:=A9 h
 refine wn G0 26 [] [pc e11 (k11 x0 x1 _ h2) [],pw e11 (λ hg=>k11 x0 x2 _ (A1 h4 hg)) []] [] 0 n3_ [3,4,5,6,30] hC [] ?_
 rcases cB h with⟨h5,h⟩ | ⟨h5,h⟩
 ·replace h:=sI h
  subst h
  exact wr G0 24 [true] [] [] 0 [] hC [pq h5]
 ·refine ws G0 26 [false] [pl q98 x0.Ac] [] 0 n3_ (Af7 x0 0) (Aq3 x0 x1 x2 0) hC [pq h5] ?_
  obtain⟨w0,hm0,hret0,hnext0⟩:=Av h
  clear h
  refine wc w0 (Atq) (Axl) ?_ λ z0 hs0=>?_
  ·refine wb ?_
   refine ww (Af7 x0) (Aq3 x0 x1 x2) hm0 λ z0 w0b h hb0 hr0=>?_
   unfold Ald at h
   rcases cB h with⟨h6,h⟩ | ⟨h6,h⟩
   ·refine ws G0 32 [true] [] [] 0 n3_ (Np x0 z0 0) (S6 x0 x1 x2 0) hC [pq h6] ?_
    obtain⟨w1,hm1,hret1,hnext1⟩:=Av h
    clear h
    refine wc w1 (Atp x0 z0) (Axk x0 x1 x2) ?_ λ z1 hs1=>?_
    ·refine wb ?_
     refine ww (Np x0 z0) (S6 x0 x1 x2) hm1 λ z1 w1b h hb1 hr1=>?_
     unfold Alc at h
     rcases cB h with⟨h7,h⟩ | ⟨h7,h⟩
     ·obtain⟨y8,h9,y10,h11,y12,h13,y14,h15,h⟩:=Dd h
      refine wn G0 39 [true] [pc e52 (k52 x0 x1 z0 _ h9) [],pc e52 (k52 x0 x1 z1 _ h11) [],pc e52 (k52 x0 x2 z0 _ h13) [],pc e52 (k52 x0 x2 z1 _ h15) []] [] 0 n3_ [3,4,5,6,7,8,9,10,11,12,13,15,33,34,75] hC [pq h7] ?_
      rcases cB h with⟨h16,h⟩ | ⟨h16,h⟩
      ·exact wx w1b (Np x0 z0) (S6 x0 x1 x2) G0 24 [true] [] [] 0 n3_ _ hC [pq h16] (sI h).symm
      ·obtain⟨y17,h18,y19,h20,h⟩:=A9 h
       refine wn G0 28 [false] [pc e50 (k50 x0 x2 y12.1 _ h18) [],pb e53 (k53 y17.1.Al y14.1 _ h20)] [] 0 n3_ [3,4,5,6,7,8,9,10,11,12,33,34,87] hC [pq h16] ?_
       rcases cB h with⟨h21,h⟩ | ⟨h21,h⟩
       ·exact wx w1b (Np x0 z0) (S6 x0 x1 x2) G0 24 [true] [] [] 0 n3_ _ hC [pq h21] (sI h).symm
       ·rcases cB h with⟨h22,h⟩ | ⟨h22,h⟩
        ·obtain⟨y23,h24,y25,h26,h⟩:=A9 h
         refine wn G0 31 [false,true] [pc e50 (k50 x0 x1 y8.1 _ h24) [],pb e53 (k53 y23.1.Al y10.1 _ h26)] [] 0 n3_ [3,4,5,6,7,8,33,34,102] hC [pq h21,pq h22] ?_
         rcases cB h with⟨h27,h⟩ | ⟨h27,h⟩
         ·exact wx w1b (Np x0 z0) (S6 x0 x1 x2) G0 24 [true] [] [] 0 n3_ _ hC [pq h27] (sI h).symm
         ·obtain⟨y28,h29,y30,h31,h⟩:=A9 h
          refine wn G0 25 [false] [pr q87 h29,pr q87 h31,pc e54 (k54 x0 y28 y30 _ rfl) []] [] 0 n3_ [3,4,5,6,7,8,33,34,115] hC [pq h27] ?_
          rcases cB h with⟨h32,h⟩ | ⟨h32,h⟩
          ·have hq:=hret1 _ (hr1 _ (sI h).symm)
           replace hq:=hret0 _ (hr0 _ (sI hq).symm)
           replace hq:=sI hq
           subst hq
           exact wr G0 24 [true] [] [] 0 [] hC [pq h32]
          ·exact wx w1b (Np x0 z0) (S6 x0 x1 x2) G0 25 [false] [] [] 0 n3_ _ hC [pq h32] (sI h).symm
        ·obtain⟨y33,h34,y35,h36,h⟩:=A9 h
         refine wn G0 30 [false,false] [pr q87 h34,pr q87 h36,pc e54 (k54 x0 y33 y35 _ rfl) []] [] 0 n3_ [3,4,5,6,7,8,33,34,115] hC [pq h21,pq h22] ?_
         rcases cB h with⟨h37,h⟩ | ⟨h37,h⟩
         ·have hq:=hret1 _ (hr1 _ (sI h).symm)
          replace hq:=hret0 _ (hr0 _ (sI hq).symm)
          replace hq:=sI hq
          subst hq
          exact wr G0 24 [true] [] [] 0 [] hC [pq h37]
         ·exact wx w1b (Np x0 z0) (S6 x0 x1 x2) G0 25 [false] [] [] 0 n3_ _ hC [pq h37] (sI h).symm
     ·exact wx w1 (Atp x0 z0) (Axk x0 x1 x2) G0 26 [false] [] [] 0 n3_ z1 hC [pq h7] (hb1 _ (sI h).symm)
    ·have h:=hnext1 _ hs1
     exact wx w0b (Af7 x0) (Aq3 x0 x1 x2) G0 23 [] [] [] 0 n3_ _ hC [] (sI h).symm
   ·exact wx w0 (Atq) (Axl) G0 26 [false] [] [] 0 [] z0 hC [pq h6] (hb0 _ (sI h).symm)
  ·have h:=hnext0 _ hs0
   replace h:=sI h
   subst h
   exact wr G0 23 [] [] [] 0 [] hC []
theorem e20:EN 20:=en Tryz.func20
def Ib:List Nat:=[0,1,2,3,4,5,6,7,12,16,31]
def Rj  (z0:Int×(List Aj)):St:=[(2,dO 7 0),(3,dO 8 0),(4,.d (DS q62 [])),(5,dS 9),(6,dI z0.1)]
def Xo (x0:Aa) (x1:Ab) (z0:Int×(List Aj)):List Res:=(zs x0 (zp x1 [.box 29 [I x0.Al,.os 0,.os 1,.os 2,I x0.Phase,I x0.Ar],.box 34 [.os 3,.os 4,.os 5,.os 6],v5_ z0.2]))
def Ag5  (z0:Int×(List Aj)):St:=[(4,.d (DS q62 [])),(5,dS 7)]
def Ajv (x0:Aa) (x1:Ab) (z0:Int×(List Aj)):List Res:=(zs x0 (zp x1 [v5_ z0.2]))
theorem A7t (x0:Aa) (x1:Ab) (r:(List Aj)) (h:Ark x0 x1=some r):CO 21 [.agg [I x0.Al,.os 0,.os 1,.os 2,I x0.Phase,I x0.Ar],.agg [.os 3,.os 4,.os 5,.os 6]] (zs x0 (zp x1 [])) (.d (.os 7)) (zs x0 (zp x1 [v5_ r])):=by
 unfold Ark at h
 refine co 37 Tryz.func21 λ C hC=>?_
 obtain⟨y1,h2,h⟩:=Aw h
 refine wn Ib 26 [] [pb e11 (k11 x0 x1 _ h2)] [] 7 n9_ [2,3,4,12] hC [] ?_
 rcases cB h with⟨h3,h⟩ | ⟨h3,h⟩
 ·replace h:=sI h
  subst h
  exact wr Ib 24 [true] [] [.own 4 62 3] 7 [0,1,2,3,4,5,6,9] hC [pq h3]
 ·refine ws Ib 28 [false] [] [.own 5 62 3] 7 Ia (Rj (0,([]:List Aj))) (Xo x0 x1 (0,([]:List Aj))) hC [pq h3] ?_
  obtain⟨w0,hm0,hret0,hnext0⟩:=Av h
  clear h
  refine wc w0 (Ag5) (Ajv x0 x1) ?_ λ z0 hs0=>?_
  ·refine wb ?_
   refine ww (Rj) (Xo x0 x1) hm0 λ z0 w0b h hb0 hr0=>?_
   unfold Ala at h
   rcases cB h with⟨h4,h⟩ | ⟨h4,h⟩
   ·obtain⟨y5,h6,y7,h8,h⟩:=A9 h
    refine wn Ib 32 [true] [⟨.call 50 [.agg [I x0.Al,.os 0,.os 1,.os 2,I x0.Phase,I x0.Ar],.agg [.os 3,.os 4,.os 5,.os 6],dI z0.1] (zs x0 (zp x1 [])) (.tup [.agg [.os 7,.os 8,.os 9],dB y5.2]) (zs x0 (zp x1 [v0_ y5.1.Al,v0_ y5.1.Ac,v0_ y5.1.Af])) n7_,⟨e50,((k50 x0 x1 z0.1 _ h6).lend (by kernel_rfl) (by kernel_rfl) (by kernel_rfl) ⟨Bh (λ _=>rfl),Bh (λ _=>rfl),Bh (λ _=>rfl),trivial⟩ (by kernel_rfl) (by kernel_rfl))⟩⟩,pr pI h8,pn pI h8] [] 7 Yy [2,3,4,5,6,7,31] hC [pq h4] ?_
    rcases cB h with⟨h9,h⟩ | ⟨h9,h⟩
    ·refine wn Ib 1 [true] [] [.frz 10] 7 [0,1,2,3,4,5,6,7,8,9,11,12,13] [2,3,4,5,6,7] hC [pq h9] ?_
     refine wn Ib 0 [] [] [.frz 10] 7 [0,1,2,3,4,5,6,7,8,9,11,12] [2,3,4,5,6,7] hC [] ?_
     refine wn Ib 0 [] [] [.frz 10] 7 [0,1,2,3,4,5,6,7,8,9,11] [2,3,4,5,6,7] hC [] ?_
     obtain⟨y10,h11,h⟩:=Aw h
     exact wx w0b (Rj) (Xo x0 x1) Ib 24 [] [pa q62 3 h11] [] 7 [0,1,2,3,4,5,6,7,8,11] _ hC [] (sI h).symm
    ·exact wx w0b (Rj) (Xo x0 x1) Ib 25 [false] [] [] 7 Ia _ hC [pq h9] (sI h).symm
   ·exact wx w0 (Ag5) (Ajv x0 x1) Ib 26 [false] [] [] 7 [0,1,2,3,4,5,6,9] (z0.1,z0.2) hC [pq h4] (hb0 _ (sI h).symm)
  ·have h:=hnext0 _ hs0
   replace h:=sI h
   subst h
   exact wr Ib 23 [] [] [] 7 n8_ hC []
theorem A79:EN 21:=en Tryz.func21
def R7:List Nat:=[0,1,2,3,4,5,7,9,14,15,16,17,21,22,23,24]
def yP (y3:(List Aj)) (n0:Nat) (z0:(List Ag)):St:=[(3,dO 0 0),(4,dO 1 0),(5,dO 6 0),(14,dS 7),(15,dI (ln y3)),(16,dI (cnt 0 n0))]
def Aj2 (x1:Ab) (y1:Ab) (y3:(List Aj)) (n0:Nat) (z0:(List Ag)):List Res:=(.box 34 (d34 x1) :: .box 34 [.os 8,.os 9,.os 10,.os 11]::v1_ y1.Ae::v4_ z0::v0_ y1.Am::v3_ y1.Ai :: .box 34 [.os 2,.os 3,.os 4,.os 5]::v5_ y3::ze [])
def Amv  (z0:(List Ag)):St:=[(4,dO 0 0),(5,dO 5 0)]
def An0 (y1:Ab) (z0:(List Ag)):List Res:=(.box 34 [.os 6,.os 7,.os 8,.os 9]::v1_ y1.Ae::v4_ z0::v0_ y1.Am::v3_ y1.Ai :: .box 34 [.os 1,.os 2,.os 3,.os 4]::ze [])
def yO (y3:(List Aj)) (n0:Nat) (a0:Aj) (n1:Nat) (z1:(List Ag)):St:=[(3,dO 0 0),(4,dO 1 0),(5,dO 6 0),(7,dO 12 0),(14,dS 7),(15,dI (ln y3)),(16,dI (cnt 0 n0)),(21,.d (DS pI a0.Ac)),(22,dI (ln a0.Ac)),(23,dI (cnt 0 n1))]
def Aj1 (x1:Ab) (y1:Ab) (y3:(List Aj)) (a0:Aj) (n1:Nat) (z1:(List Ag)):List Res:=(.box 34 (d34 x1) :: .box 34 [.os 8,.os 9,.os 10,.os 11]::v1_ y1.Ae::v4_ z1::v0_ y1.Am::v3_ y1.Ai :: .box 34 [.os 2,.os 3,.os 4,.os 5]::v5_ y3::ze [.box 62 (d62 a0)])
def Amu (y3:(List Aj)) (n0:Nat) (z1:(List Ag)):St:=[(3,dO 0 0),(4,dO 1 0),(5,dO 6 0),(14,dS 7),(15,dI (ln y3)),(16,dI (cnt 0 n0))]
def Anz (x1:Ab) (y1:Ab) (y3:(List Aj)) (z1:(List Ag)):List Res:=(.box 34 (d34 x1) :: .box 34 [.os 8,.os 9,.os 10,.os 11]::v1_ y1.Ae::v4_ z1::v0_ y1.Am::v3_ y1.Ai :: .box 34 [.os 2,.os 3,.os 4,.os 5]::v5_ y3::ze [])
theorem A8q (x0:Aa) (x1:Ab) (r:Ab) (h:Aro x0 x1=some r):CO 152 [.agg (d29 x0),.agg (d34 x1)] [] (.agg [.os 0,.os 1,.os 2,.os 3]) (zp r []):=by
 unfold Aro at h
 refine co 58 Tryz.func152 λ C hC=>?_
 obtain⟨y1,h2,y3,h4,h⟩:=A9 h
 refine ws R7 28 [] [pc Az1 (Azg x1 _ h2) [],pc e21 (k21 x0 x1 _ h4) [],pl q62 y3] [.ownb 2 0 4 1,.ownb 2 1 87 4,.ownb 2 2 3 1,.ownb 2 3 92 2] 0 [1,2,3,4,5,6,7,8,9,10,11,12] (yP y3 0 y1.Ac) (Aj2 x1 y1 y3 0 y1.Ac) hC [] ?_
 obtain⟨w0,hm0,hret0,hnext0⟩:=Av h
 clear h
 refine wc w0 (Amv) (An0 y1) ?_ λ z0 hs0=>?_
 ·refine wb ?_
  refine B2 14 7 rfl rfl λ hl0=>?_
  refine wl (yP y3) (Aj2 x1 y1 y3) hm0 (λ z0 hn0=>?_) λ n0 a0 z0 w0b hi0 hx0 h hb0 hr0=>?_
  ·clear hm0
   exact wx w0 (Amv) (An0 y1) R7 26 [false] [] [] 0 [1,2,3,4,5,6,8,9,10,11] _ hC [pq (A6 hl0)] hn0
  ·unfold Aa1 at h
   refine ws R7 32 [true] [pr q62 (Bd hx0 hl0),pn q62 (Bd hx0 hl0),pl pI a0.Ac] [] 0 Df (yO y3 n0 a0 0 z0) (Aj1 x1 y1 y3 a0 0 z0) hC [pq (A4 hi0 hl0)] ?_
   obtain⟨w1,hm1,hret1,hnext1⟩:=Av h
   clear h
   refine wc w1 (Amu y3 n0) (Anz x1 y1 y3) ?_ λ z1 hs1=>?_
   ·refine wb ?_
    refine Bq 21 rfl λ hl1=>?_
    refine wl (yO y3 n0 a0) (Aj1 x1 y1 y3 a0) hm1 (λ z1 hn1=>?_) λ n1 a1 z1 w1b hi1 hx1 h hb1 hr1=>?_
    ·clear hm1
     exact wx w1 (Amu y3 n0) (Anz x1 y1 y3) R7 26 [false] [] [] 0 E3 _ hC [pq (A6 hl1)] hn1
    ·unfold Aa0 at h
     obtain⟨y5,h6,y7,h8,y9,h10,y11,h12,h⟩:=Dd h
     obtain⟨y13,h14,y15,h16,y17,h18,y19,h20,h⟩:=Dd h
     exact wx w1b (yO y3 n0 a0 (n1+1)) (Aj1 x1 y1 y3 a0 (n1+1)) R7 33 [true] [pt hx1 hl1,pr pI h6,pr q87 h8,pr pI h10,pr q87 h12,pr q87 h14,pu q87 h14 h16,pr q87 h18,pu q87 h18 h20] [] 0 Df _ hC [pq (A4 hi1 hl1)] (sI h).symm
   ·have h:=hnext1 _ hs1
    exact wx w0b (yP y3 (n0+1)) (Aj2 x1 y1 y3 (n0+1)) R7 23 [] [] [] 0 E3 _ hC [] (sI h).symm
 ·have h:=hnext0 _ hs0
  replace h:=sI h
  subst h
  exact wr R7 23 [] [] [] 0 [1,2,3,4] hC []
theorem A9f:EN 152:=en Tryz.func152
def Gp:List Nat:=[0,1,2,3,4,5,6,7,8,9,10,12,13,15,16,17,19,21,26,35,36,37,38,56,57,58,59,85,120,121,122,123,142,145,146,147,148,155]
def Afx (y8:(List Aj)) (n0:Nat) (z0:Sg0):St:=[(2,dO 0 0),(3,dO 1 0),(4,dO 2 0),(5,.d (DS q47 [])),(6,dI 0),(8,dO 11 0),(9,dS 14),(10,dS 12),(35,dS 13),(36,dI (ln y8)),(37,dI (cnt 0 n0))]
def Aqt (x0:Aa) (x1:Ab) (y4:Ab) (y6:(List Int)) (y8:(List Aj)) (n0:Nat) (z0:Sg0):List Res:=(.box 29 (d29 x0) :: .box 34 (d34 x1) :: .box 34 [.os 3,.os 4,.os 5,.os 6]::ze [v1_ z0.1,v4_ y4.Ac,v0_ z0.2.1,v3_ y4.Ai,.box 34 [.os 7,.os 8,.os 9,.os 10],v0_ y6,v5_ y8,v2_ z0.2.2])
def As5  (z0:Sg0):St:=[(4,dO 0 0),(5,.d (DS q47 [])),(6,dI 0),(8,dO 9 0),(9,dS 10)]
def Aw0 (y4:Ab) (z0:Sg0):List Res:=(.box 34 [.os 1,.os 2,.os 3,.os 4]::ze [v1_ z0.1,v4_ y4.Ac,v0_ z0.2.1,v3_ y4.Ai,.box 34 [.os 5,.os 6,.os 7,.os 8],v2_ z0.2.2])
def jL (y6:(List Int)) (y8:(List Aj)) (n0:Nat) (n1:Nat) (z1:Int×(List Int)×(List Ak)):St:=[(2,dO 0 0),(3,dO 1 0),(4,dO 2 0),(5,.d (DS q47 [])),(6,dI 0),(8,dO 11 0),(9,dS 14),(10,dS 12),(12,dO 15 0),(13,dI z1.1),(35,dS 13),(36,dI (ln y8)),(37,dI (cnt 0 n0)),(56,dS 12),(57,dI (ln y6)),(58,dI (cnt 0 n1))]
def Aes (x0:Aa) (x1:Ab) (y4:Ab) (y6:(List Int)) (y8:(List Aj)) (z0:Sg0) (a0:Aj) (n1:Nat) (z1:Int×(List Int)×(List Ak)):List Res:=(.box 29 (d29 x0) :: .box 34 (d34 x1) :: .box 34 [.os 3,.os 4,.os 5,.os 6]::ze [v1_ z0.1,v4_ y4.Ac,v0_ z1.2.1,v3_ y4.Ai,.box 34 [.os 7,.os 8,.os 9,.os 10],v0_ y6,v5_ y8,v2_ z1.2.2,.box 62 (d62 a0)])
def As4 (y8:(List Aj)) (n0:Nat) (z1:Int×(List Int)×(List Ak)):St:=[(2,dO 0 0),(3,dO 1 0),(4,dO 2 0),(5,.d (DS q47 [])),(6,dI 0),(8,dO 11 0),(9,dS 14),(10,dS 12),(12,dO 15 0),(13,dI z1.1),(35,dS 13),(36,dI (ln y8)),(37,dI (cnt 0 n0))]
def Awz (x0:Aa) (x1:Ab) (y4:Ab) (y6:(List Int)) (y8:(List Aj)) (z0:Sg0) (a0:Aj) (z1:Int×(List Int)×(List Ak)):List Res:=(.box 29 (d29 x0) :: .box 34 (d34 x1) :: .box 34 [.os 3,.os 4,.os 5,.os 6]::ze [v1_ z0.1,v4_ y4.Ac,v0_ z1.2.1,v3_ y4.Ai,.box 34 [.os 7,.os 8,.os 9,.os 10],v0_ y6,v5_ y8,v2_ z1.2.2,.box 62 (d62 a0)])
def jK (y6:(List Int)) (y8:(List Aj)) (n0:Nat) (n2:Nat) (z2:Int×(List Bool)×(List Ak)):St:=[(2,dO 0 0),(3,dO 1 0),(4,dO 2 0),(5,.d (DS q47 [])),(6,dI 0),(8,dO 11 0),(9,dS 14),(10,dS 12),(12,dO 15 0),(13,dI z2.1),(35,dS 13),(36,dI (ln y8)),(37,dI (cnt 0 n0)),(120,dS 12),(121,dI (ln y6)),(122,dI (cnt 0 n2))]
def Aer (x0:Aa) (x1:Ab) (y4:Ab) (y6:(List Int)) (y8:(List Aj)) (a0:Aj) (z1:Int×(List Int)×(List Ak)) (n2:Nat) (z2:Int×(List Bool)×(List Ak)):List Res:=(.box 29 (d29 x0) :: .box 34 (d34 x1) :: .box 34 [.os 3,.os 4,.os 5,.os 6]::ze [v1_ z2.2.1,v4_ y4.Ac,v0_ z1.2.1,v3_ y4.Ai,.box 34 [.os 7,.os 8,.os 9,.os 10],v0_ y6,v5_ y8,v2_ z2.2.2,.box 62 (d62 a0)])
def As3 (y8:(List Aj)) (n0:Nat) (z2:Int×(List Bool)×(List Ak)):St:=[(2,dO 0 0),(3,dO 1 0),(4,dO 2 0),(5,.d (DS q47 [])),(6,dI 0),(8,dO 11 0),(9,dS 14),(10,dS 12),(35,dS 13),(36,dI (ln y8)),(37,dI (cnt 0 n0))]
def Awy (x0:Aa) (x1:Ab) (y4:Ab) (y6:(List Int)) (y8:(List Aj)) (z1:Int×(List Int)×(List Ak)) (z2:Int×(List Bool)×(List Ak)):List Res:=(.box 29 (d29 x0) :: .box 34 (d34 x1) :: .box 34 [.os 3,.os 4,.os 5,.os 6]::ze [v1_ z2.2.1,v4_ y4.Ac,v0_ z1.2.1,v3_ y4.Ai,.box 34 [.os 7,.os 8,.os 9,.os 10],v0_ y6,v5_ y8,v2_ z2.2.2])
def jJ (y6:(List Int)) (y8:(List Aj)) (n0:Nat) (z2:Int×(List Bool)×(List Ak)) (n2:Nat) (a2:Int) (y38:(List Int)) (n3:Nat) (z3:(List Bool)×(List Ak)):St:=[(2,dO 0 0),(3,dO 1 0),(4,dO 2 0),(5,.d (DS q47 [])),(6,dI 0),(8,dO 11 0),(9,dS 14),(10,dS 12),(12,dO 15 0),(13,dI z2.1),(19,dI a2),(35,dS 13),(36,dI (ln y8)),(37,dI (cnt 0 n0)),(120,dS 12),(121,dI (ln y6)),(122,dI (cnt 0 n2)),(145,dS 16),(146,dI (ln y38)),(147,dI (cnt 0 n3))]
def Aeq (x0:Aa) (x1:Ab) (y4:Ab) (y6:(List Int)) (y8:(List Aj)) (a0:Aj) (z1:Int×(List Int)×(List Ak)) (y38:(List Int)) (n3:Nat) (z3:(List Bool)×(List Ak)):List Res:=(.box 29 (d29 x0) :: .box 34 (d34 x1) :: .box 34 [.os 3,.os 4,.os 5,.os 6]::ze [v1_ z3.1,v4_ y4.Ac,v0_ z1.2.1,v3_ y4.Ai,.box 34 [.os 7,.os 8,.os 9,.os 10],v0_ y6,v5_ y8,v2_ z3.2,.box 62 (d62 a0),v0_ y38])
def As2 (y6:(List Int)) (y8:(List Aj)) (n0:Nat) (z2:Int×(List Bool)×(List Ak)) (n2:Nat) (a2:Int) (z3:(List Bool)×(List Ak)):St:=[(2,dO 0 0),(3,dO 1 0),(4,dO 2 0),(5,.d (DS q47 [])),(6,dI 0),(8,dO 11 0),(9,dS 14),(10,dS 12),(12,dO 15 0),(13,dI z2.1),(19,dI a2),(35,dS 13),(36,dI (ln y8)),(37,dI (cnt 0 n0)),(120,dS 12),(121,dI (ln y6)),(122,dI (cnt 0 n2))]
def Awx (x0:Aa) (x1:Ab) (y4:Ab) (y6:(List Int)) (y8:(List Aj)) (a0:Aj) (z1:Int×(List Int)×(List Ak)) (z3:(List Bool)×(List Ak)):List Res:=(.box 29 (d29 x0) :: .box 34 (d34 x1) :: .box 34 [.os 3,.os 4,.os 5,.os 6]::ze [v1_ z3.1,v4_ y4.Ac,v0_ z1.2.1,v3_ y4.Ai,.box 34 [.os 7,.os 8,.os 9,.os 10],v0_ y6,v5_ y8,v2_ z3.2,.box 62 (d62 a0)])
set_option maxHeartbeats 4000000 in
theorem k67 (x0 : Aa) (x1 : Ab) (r : Ab × (List Ak) × Int) (h : F67 x0 x1 = some r) : CO 67 [.agg (d29 x0), .agg (d34 x1)] [] (.tup [.agg [.os 0, .os 1, .os 2, .os 3], .d (.os 4), .d (I r.2.2)]) (zp r.1 [v2_ r.2.1]) := by
 unfold F67 at h
 refine co 177 Tryz.func67 λ C hC=>?_
 obtain⟨y1,h2,h⟩:=Aw h
 refine wn Gp 28 [] [pc e11 (k11 x0 x1 _ h2) []] [.ownb 2 0 4 1,.ownb 2 1 87 4,.ownb 2 2 3 1,.ownb 2 3 92 2] 0 n7_ [2,3,4,5,6,7,26] hC [] ?_
 rcases cB h with⟨h3,h⟩ | ⟨h3,h⟩
 ·replace h:=sI h
  subst h
  exact wr Gp 24 [true] [] [.ownb 2 0 4 1,.ownb 2 1 87 4,.ownb 2 2 3 1,.ownb 2 3 92 2,.own 5 47 3] 0 [7,8,9,10,11] hC [pq h3]
 ·obtain ⟨y4, h5, y6, h7, y8, h9, h⟩ := By h
  refine ws Gp 32 [false] [pc Az1 (Azg x1 _ h5) [],pc e12 (k12 x0 _ h7) [],pc e21 (k21 x0 x1 _ h9) [],pl q62 y8] [.own 9 47 3] 0 Eo (Afx y8 0 (y4.Ae,y4.Am,([]:List Ak))) (Aqt x0 x1 y4 y6 y8 0 (y4.Ae,y4.Am,([]:List Ak))) hC [pq h3] ?_
  obtain⟨w0,hm0,hret0,hnext0⟩:=Av h
  clear h
  refine wc w0 (As5) (Aw0 y4) ?_ λ z0 hs0=>?_
  ·refine wb ?_
   refine B2 35 13 rfl rfl λ hl0=>?_
   refine wl (Afx y8) (Aqt x0 x1 y4 y6 y8) hm0 (λ z0 hn0=>?_) λ n0 a0 z0 w0b hi0 hx0 h hb0 hr0=>?_
   ·clear hm0
    exact wx w0 (As5) (Aw0 y4) Gp 26 [false] [] [] 0 [2,3,4,5,6,7,8,9,10,11,14] _ hC [pq (A6 hl0)] hn0
   ·unfold Aku at h
    obtain⟨y10,h11,y12,h13,y14,h15,y16,h17,h⟩:=Dd h
    refine ws Gp 35 [true] [pr q62 (Bd hx0 hl0),pn q62 (Bd hx0 hl0),pr pI h11,pc e17 (k17 x0 x1 y10 _ h13) [],pr pI h15,pc e18 (k18 x0 x1 y14 _ h17) [],pl pI y6] [] 0 Nw (jL y6 y8 n0 0 (w64 (y12-y16),z0.2.1,z0.2.2)) (Aes x0 x1 y4 y6 y8 z0 a0 0 (w64 (y12-y16),z0.2.1,z0.2.2)) hC [pq (A4 hi0 hl0)] ?_
    obtain⟨w1,hm1,hret1,hnext1⟩:=Av h
    clear h
    refine wc w1 (As4 y8 n0) (Awz x0 x1 y4 y6 y8 z0 a0) ?_ λ z1 hs1=>?_
    ·refine wb ?_
     refine B2 56 12 rfl rfl λ hl1=>?_
     refine wl (jL y6 y8 n0) (Aes x0 x1 y4 y6 y8 z0 a0) hm1 (λ z1 hn1=>?_) λ n1 a1 z1 w1b hi1 hx1 h hb1 hr1=>?_
     ·clear hm1
      exact wx w1 (As4 y8 n0) (Awz x0 x1 y4 y6 y8 z0 a0) Gp 26 [false] [] [] 0 Nw _ hC [pq (A6 hl1)] hn1
     ·unfold Akt at h
      obtain⟨y18,h19,y20,h21,y22,h23,h⟩:=By h
      refine wn Gp 35 [true] [pr pI (Bd hx1 hl1),pn pI (Bd hx1 hl1),pr q90 h19,pw e53 (λ hg=>k53 a0.Af a1 _ (A1 h21 hg)) [],pR pI h23,pN pI h23] [] 0 Nw [2,3,4,5,6,8,9,10,12,13,15,16,35,36,37,56,57,58,85] hC [pq (A4 hi1 hl1)] ?_
      rcases cB h with⟨h24,h⟩ | ⟨h24,h⟩
      ·exact wx w1b (jL y6 y8 n0 (n1+1)) (Aes x0 x1 y4 y6 y8 z0 a0 (n1+1)) Gp 24 [true] [] [] 0 Nw _ hC [pq h24] (sI h).symm
      ·obtain⟨y25,h26,y27,h28,y29,h30,y31,h32,h⟩:=Dd h
       exact wx w1b (jL y6 y8 n0 (n1+1)) (Aes x0 x1 y4 y6 y8 z0 a0 (n1+1)) Gp 30 [false] [pr pI h26,pn pI h26,pr pI h26,pn pI h26,pr pI h26,pu pI h26 h28,pr pI h30,pn pI h30,pa q47 3 h32] [] 0 [0,1,2,3,4,5,6,7,8,9,10,11,12,13,16,15] _ hC [pq h24] (sI h).symm
    ·have h := hnext1 _ hs1
     refine ws Gp 23 [] [pl pI y6] [] 0 Nw (jK y6 y8 n0 0 (z1.1,z0.1,z1.2.2)) (Aer x0 x1 y4 y6 y8 a0 z1 0 (z1.1,z0.1,z1.2.2)) hC [] ?_
     obtain⟨w2,hm2,hret2,hnext2⟩:=Av h
     clear h
     refine wc w2 (As3 y8 n0) (Awy x0 x1 y4 y6 y8 z1) ?_ λ z2 hs2=>?_
     ·refine wb ?_
      refine B2 120 12 rfl rfl λ hl2=>?_
      refine wl (jK y6 y8 n0) (Aer x0 x1 y4 y6 y8 a0 z1) hm2 (λ z2 hn2=>?_) λ n2 a2 z2 w2b hi2 hx2 h hb2 hr2=>?_
      ·clear hm2
       exact wx w2 (As3 y8 n0) (Awy x0 x1 y4 y6 y8 z1) Gp 26 [false] [] [] 0 Eo _ hC [pq (A6 hl2)] hn2
      ·unfold Aks at h
       obtain⟨y33,h34,y35,h36,h⟩:=A9 h
       refine wn Gp 33 [true] [pr pI (Bd hx2 hl2),pn pI (Bd hx2 hl2),pw e53 (λ hg=>k53 a0.Af a2 _ (A1 h34 hg)) [],pR pI h36,pN pI h36] [] 0 Nw [2,3,4,5,6,8,9,10,12,13,19,35,36,37,120,121,122,142] hC [pq (A4 hi2 hl2)] ?_
       rcases cB h with⟨h37,h⟩ | ⟨h37,h⟩
       ·exact wx w2b (jK y6 y8 n0 (n2+1)) (Aer x0 x1 y4 y6 y8 a0 z1 (n2+1)) Gp 24 [true] [] [] 0 Nw _ hC [pq h37] (sI h).symm
       ·obtain⟨y38,h39,h⟩:=Aw h
        refine ws Gp 26 [false] [pc e16 (k16 x0 3 a2 _ h39) [],pl pI y38] [] 0 Ao3 (jJ y6 y8 n0 z2 n2 a2 y38 0 (z2.2.1,z2.2.2)) (Aeq x0 x1 y4 y6 y8 a0 z1 y38 0 (z2.2.1,z2.2.2)) hC [pq h37] ?_
        obtain⟨w3,hm3,hret3,hnext3⟩:=Av h
        clear h
        refine wc w3 (As2 y6 y8 n0 z2 n2 a2) (Awx x0 x1 y4 y6 y8 a0 z1) ?_ λ z3 hs3=>?_
        ·refine wb ?_
         refine B2 145 16 rfl rfl λ hl3=>?_
         refine wl (jJ y6 y8 n0 z2 n2 a2 y38) (Aeq x0 x1 y4 y6 y8 a0 z1 y38) hm3 (λ z3 hn3=>?_) λ n3 a3 z3 w3b hi3 hx3 h hb3 hr3=>?_
         ·clear hm3
          exact wx w3 (As2 y6 y8 n0 z2 n2 a2) (Awx x0 x1 y4 y6 y8 a0 z1) Gp 26 [false] [] [] 0 Nw _ hC [pq (A6 hl3)] hn3
         ·unfold Akr at h
          obtain⟨y40,h41,h⟩:=Aw h
          refine wn Gp 32 [true] [pr pI (Bd hx3 hl3),pn pI (Bd hx3 hl3),pr pB h41,pn pB h41] [] 0 Ao3 [2,3,4,5,6,8,9,10,12,13,19,21,35,36,37,120,121,122,145,146,147,155] hC [pq (A4 hi3 hl3)] ?_
          rcases cB h with⟨h42,h⟩ | ⟨h42,h⟩
          ·obtain⟨y43,h44,y45,h46,h⟩:=A9 h
           exact wx w3b (jJ y6 y8 n0 z2 n2 a2 y38 (n3+1)) (Aeq x0 x1 y4 y6 y8 a0 z1 y38 (n3+1)) Gp 27 [true] [pr pB h41,pu pB h41 h44,pa q47 3 h46] [] 0 [0,1,2,3,4,5,6,7,8,9,10,11,12,13,17,15,16] _ hC [pq h42] (sI h).symm
          ·exact wx w3b (jJ y6 y8 n0 z2 n2 a2 y38 (n3+1)) (Aeq x0 x1 y4 y6 y8 a0 z1 y38 (n3+1)) Gp 25 [false] [] [] 0 Ao3 _ hC [pq h42] (sI h).symm
        ·have h:=hnext3 _ hs3
         obtain⟨y47,h48,h⟩:=Aw h
         exact wx w2b (jK y6 y8 n0 (n2+1)) (Aer x0 x1 y4 y6 y8 a0 z1 (n2+1)) Gp 24 [] [pr pI h48,pn pI h48] [] 0 Nw _ hC [] (sI h).symm
     ·have h:=hnext2 _ hs2
      exact wx w0b (Afx y8 (n0+1)) (Aqt x0 x1 y4 y6 y8 (n0+1)) Gp 23 [] [] [] 0 Eo _ hC [] (sI h).symm
  ·have h:=hnext0 _ hs0
   replace h:=sI h
   subst h
   exact wr Gp 23 [] [] [] 0 [5,6,7,8,10] hC []
theorem e67:EN 67:=en Tryz.func67
def W0:List Nat:=[0,1,2,3,4,6,7,9,12,13,14,15,21]
def yT (x2:Int) (y1:(List Aj)) (n0:Nat) (z0:Unit):St:=[(2,dI x2),(6,dO 0 0),(7,dB false),(12,dS 1),(13,dI (ln y1)),(14,dI (cnt 0 n0))]
def Aj6 (y1:(List Aj)) (n0:Nat) (z0:Unit):List Res:=[.box 62 [.os 2,.os 3,.os 4],v5_ y1,v0_ ([]:List Int),v0_ ([]:List Int),v0_ ([]:List Int)]
def Am3  (z0:Unit):St:=[(6,dO 0 0),(7,dB false)]
def An8  (z0:Unit):List Res:=[.box 62 [.os 1,.os 2,.os 3],v0_ ([]:List Int),v0_ ([]:List Int),v0_ ([]:List Int)]
theorem zT (x0:Aa) (x1:Ab) (x2:Int) (r:Aj×Bool) (h:Io x0 x1 x2=some r):CO 105 [.agg (d29 x0),.agg (d34 x1),.d (I x2)] [] (.tup [.agg (d62 r.1),.d (Bo r.2)]) []:=by
 unfold Io at h
 refine co 25 Tryz.func105 λ C hC=>?_
 obtain⟨y1,h2,h⟩:=Aw h
 refine ws W0 26 [] [pc A57 (A4z x0 x1 _ h2) [],pl q62 y1] [.ownb 2 0 3 1,.ownb 2 1 3 1,.ownb 2 2 3 1] 0 [2,3,4,5,6] (yT x2 y1 0 ()) (Aj6 y1 0 ()) hC [] ?_
 obtain⟨w0,hm0,hret0,hnext0⟩:=Av h
 clear h
 refine wc w0 (Am3) (An8) ?_ λ z0 hs0=>?_
 ·refine wb ?_
  refine B2 12 1 rfl rfl λ hl0=>?_
  refine wl (yT x2 y1) (Aj6 y1) hm0 (λ z0 hn0=>?_) λ n0 a0 z0 w0b hi0 hx0 h hb0 hr0=>?_
  ·clear hm0
   exact wx w0 (Am3) (An8) W0 26 [false] [] [] 0 [0,2,3,4] _ hC [pq (A6 hl0)] hn0
  ·unfold Nj at h
   obtain⟨y3,h4,h⟩:=Aw h
   refine wn W0 32 [true] [pr q62 (Bd hx0 hl0),pn q62 (Bd hx0 hl0),pc e59 (k59 a0.Al x2 _ h4) []] [] 0 n6_ [2,6,7,9,12,13,14,21] hC [pq (A4 hi0 hl0)] ?_
   rcases cB h with⟨h5,h⟩ | ⟨h5,h⟩
   ·have hq:=hret0 _ (hr0 _ (sI h).symm)
    replace hq:=sI hq
    subst hq
    exact wr W0 24 [true] [] [] 0 [] hC [pq h5]
   ·exact wx w0b (yT x2 y1 (n0+1)) (Aj6 y1 (n0+1)) W0 25 [false] [] [] 0 n5_ _ hC [pq h5] (sI h).symm
 ·have h:=hnext0 _ hs0
  replace h:=sI h
  subst h
  exact wr W0 23 [] [] [.ownb 0 0 3 1,.frz 4,.ownb 0 1 3 1,.frz 5,.ownb 0 2 3 1,.frz 6] 0 [] hC []
theorem Aae:EN 105:=en Tryz.func105
def O6:List Nat:=[0,1,2,3,4,5,6,7,9,14,21,22,23,24,30]
def Wq (y6:(List Aj)) (n0:Nat) (z0:(List Ag)):St:=[(3,dO 0 0),(4,dO 1 0),(5,dI 0),(7,dO 10 0),(21,dS 11),(22,dI (ln y6)),(23,dI (cnt 0 n0))]
def vG (x1:Ab) (y4:Ab) (y6:(List Aj)) (n0:Nat) (z0:(List Ag)):List Res:=(.box 34 (d34 x1) :: .box 34 [.os 2,.os 3,.os 4,.os 5]::ze [v1_ y4.Ae,v4_ z0,v0_ y4.Am,v3_ y4.Ai,.box 34 [.os 6,.os 7,.os 8,.os 9],v5_ y6])
def Am1  (z0:(List Ag)):St:=[(4,dO 0 0),(5,dI 0),(7,dO 9 0)]
def An6 (y4:Ab) (z0:(List Ag)):List Res:=(.box 34 [.os 1,.os 2,.os 3,.os 4]::ze [v1_ y4.Ae,v4_ z0,v0_ y4.Am,v3_ y4.Ai,.box 34 [.os 5,.os 6,.os 7,.os 8]])
theorem A40 (x0:Aa) (x1:Ab) (r:Ab×Int) (h:Aa7 x0 x1=some r):CO 123 [.agg (d29 x0),.agg (d34 x1)] [] (.tup [.agg [.os 0,.os 1,.os 2,.os 3],.d (I r.2)]) (zp r.1 []):=by
 unfold Aa7 at h
 refine co 45 Tryz.func123 λ C hC=>?_
 obtain⟨y1,h2,h⟩:=Aw h
 refine wn O6 28 [] [pc e44 (k44 x0 x1 _ h2) []] [.ownb 2 0 4 1,.ownb 2 1 87 4,.ownb 2 2 3 1,.ownb 2 3 92 2] 0 n7_ [2,3,4,5,6,14] hC [] ?_
 rcases cB h with⟨h3,h⟩ | ⟨h3,h⟩
 ·replace h:=sI h
  subst h
  exact wr O6 24 [true] [] [.ownb 2 0 4 1,.ownb 2 1 87 4,.ownb 2 2 3 1,.ownb 2 3 92 2] 0 [7,8,9,10] hC [pq h3]
 ·obtain⟨y4,h5,y6,h7,h⟩:=A9 h
  refine ws O6 28 [false] [pc e35 (k35 x1 _ h5) [],pc A57 (A4z x0 x1 _ h7) [],pl q62 y6] [] 0 [1,2,3,4,5,6,7,8,9,10,11,12] (Wq y6 0 y4.Ac) (vG x1 y4 y6 0 y4.Ac) hC [pq h3] ?_
  obtain⟨w0,hm0,hret0,hnext0⟩:=Av h
  clear h
  refine wc w0 (Am1) (An6 y4) ?_ λ z0 hs0=>?_
  ·refine wb ?_
   refine B2 21 11 rfl rfl λ hl0=>?_
   refine wl (Wq y6) (vG x1 y4 y6) hm0 (λ z0 hn0=>?_) λ n0 a0 z0 w0b hi0 hx0 h hb0 hr0=>?_
   ·clear hm0
    exact wx w0 (Am1) (An6 y4) O6 26 [false] [] [] 0 [1,2,3,4,5,6,7,8,9,10] _ hC [pq (A6 hl0)] hn0
   ·unfold Aa6 at h
    refine wn O6 32 [true] [pr q62 (Bd hx0 hl0),pn q62 (Bd hx0 hl0),pl pI a0.Ac] [] 0 Df [3,4,5,7,9,21,22,23,30] hC [pq (A4 hi0 hl0)] ?_
    rcases cB h with⟨h8,h⟩ | ⟨h8,h⟩
    ·obtain⟨y9,h10,y11,h12,y13,h14,h⟩:=By h
     exact wx w0b (Wq y6 (n0+1)) (vG x1 y4 y6 (n0+1)) O6 25 [true] [pr pI h10,pr q87 h12,pc Aiu (Ah4 (⟨y4.Ae,z0,y4.Am,y4.Ai⟩:Ab) a0.Ac y11 _ h14) [6,7,8,9]] [] 0 E3 _ hC [pq h8] (sI h).symm
    ·exact wx w0b (Wq y6 (n0+1)) (vG x1 y4 y6 (n0+1)) O6 25 [false] [] [] 0 E3 _ hC [pq h8] (sI h).symm
  ·have h:=hnext0 _ hs0
   replace h:=sI h
   subst h
   exact wr O6 23 [] [] [] 0 [5,6,7,8] hC []
theorem A58:EN 123:=en Tryz.func123
def qM:List Nat:=[0,1,2,3,4,6,7,9,30,32,33,40]
theorem A8n (x0:Aa) (x1:Ab) (x2:Int) (r:Bool) (h:Z1 x0 x1 x2=some r):CO 169 [.agg (d29 x0),.agg (d34 x1),.d (I x2)] [] (.d (Bo r)) []:=by
 unfold Z1 at h
 refine co 74 Tryz.func169 λ C hC=>?_
 obtain⟨y1,h2,y3,h4,y5,h6,y7,h8,h⟩:=Dd h
 refine wn qM 28 [] [pr q49 h2,pr pB h4,pw e76 (λ hg=>k76 x1 2 x2 _ (A1 h6 hg)) [],pw e76 (λ hg=>k76 x1 3 y1.A _ (A1 h8 hg)) []] [] 0 n3_ [3,4,6,7,30] hC [] ?_
 rcases cB h with⟨h9,h⟩ | ⟨h9,h⟩
 ·replace h:=sI h
  subst h
  exact wr qM 24 [true] [] [] 0 [] hC [pq h9]
 ·rcases cB h with⟨h10,h⟩ | ⟨h10,h⟩
  ·obtain⟨y11,h12,h⟩:=Aw h
   replace h:=sI h
   subst h
   exact wr qM 32 [false,true] [pc e76 (k76 x1 3 y1.B _ h12) []] [] 0 [] hC [pq h9,pq h10]
  ·rcases cB h with⟨h13,h⟩ | ⟨h13,h⟩
   ·obtain⟨y14,h15,y16,h17,h⟩:=A9 h
    replace h:=sI h
    subst h
    exact wr qM 35 [false,false,true] [pc e76 (k76 x1 1 y1.B _ h15) [],pR q87 h17] [] 0 [] hC [pq h9,pq h10,pq h13]
   ·obtain⟨y18,h19,y20,h21,h⟩:=A9 h
    replace h:=sI h
    subst h
    exact wr qM 39 [false,false,false] [pc e86 (k86 x0 x1 y1.B _ h19) [],pc e76 (k76 x1 4 y1.B _ h21) []] [] 0 [] hC [pq h9,pq h10,pq h13]
theorem A9c:EN 169:=en Tryz.func169
def Nd:List Nat:=[0,2,3,24,25,26,66]
def Ox (y1:Ab×Int) (z0:Int×(List Ag)):St:=[(0,dO 0 0),(24,dI (ln y1.1.Ac)),(25,dI z0.1)]
def Tg (x0:A0) (y1:Ab×Int) (z0:Int×(List Ag)):List Res:=(.box 107 (zb x0.An [.os 5,.os 6,.os 7,.os 8,I x0.time])::zp x0.Aq [v1_ y1.1.Ae,v4_ z0.2,v0_ y1.1.Am,v3_ y1.1.Ai])
def Aca  (z0:Int×(List Ag)):St:=[]
def Adp (x0:A0) (y1:Ab×Int) (z0:Int×(List Ag)):List Res:=(.box 107 (zb x0.An [.os 5,.os 6,.os 7,.os 8,I x0.time])::zp x0.Aq [v1_ y1.1.Ae,v4_ z0.2,v0_ y1.1.Am,v3_ y1.1.Ai])
theorem A47 (x0:A0) (r:A0) (h:Ko x0=some r):CO 115 [.d (.o 0 0)] (.box 107 (zb x0.An [.os 1,.os 2,.os 3,.os 4,I x0.time])::zp x0.Aq []) (.tup []) (.box 107 (zb r.An [.os 5,.os 6,.os 7,.os 8,I r.time]) :: .non :: .non :: .non :: .non::zp r.Aq []):=by
 unfold Ko at h
 refine co 71 Tryz.func115 λ C hC=>?_
 obtain⟨y1,h2,h⟩:=Aw h
 refine ws Nd 25 [] [⟨.call 147 [.agg (d29 x0.An),.agg [.os 0,.os 1,.os 2,.os 3]] (zp x0.Aq []) (.tup [.agg [.os 4,.os 5,.os 6,.os 7],dI y1.2]) (zp x0.Aq (zp y1.1 [])) [1,2,3,4],⟨A9g,((A8r x0.An x0.Aq _ h2).lend (by kernel_rfl) (by kernel_rfl) (by kernel_rfl) ⟨Bh (λ _=>rfl),Bh (λ _=>rfl),Bh (λ _=>rfl),Bh (λ _=>rfl),trivial⟩ (by kernel_rfl) (by kernel_rfl))⟩⟩,pl q87 y1.1.Ac] [] 5 n9_ (Ox y1 (0,y1.1.Ac)) (Tg x0 y1 (0,y1.1.Ac)) hC [] ?_
 obtain⟨w0,hm0,hret0,hnext0⟩:=Av h
 clear h
 refine wc w0 (Aca) (Adp x0 y1) ?_ λ z0 hs0=>?_
 ·refine wb ?_
  refine ww (Ox y1) (Tg x0 y1) hm0 λ z0 w0b h hb0 hr0=>?_
  unfold Pm at h
  rcases cB h with⟨h3,h⟩ | ⟨h3,h⟩
  ·obtain⟨y4,h5,y6,h7,y8,h9,h⟩:=By h
   refine wn Nd 34 [true] [pr q87 h5,pn q87 h5,pv Ait (λ hg=>Ah3 (⟨x0.An,(⟨y1.1.Ae,z0.2,y1.1.Am,y1.1.Ai⟩:Ab),x0.time⟩:A0) z0.1 _ (A1 h7 hg)),⟨.when [(((y4.State==1)&&y6),true)] (.row (z0.2.map q87) (((Int.toNat z0.1):Nat):Int) (q87 y4)),λ hg=>Ku h5⟩,pR q98 h9] [] 5 n9_ [0,3,24,25,66] hC [pq h3] ?_
   rcases cB h with⟨h10,h⟩ | ⟨h10,h⟩
   ·obtain⟨y11,h12,h⟩:=Aw h
    exact wx w0b (Ox y1) (Tg x0 y1) Nd 25 [true] [pu q87 h5 h12] [] 5 n9_ _ hC [pq h10] (sI h).symm
   ·exact wx w0b (Ox y1) (Tg x0 y1) Nd 25 [false] [] [] 5 n9_ _ hC [pq h10] (sI h).symm
  ·exact wx w0 (Aca) (Adp x0 y1) Nd 26 [false] [] [] 5 n9_ (z0.1,z0.2) hC [pq h3] (hb0 _ (sI h).symm)
 ·have h:=hnext0 _ hs0
  replace h:=sI h
  subst h
  exact wf Nd 20 [] [] [.frz 1,.frz 2,.frz 3,.frz 4] 5 n9_ hC []
theorem A6f:EN 115:=en Tryz.func115
theorem k22 (x0:Aa) (x1:Ab) (x2:Int) (r:Bool) (h:F22 x0 x1 x2=some r):CO 22 [.agg (d29 x0),.agg (d34 x1),.d (I x2)] [] (.d (Bo r)) []:=by
 unfold F22 at h
 refine co 16 Tryz.func22 λ C hC=>?_
 obtain⟨y1,h2,y3,h4,h⟩:=A9 h
 replace h:=sI h
 subst h
 exact wr [0,1,2,3,4,6] 25 [] [pc e17 (k17 x0 x1 x2 _ h2) [],pc e18 (k18 x0 x1 x2 _ h4) []] [] 0 [] hC []
theorem e22:EN 22:=en Tryz.func22
end Go.Proofs.YtcigbocngfaopaaGreat
