import Derived.Test.YtcigbocngfaopaaGreatM0
set_option linter.unusedVariables false
set_option maxHeartbeats 4000000
namespace Go.Proofs.YtcigbocngfaopaaGreat
open Go.SL
def Ec:List Nat:=[0,1,2,3,4,5,7,8,9,10,11,12,13,15,19,45,47,48,49,50,74,77,78,79,80,92,97,99,100,101,102,124,128,129,130,134,135,136,137,144,149]
def Afj (x1:Ab) (n0:Nat) (z0:Unit):St:=[(2,dO 0 0),(3,dO 1 0),(4,dI 0),(47,.d (DS q87 x1.Ac)),(48,dI (ln x1.Ac)),(49,dI (cnt 0 n0))]
def Aqa (x0:Aa) (x1:Ab) (n0:Nat) (z0:Unit):List Res:=[.box 29 (d29 x0),.box 34 (d34 x1)]
def Asx  (z0:Unit):St:=[(2,dO 0 0),(3,dO 1 0),(4,dI 0)]
def Awk (x0:Aa) (x1:Ab) (z0:Unit):List Res:=[.box 29 (d29 x0),.box 34 (d34 x1)]
def Afi (x1:Ab) (n1:Nat) (z1:Unit):St:=[(2,dO 0 0),(3,dO 1 0),(4,dI 0),(77,.d (DS pI x1.Al)),(78,dI (ln x1.Al)),(79,dI (cnt 0 n1))]
def Ap9 (x0:Aa) (x1:Ab) (n1:Nat) (z1:Unit):List Res:=[.box 29 (d29 x0),.box 34 (d34 x1)]
def Asw  (z1:Unit):St:=[(2,dO 0 0),(3,dO 1 0),(4,dI 0)]
def Awj (x0:Aa) (x1:Ab) (z1:Unit):List Res:=[.box 29 (d29 x0),.box 34 (d34 x1)]
def Afh (x1:Ab) (n2:Nat) (z2:Unit):St:=[(2,dO 0 0),(3,dO 1 0),(4,dI 0),(99,.d (DS q92 x1.Ah)),(100,dI (ln x1.Ah)),(101,dI (cnt 0 n2))]
def Ap8 (x0:Aa) (x1:Ab) (n2:Nat) (z2:Unit):List Res:=[.box 29 (d29 x0),.box 34 (d34 x1)]
def Asv  (z2:Unit):St:=[(2,dO 0 0),(3,dO 1 0),(4,dI 0)]
def Awi (x0:Aa) (x1:Ab) (z2:Unit):List Res:=[.box 29 (d29 x0),.box 34 (d34 x1)]
def Afg (x0:Aa) (z3:Int):St:=[(2,dO 0 0),(3,dO 1 0),(4,dI 0),(128,dI (ln x0.Af)),(129,dI z3)]
def Ap7 (x0:Aa) (x1:Ab) (z3:Int):List Res:=[.box 29 (d29 x0),.box 34 (d34 x1)]
def Asu  (z3:Int):St:=[(4,dI 0)]
def Awh  (z3:Int):List Res:=[]
def Z3 (x0:Aa) (z3:Int) (y14:(List Int)) (n4:Nat) (z4:Int):St:=[(2,dO 0 0),(3,dO 1 0),(4,dI 0),(13,dI z4),(128,dI (ln x0.Af)),(129,dI z3),(134,dS 2),(135,dI (ln y14)),(136,dI (cnt 0 n4))]
def Ad9 (x0:Aa) (x1:Ab) (y14:(List Int)) (n4:Nat) (z4:Int):List Res:=[.box 29 (d29 x0),.box 34 (d34 x1),v0_ y14]
def Ast (x0:Aa) (z3:Int) (z4:Int):St:=[(2,dO 0 0),(3,dO 1 0),(4,dI 0),(13,dI z4),(128,dI (ln x0.Af)),(129,dI z3)]
def Awg (x0:Aa) (x1:Ab) (z4:Int):List Res:=[.box 29 (d29 x0),.box 34 (d34 x1)]
set_option maxHeartbeats 4000000 in
theorem k11 (x0 : Aa) (x1 : Ab) (r : Int) (h : F11 x0 x1 = some r) : CO 11 [.agg (d29 x0), .agg (d34 x1)] [] (.d (I r)) [] := by
 unfold F11 at h
 refine co 151 Tryz.func11 λ C hC=>?_
 obtain⟨y1,h2,h⟩:=Aw h
 rcases cB h with⟨h3,h⟩ | ⟨h3,h⟩
 ·replace h:=sI h
  subst h
  exact wr Ec 31 [true] [pc e45 (k45 x0 _ h2) []] [] 0 [] hC [pq h3]
 ·refine wn Ec 33 [false] [pc e45 (k45 x0 _ h2) [], pl pB x1.Ae, pl q49 x0.Ad, pL_ [(((ln x1.Ae) != (ln x0.Ad)), false)] q87 x1.Ac, pL_ [(((ln x1.Ae) != (ln x0.Ad)), false)] q98 x0.Ac, pL_ [((((ln x1.Ae) != (ln x0.Ad)) || ((ln x1.Ac) != (ln x0.Ac))), false)] pI x1.Al, pL_ [((((ln x1.Ae) != (ln x0.Ad)) || ((ln x1.Ac) != (ln x0.Ac))), false)] q90 x0.Af] [] 0 [0, 1] [2, 3, 4, 45] hC [pq h3] ?_
  rcases cB h with⟨h4,h⟩ | ⟨h4,h⟩
  ·replace h:=sI h
   subst h
   exact wr Ec 24 [true] [] [] 0 [] hC [pq h4]
  ·refine ws Ec 26 [false] [pl q87 x1.Ac] [] 0 [0, 1] (Afj x1 0 ()) (Aqa x0 x1 0 ()) hC [pq h4] ?_
   obtain⟨w0,hm0,hret0,hnext0⟩:=Av h
   clear h
   refine wc w0 (Asx) (Awk x0 x1) ?_ λ z0 hs0=>?_
   ·refine wb ?_
    refine Bq 47 rfl λ hl0=>?_
    refine wl (Afj x1) (Aqa x0 x1) hm0 (λ z0 hn0=>?_) λ n0 a0 z0 w0b hi0 hx0 h hb0 hr0=>?_
    ·clear hm0
     exact wx w0 (Asx) (Awk x0 x1) Ec 26 [false] [] [] 0 [0,1] _ hC [pq (A5 hl0)] hn0
    ·unfold Akl at h
     refine wn Ec 32 [true] [pt hx0 hl0,pc e46 (k46 a0.State 0 3 _ rfl) [],⟨.when [(!(F46 a0.State 0 3),false)] (.call 46 [dI a0.Since,dI 0,dI 2147483648] [] (dB (F46 a0.Since 0 2147483648)) [] []),λ hg=>⟨e46,(k46 a0.Since 0 2147483648 _ rfl)⟩⟩,⟨.when [(((!(F46 a0.State 0 3)) || (!(F46 a0.Since 0 2147483648))),false)] (.call 46 [dI a0.Au,dI 0,dI 6000] [] (dB (F46 a0.Au 0 6000)) [] []),λ hg=>⟨e46,(k46 a0.Au 0 6000 _ rfl)⟩⟩,⟨.when [((((!(F46 a0.State 0 3)) || (!(F46 a0.Since 0 2147483648))) || (!(F46 a0.Au 0 6000))),false)] (.call 46 [dI a0.Phase,dI 0,dI 3599] [] (dB (F46 a0.Phase 0 3599)) [] []),λ hg=>⟨e46,(k46 a0.Phase 0 3599 _ rfl)⟩⟩] [] 0 [0,1] [2,3,4,47,48,49,74] hC [pq (A4 hi0 hl0)] ?_
     rcases cB h with⟨h5,h⟩ | ⟨h5,h⟩
     ·have hq:=hret0 _ (hr0 _ (sI h).symm)
      replace hq:=sI hq
      subst hq
      exact wr Ec 24 [true] [] [] 0 [] hC [pq h5]
     ·exact wx w0b (Afj x1 (n0+1)) (Aqa x0 x1 (n0+1)) Ec 25 [false] [] [] 0 [0,1] _ hC [pq h5] (sI h).symm
   ·have h := hnext0 _ hs0
    refine ws Ec 24 [] [pl pI x1.Al] [] 0 [0,1] (Afi x1 0 ()) (Ap9 x0 x1 0 ()) hC [] ?_
    obtain⟨w1,hm1,hret1,hnext1⟩:=Av h
    clear h
    refine wc w1 (Asw) (Awj x0 x1) ?_ λ z1 hs1=>?_
    ·refine wb ?_
     refine Bq 77 rfl λ hl1=>?_
     refine wl (Afi x1) (Ap9 x0 x1) hm1 (λ z1 hn1=>?_) λ n1 a1 z1 w1b hi1 hx1 h hb1 hr1=>?_
     ·clear hm1
      exact wx w1 (Asw) (Awj x0 x1) Ec 26 [false] [] [] 0 [0,1] _ hC [pq (A5 hl1)] hn1
     ·unfold Akk at h
      obtain⟨y6,h7,h⟩:=Aw h
      refine wn Ec 32 [true] [pt hx1 hl1,pr q90 h7,pc e46 (k46 a1 0 y6.Load _ rfl) []] [] 0 [0,1] [2,3,4,77,78,79,92] hC [pq (A4 hi1 hl1)] ?_
      rcases cB h with⟨h8,h⟩ | ⟨h8,h⟩
      ·have hq:=hret1 _ (hr1 _ (sI h).symm)
       replace hq:=sI hq
       subst hq
       exact wr Ec 24 [true] [] [] 0 [] hC [pq h8]
      ·exact wx w1b (Afi x1 (n1+1)) (Ap9 x0 x1 (n1+1)) Ec 25 [false] [] [] 0 [0,1] _ hC [pq h8] (sI h).symm
    ·have h := hnext1 _ hs1
     rcases cB h with⟨h9,h⟩ | ⟨h9,h⟩
     ·replace h:=sI h
      subst h
      exact wr Ec 27 [true] [pl q92 x1.Ah] [] 0 [] hC [pq h9]
     ·refine ws Ec 29 [false] [pl q92 x1.Ah,pl q92 x1.Ah] [] 0 [0,1] (Afh x1 0 ()) (Ap8 x0 x1 0 ()) hC [pq h9] ?_
      obtain⟨w2,hm2,hret2,hnext2⟩:=Av h
      clear h
      refine wc w2 (Asv) (Awi x0 x1) ?_ λ z2 hs2=>?_
      ·refine wb ?_
       refine Bq 99 rfl λ hl2=>?_
       refine wl (Afh x1) (Ap8 x0 x1) hm2 (λ z2 hn2=>?_) λ n2 a2 z2 w2b hi2 hx2 h hb2 hr2=>?_
       ·clear hm2
        exact wx w2 (Asv) (Awi x0 x1) Ec 26 [false] [] [] 0 [0,1] _ hC [pq (A5 hl2)] hn2
       ·unfold Akj at h
        obtain⟨y10,h11,h⟩:=Aw h
        refine wn Ec 32 [true] [pt hx2 hl2,pc e47 (k47 x0 a2 _ rfl) [],pR q92 h11,⟨.when [(!(F47 x0 a2),false),(decide ((cnt 0 n2)>0),true)] (.call 48 [.agg (d92 y10),.agg (d92 a2)] [] (dB (F48 y10 a2)) [] []),λ hg=>⟨e48,(k48 y10 a2 _ rfl)⟩⟩] [] 0 [0,1] [2,3,4,99,100,101,124] hC [pq (A4 hi2 hl2)] ?_
        rcases cB h with⟨h12,h⟩ | ⟨h12,h⟩
        ·have hq:=hret2 _ (hr2 _ (sI h).symm)
         replace hq:=sI hq
         subst hq
         exact wr Ec 24 [true] [] [] 0 [] hC [pq h12]
        ·exact wx w2b (Afh x1 (n2+1)) (Ap8 x0 x1 (n2+1)) Ec 25 [false] [] [] 0 [0,1] _ hC [pq h12] (sI h).symm
      ·have h:=hnext2 _ hs2
       refine ws Ec 24 [] [pl q90 x0.Af] [] 0 [0,1] (Afg x0 0) (Ap7 x0 x1 0) hC [] ?_
       obtain⟨w3,hm3,hret3,hnext3⟩:=Av h
       clear h
       refine wc w3 (Asu) (Awh) ?_ λ z3 hs3=>?_
       ·refine wb ?_
        refine ww (Afg x0) (Ap7 x0 x1) hm3 λ z3 w3b h hb3 hr3=>?_
        unfold Aki at h
        rcases cB h with⟨h13,h⟩ | ⟨h13,h⟩
        ·obtain⟨y14,h15,h⟩:=Aw h
         refine ws Ec 35 [true] [pc e49 (k49 x0 3 z3 _ h15) [],pl pI y14] [] 0 n3_ (Z3 x0 z3 y14 0 0) (Ad9 x0 x1 y14 0 0) hC [pq h13] ?_
         obtain⟨w4,hm4,hret4,hnext4⟩:=Av h
         clear h
         refine wc w4 (Ast x0 z3) (Awg x0 x1) ?_ λ z4 hs4=>?_
         ·refine wb ?_
          refine B1 134 2 rfl rfl λ hl4=>?_
          refine wl (Z3 x0 z3 y14) (Ad9 x0 x1 y14) hm4 (λ z4 hn4=>?_) λ n4 a4 z4 w4b hi4 hx4 h hb4 hr4=>?_
          ·clear hm4
           exact wx w4 (Ast x0 z3) (Awg x0 x1) Ec 26 [false] [] [] 0 [0,1] _ hC [pq (A5 hl4)] hn4
          ·unfold Akh at h
           obtain⟨y16,h17,h⟩:=Aw h
           rcases cB h with⟨h18,h⟩ | ⟨h18,h⟩
           ·exact wx w4b (Z3 x0 z3 y14 (n4+1)) (Ad9 x0 x1 y14 (n4+1)) Ec 36 [true,true] [pr pI (Bb hx4 hl4),pn pI (Bb hx4 hl4),pr pB h17] [] 0 n3_ _ hC [pq (A4 hi4 hl4),pq h18] (sI h).symm
           ·exact wx w4b (Z3 x0 z3 y14 (n4+1)) (Ad9 x0 x1 y14 (n4+1)) Ec 36 [true,false] [pr pI (Bb hx4 hl4),pn pI (Bb hx4 hl4),pr pB h17] [] 0 n3_ _ hC [pq (A4 hi4 hl4),pq h18] (sI h).symm
         ·have h:=hnext4 _ hs4
          rcases cB h with⟨h19,h⟩ | ⟨h19,h⟩
          ·have hq:=hret3 _ (hr3 _ (sI h).symm)
           replace hq:=sI hq
           subst hq
           exact wr Ec 26 [true] [] [] 0 [] hC [pq h19]
          ·exact wx w3b (Afg x0) (Ap7 x0 x1) Ec 27 [false] [] [] 0 [0,1] _ hC [pq h19] (sI h).symm
        ·exact wx w3 (Asu) (Awh) Ec 26 [false] [] [] 0 [] z3 hC [pq h13] (hb3 _ (sI h).symm)
       ·have h:=hnext3 _ hs3
        replace h:=sI h
        subst h
        exact wr Ec 23 [] [] [] 0 [] hC []
theorem e11:EN 11:=en Tryz.func11
def Q7:List Nat:=[0,1,2,3,4,5,6,9,11,15,16,17,18,25]
def Aff  (z0:Int×(List Int)):St:=[(1,dO 0 0),(2,.d (DS pI [])),(3,dS 1),(4,dI z0.1)]
def Ap6 (x0:Aa) (z0:Int×(List Int)):List Res:=[.box 29 (d29 x0),v0_ z0.2]
def Ass  (z0:Int×(List Int)):St:=[(2,.d (DS pI [])),(3,dS 0)]
def Awf  (z0:Int×(List Int)):List Res:=[v0_ z0.2]
def Z2 (x0:Aa) (z0:Int×(List Int)) (n1:Nat) (z1:(List Int)):St:=[(1,dO 0 0),(2,.d (DS pI [])),(3,dS 1),(4,dI z0.1),(15,.d (DS q90 x0.Af)),(16,dI (ln x0.Af)),(17,dI (cnt 0 n1))]
def Ad8 (x0:Aa) (n1:Nat) (z1:(List Int)):List Res:=[.box 29 (d29 x0),v0_ z1]
def Asr (z0:Int×(List Int)) (z1:(List Int)):St:=[(1,dO 0 0),(2,.d (DS pI [])),(3,dS 1),(4,dI z0.1)]
def Awe (x0:Aa) (z1:(List Int)):List Res:=[.box 29 (d29 x0),v0_ z1]
theorem k12 (x0:Aa) (r:(List Int)) (h:F12 x0=some r):CO 12 [.agg (d29 x0)] [] (.d (.os 0)) [v0_ r]:=by
 unfold F12 at h
 refine co 32 Tryz.func12 λ C hC=>?_
 obtain⟨y1,h2,h⟩:=Aw h
 rcases cB h with⟨h3,h⟩ | ⟨h3,h⟩
 ·replace h:=sI h
  subst h
  exact wr Q7 29 [true] [pc e45 (k45 x0 _ h2) []] [.own 2 3 1] 0 [1] hC [pq h3]
 ·refine ws Q7 33 [false] [pc e45 (k45 x0 _ h2) []] [.own 3 3 1] 0 [0,1] (Aff (0,([]:List Int))) (Ap6 x0 (0,([]:List Int))) hC [pq h3] ?_
  obtain⟨w0,hm0,hret0,hnext0⟩:=Av h
  clear h
  refine wc w0 (Ass) (Awf) ?_ λ z0 hs0=>?_
  ·refine wb ?_
   refine ww (Aff) (Ap6 x0) hm0 λ z0 w0b h hb0 hr0=>?_
   unfold vD at h
   rcases cB h with⟨h4,h⟩ | ⟨h4,h⟩
   ·refine ws Q7 30 [true] [pl q90 x0.Af] [] 0 [0,1] (Z2 x0 z0 0 z0.2) (Ad8 x0 0 z0.2) hC [pq h4] ?_
    obtain⟨w1,hm1,hret1,hnext1⟩:=Av h
    clear h
    refine wc w1 (Asr z0) (Awe x0) ?_ λ z1 hs1=>?_
    ·refine wb ?_
     refine Bq 15 rfl λ hl1=>?_
     refine wl (Z2 x0 z0) (Ad8 x0) hm1 (λ z1 hn1=>?_) λ n1 a1 z1 w1b hi1 hx1 h hb1 hr1=>?_
     ·clear hm1
      exact wx w1 (Asr z0) (Awe x0) Q7 26 [false] [] [] 0 [0,1] _ hC [pq (A5 hl1)] hn1
     ·unfold vC at h
      rcases cB h with⟨h5,h⟩ | ⟨h5,h⟩
      ·obtain⟨y6,h7,h⟩:=Aw h
       exact wx w1b (Z2 x0 z0 (n1+1)) (Ad8 x0 (n1+1)) Q7 36 [true,true] [pt hx1 hl1,pa pI 1 h7] [] 0 [0,3] _ hC [pq (A4 hi1 hl1),pq h5] (sI h).symm
      ·exact wx w1b (Z2 x0 z0 (n1+1)) (Ad8 x0 (n1+1)) Q7 36 [true,false] [pt hx1 hl1] [] 0 [0,1] _ hC [pq (A4 hi1 hl1),pq h5] (sI h).symm
    ·have h:=hnext1 _ hs1
     exact wx w0b (Aff) (Ap6 x0) Q7 23 [] [] [] 0 [0,1] _ hC [] (sI h).symm
   ·exact wx w0 (Ass) (Awf) Q7 26 [false] [] [] 0 [1] (z0.1,z0.2) hC [pq h4] (hb0 _ (sI h).symm)
  ·have h:=hnext0 _ hs0
   replace h:=sI h
   subst h
   exact wr Q7 23 [] [] [] 0 [0] hC []
theorem e12:EN 12:=en Tryz.func12
theorem k16 (x0:Aa) (x1:Int) (x2:Int) (r:(List Int)) (h:F16 x0 x1 x2=some r):CO 16 [.agg (d29 x0),.d (I x1),.d (I x2)] [] (.d (.os 0)) [v0_ r]:=by
 unfold F16 at h
 refine co 14 Tryz.func16 λ C hC=>?_
 obtain⟨y1,h2,h⟩:=Aw h
 rcases cB h with⟨h3,h⟩ | ⟨h3,h⟩
 ·replace h:=sI h
  subst h
  exact wr [0,1,2,3,6,9] 29 [true] [pc e45 (k45 x0 _ h2) []] [.own 6 3 1] 0 [1] hC [pq h3]
 ·obtain⟨y4,h5,h⟩:=Aw h
  replace h:=sI h
  subst h
  exact wr [0,1,2,3,6,9] 30 [false] [pc e45 (k45 x0 _ h2) [],pc e49 (k49 x0 x1 x2 _ h5) []] [] 0 [1] hC [pq h3]
theorem e16:EN 16:=en Tryz.func16
def Kp:List Nat:=[0,1,2,3,4,6,16,17,18,19,28,29,44,71]
def S6 (x0:Aa) (n0:Nat) (z0:(List Int)×(List (List Int))):St:=[(1,dO 0 0),(2,dB false),(3,dS 1),(4,dS 2),(16,.d (DS q49 x0.Ad)),(17,dI (ln x0.Ad)),(18,dI (cnt 0 n0))]
def uA (x0:Aa) (n0:Nat) (z0:(List Int)×(List (List Int))):List Res:=[.box 29 (d29 x0),v0_ z0.1,.dsl 22 1 3,.gh 1 [(3,1)] (z0.2.map (pL pI)) none]
def Arc  (z0:(List Int)×(List (List Int))):St:=[(2,dB false),(3,dS 0),(4,dS 1)]
def Auz  (z0:(List Int)×(List (List Int))):List Res:=[v0_ z0.1,.dsl 22 1 2,.gh 1 [(3,1)] (z0.2.map (pL pI)) none]
theorem k99 (x0:Aa) (r:Bool) (h:F99 x0=some r):CO 99 [.agg (d29 x0)] [] (.d (Bo r)) []:=by
 unfold F99 at h
 refine co 116 Tryz.func99 λ C hC=>?_
 obtain⟨y1,h2,y3,h4,h⟩:=A_ h
 refine ws Kp 28 [] [⟨.flts [v0_ y1,.zsl 22 1 (y3.map (pL pI))],trivial⟩,pl q98 x0.Ac,⟨.fltm 1 (.room ((ln x0.Ac)*(8+1)) (List.replicate (Int.toNat (ln x0.Ac)) (pI 0)) (y1.map pI)) (v0_ y1) (v0_ y1),⟨Ko h2,rfl⟩⟩,pl q90 x0.Af,⟨.fltm 2 (.roomZ ((ln x0.Af)*(24+1)) (List.replicate (Int.toNat (ln x0.Af)) ((pL pI) ([]:List Int))) (y3.map (pL pI))) (.zsl 22 1 (y3.map (pL pI))) (.zsl 22 1 (y3.map (pL pI))),⟨Tz h4,rfl⟩⟩,pl q49 x0.Ad] [.deep 2 [(3,1)]] 0 n4_ (S6 x0 0 (y1,y3)) (uA x0 0 (y1,y3)) hC [] ?_
 obtain⟨w0,hm0,hret0,hnext0⟩:=Av h
 clear h
 refine wc w0 (Arc) (Auz) ?_ λ z0 hs0=>?_
 ·refine wb ?_
  refine Bq 16 rfl λ hl0=>?_
  refine wl (S6 x0) (uA x0) hm0 (λ z0 hn0=>?_) λ n0 a0 z0 w0b hi0 hx0 h hb0 hr0=>?_
  ·clear hm0
   exact wx w0 (Arc) (Auz) Kp 26 [false] [] [] 0 [1,2,3] _ hC [pq (A5 hl0)] hn0
  ·unfold Ai9 at h
   refine wn Kp 33 [true] [pt hx0 hl0,pc e93 (k93 a0.A 0 (w64 (x0.Am-1)) _ rfl) []] [] 0 n5_ [1,2,3,4,6,16,17,18,28] hC [pq (A4 hi0 hl0)] ?_
   rcases cB h with⟨h5,h⟩ | ⟨h5,h⟩
   ·have hq:=hret0 _ (hr0 _ (sI h).symm)
    replace hq:=sI hq
    subst hq
    exact wr Kp 24 [true] [] [] 0 [] hC [pq h5]
   ·refine wn Kp 26 [false] [⟨.when [((a0.Kind==1),true)] (.call 93 [dI a0.B,dI (w64 (a0.A+1)),dI (w64 (x0.Am-1))] [] (dB (F93 a0.B (w64 (a0.A+1)) (w64 (x0.Am-1)))) [] []),λ hg=>⟨e93,(k93 a0.B (w64 (a0.A+1)) (w64 (x0.Am-1)) _ rfl)⟩⟩] [] 0 n5_ [1,2,3,4,6,16,17,18,29] hC [pq h5] ?_
    rcases cB h with⟨h6,h⟩ | ⟨h6,h⟩
    ·exact wx w0b (S6 x0 (n0+1)) (uA x0 (n0+1)) Kp 26 [true] [] [] 0 n4_ _ hC [pq h6] (sI h).symm
    ·obtain⟨y7,h8,h⟩:=Aw h
     refine wn Kp 24 [false] [pL_ [((a0.Kind==2),true)] pI z0.1,⟨.when [((a0.Kind==2),true)] (.call 93 [dI a0.B,dI 0,dI (w64 ((ln z0.1)-1))] [] (.d (Bo (F93 a0.B 0 (w64 ((ln z0.1)-1))))) [] []),λ hg=>⟨e93,(k93 a0.B 0 (w64 ((ln z0.1)-1)) _ rfl)⟩⟩,pR pI h8,pN pI h8] [] 0 n5_ [1,2,3,4,6,16,17,18,44] hC [pq h6] ?_
     rcases cB h with⟨h9,h⟩ | ⟨h9,h⟩
     ·obtain⟨y10,h11,y12,h13,h⟩:=A_ h
      exact wx w0b (S6 x0 (n0+1)) (uA x0 (n0+1)) Kp 26 [true] [pr pI h11,pn pI h11,pr pI h11,pu pI h11 h13] [] 0 n4_ _ hC [pq h9] (sI h).symm
     ·obtain⟨y14,h15,y16,h17,h⟩:=A_ h
      refine wn Kp 24 [false] [pL_ [((a0.Kind==3),true)] (pL pI) z0.2,⟨.when [((a0.Kind==3),true)] (.call 93 [dI a0.B,dI 0,dI (w64 ((ln z0.2)-1))] [] (.d (Bo (F93 a0.B 0 (w64 ((ln z0.2)-1))))) [] []),λ hg=>⟨e93,(k93 a0.B 0 (w64 ((ln z0.2)-1)) _ rfl)⟩⟩,pR (pL pI) h15,pN (pL pI) h15,⟨.when [(((a0.Kind==3)&&(F93 a0.B 0 (w64 ((ln z0.2)-1)))),true)] (.callB 59 [.d (DS pI y14),dI a0.A] (dB y16) (z0.2.map (pL pI)) (Int.toNat a0.B) ((pL pI) y14)),λ hg=>Axs ⟨e59,(k59 y14 a0.A _ (A1 h17 hg))⟩ (A1 h15 hg)⟩] [] 0 n5_ [1,2,3,4,6,16,17,18,71] hC [pq h9] ?_
      rcases cB h with⟨h18,h⟩ | ⟨h18,h⟩
      ·obtain⟨y19,h20,y21,h22,y23,h24,h⟩:=Bw h
       exact wx w0b (S6 x0 (n0+1)) (uA x0 (n0+1)) Kp 26 [true] [pr (pL pI) h20,pn (pL pI) h20,⟨.appD (z0.2.map (pL pI)) (Int.toNat a0.B) ((pL pI) y19) 0 (y19.map pI) ([a0.A].map pI) 1 (((y19.map pI).length+([a0.A].map pI).length)*(8+1)) (y21.map pI),Jc 1 (λ _=>rfl) h20 rfl h22⟩,pr (pL pI) h20,⟨.updD (z0.2.map (pL pI)) (Int.toNat a0.B) (Int.toNat a0.B) ((pL pI) y19) ((pL pI) y21) (y23.map (pL pI)),I7 h20 h24⟩] [] 0 [0,1,2,8] _ hC [pq h18] (sI h).symm
      ·have hq:=hret0 _ (hr0 _ (sI h).symm)
       replace hq:=sI hq
       subst hq
       exact wr Kp 24 [false] [] [] 0 [] hC [pq h18]
 ·have h:=hnext0 _ hs0
  refine wn Kp 1 [] [] [.flat 1] 0 [0,1] [2,3,4] hC [] ?_
  obtain⟨y27,h28,y29,h30,h⟩:=A_ h
  replace h:=sI h
  subst h
  exact wr Kp 22 [] [pb e59 (k59 z0.1 0 _ h28),pv A36 (λ hg=>A2y z0.2 _ (A1 h30 hg))] [] 0 [] hC []
theorem e99:EN 99:=en Tryz.func99
def Mq:List Nat:=[0,1,4,5,7,8,9,16]
def Te (x0:List Ai) (n0:Nat) (z0:Unit):St:=[(0,.d (DS q87 x0)),(1,.d (.fn (.func 91) [] [])),(4,dI 0),(7,dI (ln x0)),(8,dI (cnt 0 n0))]
def Yt  (n0:Nat) (z0:Unit):List Res:=[]
def Aa4  (z0:Unit):St:=[(4,dI 0)]
def Acf  (z0:Unit):List Res:=[]
theorem A2z (x0:List Ai) (r:Int) (h:vB x0=some r):CO 138 [.d (DS q87 x0),.d (.fn (.func 91) [] [])] [] (.d (I r)) []:=by
 unfold vB at h
 refine co 19 Tryz.func138 λ C hC=>?_
 refine ws Mq 26 [] [pl q87 x0] [] 0 [] (Te x0 0 ()) (Yt 0 ()) hC [] ?_
 obtain⟨w0,hm0,hret0,hnext0⟩:=Av h
 clear h
 refine wc w0 (Aa4) (Acf) ?_ λ z0 hs0=>?_
 ·refine wb ?_
  refine Bq 0 rfl λ hl0=>?_
  refine wl (Te x0) (Yt) hm0 (λ z0 hn0=>?_) λ n0 a0 z0 w0b hi0 hx0 h hb0 hr0=>?_
  ·clear hm0
   exact wx w0 (Aa4) (Acf) Mq 26 [false] [] [] 0 [] _ hC [pq (A5 hl0)] hn0
  ·unfold Acx at h
   refine wn Mq 32 [true] [pt hx0 hl0,pc e91 (k91 a0 _ rfl) []] [] 0 [] [0,1,4,5,7,8,16] hC [pq (A4 hi0 hl0)] ?_
   rcases cB h with⟨h1,h⟩ | ⟨h1,h⟩
   ·have hq:=hret0 _ (hr0 _ (sI h).symm)
    replace hq:=sI hq
    subst hq
    exact wr Mq 24 [true] [] [] 0 [] hC [pq h1]
   ·exact wx w0b (Te x0 (n0+1)) (Yt (n0+1)) Mq 25 [false] [] [] 0 [] _ hC [pq h1] (sI h).symm
 ·have h:=hnext0 _ hs0
  replace h:=sI h
  subst h
  exact wr Mq 23 [] [] [] 0 [] hC []
theorem A37:EN 138:=en Tryz.func138
theorem jR (x0:Int) (x1:Int) (x2:Ax) (r:Bool×Ax) (h:Lx x0 x1 x2=some r):CO 154 [.d (I x0),.d (I x1),.d (.o 0 0)] (.box 112 [.o 1 0] :: .box 147 (zb x2.An [.os 2,.os 3,.os 4,.os 5,.os 6])::zp x2.Ao [v2_ x2.acts]) (.d (Bo r.1)) (.box 112 [.o 1 0] :: .box 147 (zb r.2.An [.os 2,.os 3,.os 4,.os 5,.os 6])::zp r.2.Ao [v2_ r.2.acts]):=by
 unfold Lx at h
 refine co 13 Tryz.func154 λ C hC=>?_
 obtain⟨y1,h2,h⟩:=Aw h
 replace h:=sI h
 subst h
 exact wr [0,1,2,5] 25 [] [pb e76 (k76 x2.Ao x0 x1 _ h2)] [] 7 n7_ hC []
theorem qE:EN 154:=en Tryz.func154
def Jg:List Nat:=[0,1,2,3,8,9,14,34]
def S9 (x1:Int) (x2:Int) (z0:Int×(List Int)):St:=[(0,dS 0),(1,dI x1),(2,dI x2),(3,.d (.fn (.func 133) [] [.o 1 0])),(8,dI z0.1)]
def Yn (x3c0:Aa) (z0:Int×(List Int)):List Res:=[v0_ z0.2,.box 29 (d29 x3c0)]
def Aav  (z0:Int×(List Int)):St:=[]
def Ab6 (x3c0:Aa) (z0:Int×(List Int)):List Res:=[v0_ z0.2,.box 29 (d29 x3c0)]
def S8 (x1:Int) (x2:Int) (z0:Int×(List Int)) (z1:Int×(List Int)):St:=[(0,dS 0),(1,dI x1),(2,dI x2),(3,.d (.fn (.func 133) [] [.o 1 0])),(8,dI z0.1),(9,dI z1.1)]
def Ym (x3c0:Aa) (z1:Int×(List Int)):List Res:=[v0_ z1.2,.box 29 (d29 x3c0)]
def Aau (x1:Int) (x2:Int) (z0:Int×(List Int)) (z1:Int×(List Int)):St:=[(0,dS 0),(1,dI x1),(2,dI x2),(3,.d (.fn (.func 133) [] [.o 1 0])),(8,dI z0.1)]
def Ab5 (x3c0:Aa) (z1:Int×(List Int)):List Res:=[v0_ z1.2,.box 29 (d29 x3c0)]
theorem Atc (x0:List Int) (x1:Int) (x2:Int) (x3c0:Aa) (r:(List Int)×Aa) (h:U1 x0 x1 x2 x3c0=some r):CO 175 [.d (.os 0),.d (I x1),.d (I x2),.d (.fn (.func 133) [] [.o 1 0])] [v0_ x0,.box 29 (d29 x3c0)] (.tup []) [v0_ r.1,.box 29 (d29 r.2)]:=by
 unfold U1 at h
 refine co 53 Tryz.func175 λ C hC=>?_
 refine ws Jg 23 [] [] [] 2 [0,1] (S9 x1 x2 (w64 (x1+1),x0)) (Yn x3c0 (w64 (x1+1),x0)) hC [] ?_
 obtain⟨w0,hm0,hret0,hnext0⟩:=Av h
 clear h
 refine wc w0 (Aav) (Ab6 x3c0) ?_ λ z0 hs0=>?_
 ·refine wb ?_
  refine ww (S9 x1 x2) (Yn x3c0) hm0 λ z0 w0b h hb0 hr0=>?_
  unfold U0 at h
  rcases cB h with⟨h1,h⟩ | ⟨h1,h⟩
  ·refine ws Jg 30 [true] [] [] 2 [0,1] (S8 x1 x2 z0 (z0.1,z0.2)) (Ym x3c0 (z0.1,z0.2)) hC [pq h1] ?_
   obtain⟨w1,hm1,hret1,hnext1⟩:=Av h
   clear h
   refine wc w1 (Aau x1 x2 z0) (Ab5 x3c0) ?_ λ z1 hs1=>?_
   ·refine wb ?_
    refine ww (S8 x1 x2 z0) (Ym x3c0) hm1 λ z1 w1b h hb1 hr1=>?_
    unfold Ou at h
    obtain⟨y8,h9,y10,h11,y12,h13,h⟩:=Bw h
    refine wn Jg 24 [] [pR pI h9,pN pI h9,pR pI h11,pN pI h11,pv A38 (λ hg=>A20 y8 y10 x3c0 _ (A1 h13 hg))] [] 2 [0,1] [0,1,2,3,8,9,34] hC [] ?_
    rcases cB h with⟨h14,h⟩ | ⟨h14,h⟩
    ·obtain⟨y15,h16,y17,h18,y19,h20,h⟩:=Bw h
     obtain⟨y21,h22,y23,h24,h⟩:=A_ h
     exact wx w1b (S8 x1 x2 z0) (Ym x3c0) Jg 28 [true] [pr pI h16,pn pI h16,pr pI h18,pn pI h18,pr pI h18,pu pI h18 h20,pr pI h22,pu pI h22 h24] [] 2 [0,1] _ hC [pq h14] (sI h).symm
    ·exact wx w1 (Aau x1 x2 z0) (Ab5 x3c0) Jg 23 [false] [] [] 2 [0,1] (z1.1,z1.2) hC [pq h14] (hb1 _ (sI h).symm)
   ·have h:=hnext1 _ hs1
    exact wx w0b (S9 x1 x2) (Yn x3c0) Jg 23 [] [] [] 2 [0,1] _ hC [] (sI h).symm
  ·exact wx w0 (Aav) (Ab6 x3c0) Jg 26 [false] [] [] 2 [0,1] (z0.1,z0.2) hC [pq h1] (hb0 _ (sI h).symm)
 ·have h:=hnext0 _ hs0
  replace h:=sI h
  subst h
  exact wf Jg 20 [] [] [] 2 [0,1] hC []
theorem At4:EN 175:=en Tryz.func175
def Mo:List Nat:=[0,1,4,5,7,8,9,16]
def Tc (x0:List Int) (n0:Nat) (z0:Unit):St:=[(0,dS 0),(1,.d (.fn (.func 126) [] [.o 1 0])),(4,dI 0),(7,dI (ln x0)),(8,dI (cnt 0 n0))]
def Yr (x0:List Int) (x1c0:Aj) (n0:Nat) (z0:Unit):List Res:=[v0_ x0,.box 62 (d62 x1c0)]
def Aa0  (z0:Unit):St:=[(4,dI 0)]
def Acb (x0:List Int) (x1c0:Aj) (z0:Unit):List Res:=[v0_ x0,.box 62 (d62 x1c0)]
theorem A2r (x0:List Int) (x1c0:Aj) (r:Int×Aj) (h:uZ x0 x1c0=some r):CO 159 [.d (.os 0),.d (.fn (.func 126) [] [.o 1 0])] [v0_ x0,.box 62 (d62 x1c0)] (.d (I r.1)) [v0_ x0,.box 62 (d62 r.2)]:=by
 unfold uZ at h
 refine co 19 Tryz.func159 λ C hC=>?_
 refine ws Mo 26 [] [pl pI x0] [] 2 [0,1] (Tc x0 0 ()) (Yr x0 x1c0 0 ()) hC [] ?_
 obtain⟨w0,hm0,hret0,hnext0⟩:=Av h
 clear h
 refine wc w0 (Aa0) (Acb x0 x1c0) ?_ λ z0 hs0=>?_
 ·refine wb ?_
  refine B1 0 0 rfl rfl λ hl0=>?_
  refine wl (Tc x0) (Yr x0 x1c0) hm0 (λ z0 hn0=>?_) λ n0 a0 z0 w0b hi0 hx0 h hb0 hr0=>?_
  ·clear hm0
   exact wx w0 (Aa0) (Acb x0 x1c0) Mo 26 [false] [] [] 2 [0,1] _ hC [pq (A5 hl0)] hn0
  ·unfold Ov at h
   obtain⟨y1,h2,h⟩:=Aw h
   refine wn Mo 32 [true] [pr pI (Bb hx0 hl0),pn pI (Bb hx0 hl0),pb At9 (Ath a0 x1c0 _ h2)] [] 2 [0,1] [0,1,4,5,7,8,16] hC [pq (A4 hi0 hl0)] ?_
   rcases cB h with⟨h3,h⟩ | ⟨h3,h⟩
   ·have hq:=hret0 _ (hr0 _ (sI h).symm)
    replace hq:=sI hq
    subst hq
    exact wr Mo 24 [true] [] [] 2 [0,1] hC [pq h3]
   ·exact wx w0b (Tc x0 (n0+1)) (Yr x0 x1c0 (n0+1)) Mo 25 [false] [] [] 2 [0,1] _ hC [pq h3] (sI h).symm
 ·have h:=hnext0 _ hs0
  replace h:=sI h
  subst h
  exact wr Mo 23 [] [] [] 2 [0,1] hC []
theorem A3z:EN 159:=en Tryz.func159
theorem k57 (x0:Aa) (x1:Ab) (x2:Int) (r:Bool) (h:F57 x0 x1 x2=some r):CO 57 [.agg (d29 x0),.agg (d34 x1),.d (I x2)] [] (.d (Bo r)) []:=by
 unfold F57 at h
 refine co 36 Tryz.func57 λ C hC=>?_
 obtain⟨y1,h2,y3,h4,y5,h6,y7,h8,h⟩:=C8 h
 replace h:=sI h
 subst h
 exact wr [0,1,2,3,4,6,7] 27 [] [pr q49 h2,pc e76 (k76 x1 2 x2 _ h4) [],pw e76 (λ hg=>k76 x1 3 y1.A _ (A1 h6 hg)) [],pw e76 (λ hg=>k76 x1 3 y1.B _ (A1 h8 hg)) []] [] 0 [] hC []
theorem e57:EN 57:=en Tryz.func57
theorem Ag4 (x0:A0) (x1:Int) (r:Bool) (h:Ka x0 x1=some r):CO 146 [.d (.ip [.v (.int .i64 x0.An.Am),.s (x0.An.Ad.map q49),.s (x0.An.Ac.map q98),.s (x0.An.Af.map q90),.v (.int .i64 x0.An.Phase),.v (.int .i64 x0.An.Au),.s (x0.Ao.Ae.map pB),.s (x0.Ao.Ac.map q87),.s (x0.Ao.Al.map pI),.s (x0.Ao.Ah.map q92),.v (.int .i64 x0.time)]),.d (I x1)] [] (.d (Bo r)) []:=by
 unfold Ka at h
 refine co 19 Tryz.func146 λ C hC=>?_
 obtain⟨y1,h2,y3,h4,h⟩:=A_ h
 replace h:=sI h
 subst h
 exact wr [0,1,4] 25 [] [pc e56 (k56 x0.An x1 _ h2) [],pr pB h4] [] 0 [] hC []
theorem Ahs:EN 146:=en Tryz.func146
def Agx:List Nat:=[0,1,2,3,4,6,7,8,32,43]
theorem k52 (x0:Aa) (x1:Ab) (x2:Int) (r:Int×Bool) (h:F52 x0 x1 x2=some r):CO 52 [.agg (d29 x0),.agg (d34 x1),.d (I x2)] [] (.tup [.d (I r.1),.d (Bo r.2)]) []:=by
 unfold F52 at h
 refine co 50 Tryz.func52 λ C hC=>?_
 obtain⟨y1,h2,y3,h4,h⟩:=A_ h
 refine wn Agx 26 [] [pc e11 (k11 x0 x1 _ h2) [],pL_ [(((y1 != 0) || (decide (x2<0))),false)] q98 x0.Ac,pR q87 h4] [] 0 [0,1] [2,3,4,6,7,32] hC [] ?_
 rcases cB h with⟨h5,h⟩ | ⟨h5,h⟩
 ·replace h:=sI h
  subst h
  exact wr Agx 24 [true] [] [] 0 [] hC [pq h5]
 ·obtain⟨y6,h7,y8,h9,y10,h11,h⟩:=Bw h
  refine wn Agx 28 [false] [pc e49 (k49 x0 2 x2 _ h7) [],pr pI h9,pn pI h9,pr pB h11] [] 0 [0] [3,6,7,8,43] hC [pq h5] ?_
  rcases cB h with⟨h12,h⟩ | ⟨h12,h⟩
  ·replace h:=sI h
   subst h
   exact wr Agx 24 [true] [] [] 0 [] hC [pq h12]
  ·obtain⟨y13,h14,h⟩:=Aw h
   replace h:=sI h
   subst h
   exact wr Agx 25 [false] [pr q49 h14] [] 0 [] hC [pq h12]
theorem e52:EN 52:=en Tryz.func52
def X4:List Nat:=[0,1,2,3,4,6,7,9,24,27,28,29,30,37]
def Afe (y4:(List Int)) (n0:Nat) (z0:Unit):St:=[(3,dO 0 0),(4,dO 1 0),(6,dI 0),(7,dB false),(27,dS 2),(28,dI (ln y4)),(29,dI (cnt 0 n0))]
def Ap5 (x0:Aa) (x1:Ab) (y4:(List Int)) (n0:Nat) (z0:Unit):List Res:=[.box 29 (d29 x0),.box 34 (d34 x1),v0_ y4]
def Asq  (z0:Unit):St:=[(6,dI 0),(7,dB false)]
def Awd  (z0:Unit):List Res:=[]
theorem k13 (x0:Aa) (x1:Ab) (x2:Int) (r:Int×Bool) (h:F13 x0 x1 x2=some r):CO 13 [.agg (d29 x0),.agg (d34 x1),.d (I x2)] [] (.tup [.d (I r.1),.d (Bo r.2)]) []:=by
 unfold F13 at h
 refine co 45 Tryz.func13 λ C hC=>?_
 obtain⟨y1,h2,h⟩:=Aw h
 refine wn X4 26 [] [pc e11 (k11 x0 x1 _ h2) [],pL_ [(((y1 != 0) || (decide (x2<0))),false)] q90 x0.Af] [] 0 [0,1] [2,3,4,6,7,24] hC [] ?_
 rcases cB h with⟨h3,h⟩ | ⟨h3,h⟩
 ·replace h:=sI h
  subst h
  exact wr X4 24 [true] [] [] 0 [] hC [pq h3]
 ·obtain⟨y4,h5,h⟩:=Aw h
  refine ws X4 26 [false] [pc e49 (k49 x0 3 x2 _ h5) [],pl pI y4] [] 0 n3_ (Afe y4 0 ()) (Ap5 x0 x1 y4 0 ()) hC [pq h3] ?_
  obtain⟨w0,hm0,hret0,hnext0⟩:=Av h
  clear h
  refine wc w0 (Asq) (Awd) ?_ λ z0 hs0=>?_
  ·refine wb ?_
   refine B1 27 2 rfl rfl λ hl0=>?_
   refine wl (Afe y4) (Ap5 x0 x1 y4) hm0 (λ z0 hn0=>?_) λ n0 a0 z0 w0b hi0 hx0 h hb0 hr0=>?_
   ·clear hm0
    exact wx w0 (Asq) (Awd) X4 26 [false] [] [] 0 [] _ hC [pq (A5 hl0)] hn0
   ·unfold vA at h
    obtain⟨y6,h7,h⟩:=Aw h
    rcases cB h with⟨h8,h⟩ | ⟨h8,h⟩
    ·obtain⟨y9,h10,h⟩:=Aw h
     have hq:=hret0 _ (hr0 _ (sI h).symm)
     replace hq:=sI hq
     subst hq
     exact wr X4 35 [true,true] [pr pI (Bb hx0 hl0),pn pI (Bb hx0 hl0),pr pB h7,pr q49 h10] [] 0 [] hC [pq (A4 hi0 hl0),pq h8]
    ·exact wx w0b (Afe y4 (n0+1)) (Ap5 x0 x1 y4 (n0+1)) X4 36 [true,false] [pr pI (Bb hx0 hl0),pn pI (Bb hx0 hl0),pr pB h7] [] 0 n3_ _ hC [pq (A4 hi0 hl0),pq h8] (sI h).symm
  ·have h:=hnext0 _ hs0
   replace h:=sI h
   subst h
   exact wr X4 23 [] [] [] 0 [] hC []
theorem e13:EN 13:=en Tryz.func13
def O4:List Nat:=[0,1,2,3,5,6,7,29,43,44,45,46,56,57,58,59,71]
def Ae4 (x0:Aa) (n0:Nat) (z0:Bool):St:=[(1,dO 0 0),(2,dI 0),(3,dB z0),(43,.d (DS q98 x0.Ac)),(44,dI (ln x0.Ac)),(45,dI (cnt 0 n0))]
def Apt (x0:Aa) (n0:Nat) (z0:Bool):List Res:=[.box 29 (d29 x0)]
def Ar8  (z0:Bool):St:=[(1,dO 0 0),(2,dI 0),(3,dB z0)]
def Avv (x0:Aa) (z0:Bool):List Res:=[.box 29 (d29 x0)]
def Ae3 (x0:Aa) (n1:Nat) (z1:Bool):St:=[(2,dI 0),(3,dB z1),(56,.d (DS q90 x0.Af)),(57,dI (ln x0.Af)),(58,dI (cnt 0 n1))]
def Aps  (n1:Nat) (z1:Bool):List Res:=[]
def Ar7  (z1:Bool):St:=[(2,dI 0),(3,dB z1)]
def Avu  (z1:Bool):List Res:=[]
theorem k51 (x0:Aa) (r:Int) (h:F51 x0=some r):CO 51 [.agg (d29 x0)] [] (.d (I r)) []:=by
 unfold F51 at h
 refine co 72 Tryz.func51 λ C hC=>?_
 refine wn O4 26 [] [pc e93 (k93 x0.Am 1 6 _ rfl) [],pL_ [(!(F93 x0.Am 1 6),false)] q49 x0.Ad,pL_ [(((!(F93 x0.Am 1 6)) || (decide ((ln x0.Ad)>24))),false)] q98 x0.Ac,pL_ [((((!(F93 x0.Am 1 6)) || (decide ((ln x0.Ad)>24))) || (decide ((ln x0.Ac)>8))),false)] q90 x0.Af] [] 0 [0] [1,2,29] hC [] ?_
 rcases cB h with⟨h1,h⟩ | ⟨h1,h⟩
 ·replace h:=sI h
  subst h
  exact wr O4 24 [true] [] [] 0 [] hC [pq h1]
 ·obtain⟨y2,h3,h⟩:=Aw h
  refine ws O4 28 [false] [pc e99 (k99 x0 _ h3) [],⟨.when [(y2,true)] (.call 93 [dI x0.Phase,dI 0,dI 1800] [] (dB (F93 x0.Phase 0 1800)) [] []),λ hg=>⟨e93,(k93 x0.Phase 0 1800 _ rfl)⟩⟩,⟨.when [((y2&&(F93 x0.Phase 0 1800)),true)] (.call 93 [dI x0.Au,dI 0,dI 6000] [] (dB (F93 x0.Au 0 6000)) [] []),λ hg=>⟨e93,(k93 x0.Au 0 6000 _ rfl)⟩⟩,pl q98 x0.Ac] [] 0 [0] (Ae4 x0 0 ((y2&&(F93 x0.Phase 0 1800))&&(F93 x0.Au 0 6000))) (Apt x0 0 ((y2&&(F93 x0.Phase 0 1800))&&(F93 x0.Au 0 6000))) hC [pq h1] ?_
  obtain⟨w0,hm0,hret0,hnext0⟩:=Av h
  clear h
  refine wc w0 (Ar8) (Avv x0) ?_ λ z0 hs0=>?_
  ·refine wb ?_
   refine Bq 43 rfl λ hl0=>?_
   refine wl (Ae4 x0) (Apt x0) hm0 (λ z0 hn0=>?_) λ n0 a0 z0 w0b hi0 hx0 h hb0 hr0=>?_
   ·clear hm0
    exact wx w0 (Ar8) (Avv x0) O4 26 [false] [] [] 0 [0] _ hC [pq (A5 hl0)] hn0
   ·unfold Awp at h
    exact wx w0b (Ae4 x0 (n0+1)) (Apt x0 (n0+1)) O4 33 [true] [pt hx0 hl0,⟨.when [(z0,true)] (.call 100 [.agg (d98 a0)] [] (dB (Aah a0)) [] []),λ hg=>⟨A72,(A7e a0 _ rfl)⟩⟩] [] 0 [0] _ hC [pq (A4 hi0 hl0)] (sI h).symm
  ·have h:=hnext0 _ hs0
   refine ws O4 24 [] [pl q90 x0.Af] [] 0 [] (Ae3 x0 0 z0) (Aps 0 z0) hC [] ?_
   obtain⟨w1,hm1,hret1,hnext1⟩:=Av h
   clear h
   refine wc w1 (Ar7) (Avu) ?_ λ z1 hs1=>?_
   ·refine wb ?_
    refine Bq 56 rfl λ hl1=>?_
    refine wl (Ae3 x0) (Aps) hm1 (λ z1 hn1=>?_) λ n1 a1 z1 w1b hi1 hx1 h hb1 hr1=>?_
    ·clear hm1
     exact wx w1 (Ar7) (Avu) O4 26 [false] [] [] 0 [] _ hC [pq (A5 hl1)] hn1
    ·unfold Aj2 at h
     obtain⟨y4,h5,h⟩:=Aw h
     exact wx w1b (Ae3 x0 (n1+1)) (Aps (n1+1)) O4 33 [true] [pt hx1 hl1,pw A71 (λ hg=>A7d a1 (cnt 0 n1) _ (A1 h5 hg)) []] [] 0 [] _ hC [pq (A4 hi1 hl1)] (sI h).symm
   ·have h:=hnext1 _ hs1
    rcases cB h with⟨h6,h⟩ | ⟨h6,h⟩
    ·replace h:=sI h
     subst h
     exact wr O4 27 [true] [] [] 0 [] hC [pq h6]
    ·replace h:=sI h
     subst h
     exact wr O4 28 [false] [] [] 0 [] hC [pq h6]
theorem e51:EN 51:=en Tryz.func51
theorem A5o (x0:List Ai) (r:Bool) (h:Wu x0=some r):CO 90 [.d (DS q87 x0),.d (.fn (.func 91) [] [])] [] (.d (Bo r)) []:=by
 unfold Wu at h
 refine co 9 Tryz.func90 λ C hC=>?_
 obtain⟨y1,h2,h⟩:=Aw h
 replace h:=sI h
 subst h
 exact wr [0,1,4] 25 [] [pc A37 (A2z x0 _ h2) []] [] 0 [] hC []
theorem A53:EN 90:=en Tryz.func90
def Pr:List Nat:=[0,1,2,3,4,5,7,12,20]
theorem A29 (x0:Ax) (x1:Ag) (r:Bool×Ax) (h:Vh x0 x1=some r):CO 121 [.d (.o 0 0),.agg (d49 x1)] (.box 147 (zb x0.An [.os 1,.os 2,.os 3,.os 4,.os 5])::zp x0.Ao [v2_ x0.acts]) (.d (Bo r.1)) (.box 147 (zb r.2.An [.os 1,.os 2,.os 3,.os 4,.os 5])::zp r.2.Ao [v2_ r.2.acts]):=by
 unfold Vh at h
 refine co 45 Tryz.func121 λ C hC=>?_
 obtain⟨y1,h2,h⟩:=Aw h
 refine wn Pr 29 [] [pc qE (jR 3 x1.A x0 _ h2) [6,0,1,2,3,4,5]] [] 6 n8_ [2,3,4,5,7] hC [] ?_
 rcases cB h with⟨h3,h⟩ | ⟨h3,h⟩
 ·replace h:=sI h
  subst h
  exact wr Pr 24 [true] [] [] 6 n6_ hC [pq h3]
 ·rcases cB h with⟨h4,h⟩ | ⟨h4,h⟩
  ·obtain⟨y5,h6,h⟩:=Aw h
   replace h:=sI h
   subst h
   exact wr Pr 27 [false,true] [pc qE (jR 3 x1.B y1.2 _ h6) [6,0,1,2,3,4,5]] [] 6 n6_ hC [pq h3,pq h4]
  ·rcases cB h with⟨h7,h⟩ | ⟨h7,h⟩
   ·obtain⟨y8,h9,y10,h11,h⟩:=A_ h
    replace h:=sI h
    subst h
    exact wr Pr 30 [false,false,true] [pc qE (jR 1 x1.B y1.2 _ h9) [6,0,1,2,3,4,5],pR q87 h11,pN q87 h11] [] 6 n6_ hC [pq h3,pq h4,pq h7]
   ·obtain⟨y12,h13,h⟩:=Aw h
    replace h:=sI h
    subst h
    exact wr Pr 32 [false,false,false] [pc qE (jR 4 x1.B y1.2 _ h13) [6,0,1,2,3,4,5]] [] 6 n6_ hC [pq h3,pq h4,pq h7]
theorem A4h:EN 121:=en Tryz.func121
def Mn:List Nat:=[0,1,2,6,7,8,9,13,30,35,54]
def Tb (x1:Int) (z0:Yl):St:=[(0,dS 0),(1,dI x1),(2,.d (.fn (.func 133) [] [.o 1 0])),(6,dI 20),(7,dI z0.1),(8,dI z0.2.1)]
def Yq  (z0:Yl):List Res:=[v0_ z0.2.2.1,.box 29 [I (g3_ z0),DS q49 (g4_ z0),DS q98 (g5_ z0),DS q90 (g6_ z0),I (g7_ z0),I (Ag8 z0)]]
def Aaz (x1:Int) (z0:Yl):St:=[(0,dS 0),(1,dI x1),(2,.d (.fn (.func 133) [] [.o 1 0])),(6,dI 20),(7,dI z0.1),(8,dI z0.2.1)]
def Aca  (z0:Yl):List Res:=[v0_ z0.2.2.1,.box 29 [I (g3_ z0),DS q49 (g4_ z0),DS q98 (g5_ z0),DS q90 (g6_ z0),I (g7_ z0),I (Ag8 z0)]]
def Aap (x1:Int) (z0:Yl) (z1:Unit):St:=[(0,dS 0),(1,dI x1),(2,.d (.fn (.func 133) [] [.o 1 0])),(6,dI 20),(7,dI z0.1),(8,dI z0.2.1)]
def Aiw (y4:(List Int)×Aa) (z1:Unit):List Res:=[v0_ y4.1,.box 29 (d29 y4.2)]
def Aay  (z1:Unit):St:=[]
def Ab9 (y4:(List Int)×Aa) (z1:Unit):List Res:=[v0_ y4.1,.box 29 (d29 y4.2)]
def A6m (x1:Int) (z2:Unit):St:=[(0,dS 0),(1,dI x1),(2,.d (.fn (.func 133) [] [.o 1 0])),(6,dI 20),(7,dI 0),(8,dI 40)]
def A73 (y4:(List Int)×Aa) (z2:Unit):List Res:=[v0_ y4.1,.box 29 (d29 y4.2)]
def A6n (x1:Int) (z2:Unit):St:=[(0,dS 0),(1,dI x1),(2,.d (.fn (.func 133) [] [.o 1 0])),(6,dI 20),(7,dI 0),(8,dI 40)]
def A6o (y4:(List Int)×Aa) (z2:Unit):List Res:=[v0_ y4.1,.box 29 (d29 y4.2)]
theorem A2p (x0:List Int) (x1:Int) (x2c0:Aa) (r:(List Int)×Aa) (h:uX x0 x1 x2c0=some r):CO 165 [.d (.os 0),.d (I x1),.d (.fn (.func 133) [] [.o 1 0])] [v0_ x0,.box 29 (d29 x2c0)] (.tup []) [v0_ r.1,.box 29 (d29 r.2)]:=by
 unfold uX at h
 refine co 63 Tryz.func165 λ C hC=>?_
 refine ws Mn 26 [] [] [] 2 [0,1] (Tb x1 (0,20,x0,x2c0.Am,x2c0.Ad,x2c0.Ac,x2c0.Af,x2c0.Phase,x2c0.Au)) (Yq (0,20,x0,x2c0.Am,x2c0.Ad,x2c0.Ac,x2c0.Af,x2c0.Phase,x2c0.Au)) hC [] ?_
 obtain⟨w0,hm0,hret0,hnext0⟩:=Av h
 clear h
 refine wc w0 (Aaz x1) (Aca) ?_ λ z0 hs0=>?_
 ·refine wb ?_
  refine ww (Tb x1) (Yq) hm0 λ z0 w0b h hb0 hr0=>?_
  unfold U4 at h
  rcases cB h with⟨h1,h⟩ | ⟨h1,h⟩
  ·obtain⟨y2,h3,h⟩:=Aw h
   exact wx w0b (Tb x1) (Yq) Mn 33 [true] [pc At4 (Atc z0.2.2.1 z0.1 z0.2.1 (⟨(g3_ z0),(g4_ z0),(g5_ z0),(g6_ z0),(g7_ z0),(Ag8 z0)⟩:Aa) _ h3) [0,1]] [] 2 [0,1] _ hC [pq h1] (sI h).symm
  ·exact wx w0 (Aaz x1) (Aca) Mn 26 [false] [] [] 2 [0,1] (z0.1,z0.2.1,z0.2.2.1,(g3_ z0),(g4_ z0),(g5_ z0),(g6_ z0),(g7_ z0),(Ag8 z0)) hC [pq h1] (hb0 _ (sI h).symm)
 ·have h:=hnext0 _ hs0
  obtain⟨y4,h5,h⟩:=Aw h
  refine ws Mn 23 [] [pc At4 (Atc z0.2.2.1 z0.1 x1 (⟨(g3_ z0),(g4_ z0),(g5_ z0),(g6_ z0),(g7_ z0),(Ag8 z0)⟩:Aa) _ h5) [0,1]] [] 2 [0,1] (Aap x1 z0 ()) (Aiw y4 ()) hC [] ?_
  obtain⟨w1,hm1,hret1,hnext1⟩:=Av h
  clear h
  refine wc w1 (Aay) (Ab9 y4) ?_ λ z1 hs1=>?_
  ·refine wb ?_
   refine ww (Aap x1 z0) (Aiw y4) hm1 λ z1 w1b h hb1 hr1=>?_
   unfold U3 at h
   rcases cB h with⟨h6,h⟩ | ⟨h6,h⟩
   ·cases h
   ·exact wx w1 (Aay) (Ab9 y4) Mn 26 [false] [] [] 2 [0,1] () hC [pq h6] (hb1 _ (sI h).symm)
  ·have h:=hnext1 _ hs1
   replace h:=sI h
   subst h
   exact wf Mn 20 [] [] [] 2 [0,1] hC []
theorem A3x:EN 165:=en Tryz.func165
def Jh:List Nat:=[0,1,4,5,6,7,12,19,29]
def N0  (z0:Int×Int×(List Int)):St:=[(0,dS 0),(1,.d (.fn (.func 126) [] [.o 1 0])),(4,.d (DS pI [])),(5,dI z0.1),(6,dI z0.2.1)]
def R9 (y1:Int×Aj) (z0:Int×Int×(List Int)):List Res:=[v0_ z0.2.2,.box 62 (d62 y1.2)]
def Aa7  (z0:Int×Int×(List Int)):St:=[(0,dS 0),(4,.d (DS pI [])),(5,dI z0.1)]
def Aci (y1:Int×Aj) (z0:Int×Int×(List Int)):List Res:=[v0_ z0.2.2,.box 62 (d62 y1.2)]
theorem A24 (x0:List Int) (x1c0:Aj) (r:(List Int)×Aj) (h:Vf x0 x1c0=some r):CO 125 [.d (.os 0),.d (.fn (.func 126) [] [.o 1 0])] [.sl 3 1 (x0.map pI),.box 62 (d62 x1c0)] (.d (.os 2)) [.non,.box 62 (d62 r.2),.sl 3 1 (r.1.map pI)]:=by
 unfold Vf at h
 refine co 42 Tryz.func125 λ C hC=>?_
 obtain⟨y1,h2,h⟩:=Aw h
 refine wn Jh 28 [] [pc A3z (A2r x0 x1c0 _ h2) [0,1]] [] 2 [0,1] [0,1,4,5,12] hC [] ?_
 rcases cB h with⟨h3,h⟩ | ⟨h3,h⟩
 ·replace h:=sI h
  subst h
  exact wr Jh 24 [true] [] [.mv 0] 2 n3_ hC [pq h3]
 ·refine ws Jh 26 [false] [] [] 2 [0,1] (N0 (y1.1,w64 (y1.1+1),x0)) (R9 y1 (y1.1,w64 (y1.1+1),x0)) hC [pq h3] ?_
  obtain⟨w0,hm0,hret0,hnext0⟩:=Av h
  clear h
  refine wc w0 (Aa7) (Aci y1) ?_ λ z0 hs0=>?_
  ·refine wb ?_
   refine ww (N0) (R9 y1) hm0 λ z0 w0b h hb0 hr0=>?_
   unfold Ve at h
   rcases cB h with⟨h4,h⟩ | ⟨h4,h⟩
   ·obtain⟨y5,h6,y7,h8,h⟩:=A_ h
    refine wn Jh 32 [true] [pl pI z0.2.2,pr pI h6,pn pI h6,pb At9 (Ath y5 y1.2 _ h8)] [] 2 [0,1] [0,1,4,5,6,7,29] hC [pq h4] ?_
    rcases cB h with⟨h9,h⟩ | ⟨h9,h⟩
    ·obtain⟨y10,h11,y12,h13,h⟩:=A_ h
     exact wx w0b (N0) (R9 y1) Jh 27 [true] [pr pI h11,pu pI h11 h13] [] 2 [0,1] _ hC [pq h9] (sI h).symm
    ·exact wx w0b (N0) (R9 y1) Jh 25 [false] [] [] 2 [0,1] _ hC [pq h9] (sI h).symm
   ·exact wx w0 (Aa7) (Aci y1) Jh 26 [false] [pl pI z0.2.2] [] 2 [0,1] (z0.1,z0.2.1,z0.2.2) hC [pq h4] (hb0 _ (sI h).symm)
  ·have h:=hnext0 _ hs0
   obtain⟨u15,h14,u17,h16,h⟩:=A_ h
   replace h:=sI h
   subst h
   (rw [List.map_take];exact qY (bs:=[]) I4 Jh 25 [] [.bnd (z0.2.2.map pI).length z0.1 (((z0.2.2.map pI).length:Nat):Int) (ln z0.2.2),.eqr ((z0.2.2.map pI).take (Int.toNat z0.1)++(List.replicate ((Int.toNat (ln z0.2.2))-(Int.toNat z0.1)) (pI 0)++(z0.2.2.map pI).drop ((Int.toNat z0.1)+((Int.toNat (ln z0.2.2))-(Int.toNat z0.1))))) ((G5 z0.2.2 (Int.toNat z0.1) ((Int.toNat (ln z0.2.2))-(Int.toNat z0.1)) 0).map pI),.bnd ((G5 z0.2.2 (Int.toNat z0.1) ((Int.toNat (ln z0.2.2))-(Int.toNat z0.1)) 0).map pI).length 0 z0.1 z0.1] [.trunc 4] [.tmp 4] 2 n3_ rfl hC ⟨Fz (by simp) (by simp) h14,zE pI rfl,Fz (by simp) rfl h16,trivial⟩ trivial (by kernel_rfl))
theorem A4c:EN 125:=en Tryz.func125
theorem k55 (x0:Aa) (x1:Ab) (x2:Int) (r:Bool) (h:F55 x0 x1 x2=some r):CO 55 [.agg (d29 x0),.agg (d34 x1),.d (I x2)] [] (.d (Bo r)) []:=by
 unfold F55 at h
 refine co 28 Tryz.func55 λ C hC=>?_
 obtain⟨y1,h2,y3,h4,y5,h6,y7,h8,h⟩:=C8 h
 replace h:=sI h
 subst h
 exact wr [0,1,2,3,4,6] 25 [] [pc e56 (k56 x0 x2 _ h2) [],pc e57 (k57 x0 x1 y1 _ h4) [],pw e76 (λ hg=>k76 x1 1 x2 _ (A1 h6 hg)) [],pR q87 h8] [] 0 [] hC []
theorem e55:EN 55:=en Tryz.func55
theorem A3h (x0:A0) (x1:Int) (r:Int×A0) (h:Ly x0 x1=some r):CO 112 [.d (.o 0 0),.d (I x1)] (.box 107 (zb x0.An [.os 1,.os 2,.os 3,.os 4,I x0.time])::zp x0.Ao []) (.d (I r.1)) (.box 107 (zb r.2.An [.os 1,.os 2,.os 3,.os 4,I r.2.time])::zp r.2.Ao []):=by
 unfold Ly at h
 refine co 53 Tryz.func112 λ C hC=>?_
 obtain⟨y1,h2,y3,h4,h⟩:=A_ h
 refine wn [0,1,4,5,23,43] 26 [] [pr q87 h2,pn q87 h2,pv e76 (λ hg=>k76 x0.Ao 1 x1 _ (A1 h4 hg))] [] 5 n5_ [0,1,4,23] hC [] ?_
 rcases cB h with⟨h5,h⟩ | ⟨h5,h⟩
 ·replace h:=sI h
  subst h
  exact wr [0,1,4,5,23,43] 24 [true] [] [] 5 n5_ hC [pq h5]
 ·obtain⟨y6,h7,y8,h9,h⟩:=A_ h
  refine wn [0,1,4,5,23,43] 28 [false] [pr q98 h7,pv Ahs (λ hg=>Ag4 x0 x1 _ (A1 h9 hg))] [] 5 n6_ [0,1,4,5,43] hC [pq h5] ?_
  rcases cB h with⟨h10,h⟩ | ⟨h10,h⟩
  ·obtain⟨y11,h12,h⟩:=Aw h
   replace h:=sI h
   subst h
   exact wr [0,1,4,5,23,43] 27 [true] [pr q87 h2,pu q87 h2 h12] [] 5 n5_ hC [pq h10]
  ·obtain⟨y13,h14,h⟩:=Aw h
   replace h:=sI h
   subst h
   exact wr [0,1,4,5,23,43] 27 [false] [pr q87 h2,pu q87 h2 h14] [] 5 n5_ hC [pq h10]
theorem A4p:EN 112:=en Tryz.func112
def Kt:List Nat:=[0,1,2,3,4,6,7,8,9,10,11,12,13,14,28,37,38,39,54,64,65,66,81]
def Zv (x0:Aa) (z0:Int×(List Int)):St:=[(3,dO 0 0),(4,dO 1 0),(6,dO 2 0),(7,dB false),(8,dO 7 0),(37,dI (ln x0.Ac)),(38,dI z0.1)]
def Ad1 (x0:Aa) (x1:Ab) (y4:(List Int)) (z0:Int×(List Int)):List Res:=[.box 29 (d29 x0),.box 34 (d34 x1),.box 62 [.os 3,.os 4,.os 5],v0_ ([]:List Int),v0_ ([]:List Int),v0_ ([]:List Int),v0_ y4,.box 62 [.os 6,.os 8,.os 9],v0_ z0.2,v0_ ([]:List Int)]
def Asa  (z0:Int×(List Int)):St:=[(3,dO 0 0),(4,dO 1 0),(6,dO 2 0),(7,dB false),(8,dO 7 0)]
def Avx (x0:Aa) (x1:Ab) (y4:(List Int)) (z0:Int×(List Int)):List Res:=[.box 29 (d29 x0),.box 34 (d34 x1),.box 62 [.os 3,.os 4,.os 5],v0_ ([]:List Int),v0_ ([]:List Int),v0_ ([]:List Int),v0_ y4,.box 62 [.os 6,.os 8,.os 9],v0_ z0.2,v0_ ([]:List Int)]
def Zu (x0:Aa) (z1:Int×(List Int)):St:=[(3,dO 0 0),(4,dO 1 0),(6,dO 2 0),(7,dB false),(8,dO 7 0),(64,dI (ln x0.Af)),(65,dI z1.1)]
def Ad0 (x0:Aa) (x1:Ab) (y4:(List Int)) (z0:Int×(List Int)) (z1:Int×(List Int)):List Res:=[.box 29 (d29 x0),.box 34 (d34 x1),.box 62 [.os 3,.os 4,.os 5],v0_ ([]:List Int),v0_ ([]:List Int),v0_ ([]:List Int),v0_ y4,.box 62 [.os 6,.os 8,.os 9],v0_ z0.2,v0_ z1.2]
def Ar9  (z1:Int×(List Int)):St:=[(6,dO 0 0),(7,dB false),(8,dO 5 0)]
def Avw (y4:(List Int)) (z0:Int×(List Int)) (z1:Int×(List Int)):List Res:=[.box 62 [.os 1,.os 2,.os 3],v0_ ([]:List Int),v0_ ([]:List Int),v0_ ([]:List Int),v0_ y4,.box 62 [.os 4,.os 6,.os 7],v0_ z0.2,v0_ z1.2]
theorem k50 (x0:Aa) (x1:Ab) (x2:Int) (r:Aj×Bool) (h:F50 x0 x1 x2=some r):CO 50 [.agg (d29 x0),.agg (d34 x1),.d (I x2)] [] (.tup [.agg [.os 0,.os 1,.os 2],.d (Bo r.2)]) [v0_ r.1.Am,v0_ r.1.Ac,v0_ r.1.Af]:=by
 unfold F50 at h
 refine co 90 Tryz.func50 λ C hC=>?_
 obtain⟨y1,h2,h⟩:=Aw h
 refine wn Kt 26 [] [pc e11 (k11 x0 x1 _ h2) []] [.ownb 2 0 3 1,.ownb 2 1 3 1,.ownb 2 2 3 1] 0 n6_ [2,3,4,6,7,28] hC [] ?_
 rcases cB h with⟨h3,h⟩ | ⟨h3,h⟩
 ·replace h:=sI h
  subst h
  exact wr Kt 24 [true] [] [.ownb 2 0 3 1,.ownb 2 1 3 1,.ownb 2 2 3 1] 0 [6,7,8] hC [pq h3]
 ·obtain⟨y4,h5,h⟩:=Aw h
  refine ws Kt 28 [false] [pc e98 (k98 x0 x1 x2 _ h5) [],pl q98 x0.Ac] [.ownb 7 1 3 1,.ownb 7 2 3 1] 0 Jv (Zv x0 (0,([]:List Int))) (Ad1 x0 x1 y4 (0,([]:List Int))) hC [pq h3] ?_
  obtain⟨w0,hm0,hret0,hnext0⟩:=Av h
  clear h
  refine wc w0 (Asa) (Avx x0 x1 y4) ?_ λ z0 hs0=>?_
  ·refine wb ?_
   refine ww (Zv x0) (Ad1 x0 x1 y4) hm0 λ z0 w0b h hb0 hr0=>?_
   unfold Aj4 at h
   rcases cB h with⟨h6,h⟩ | ⟨h6,h⟩
   ·obtain⟨y7,h8,y9,h10,h⟩:=A_ h
    refine wn Kt 34 [true] [pc e52 (k52 x0 x1 z0.1 _ h8) [],pv e53 (λ hg=>k53 y4 y7.1 _ (A1 h10 hg))] [] 0 Jv [3,4,6,7,8,9,37,38,54] hC [pq h6] ?_
    rcases cB h with⟨h11,h⟩ | ⟨h11,h⟩
    ·obtain⟨y12,h13,h⟩:=Aw h
     exact wx w0b (Zv x0) (Ad1 x0 x1 y4) Kt 25 [true] [pa pI 1 h13] [] 0 [0,1,2,3,4,5,6,7,10,9] _ hC [pq h11] (sI h).symm
    ·exact wx w0b (Zv x0) (Ad1 x0 x1 y4) Kt 25 [false] [] [] 0 Jv _ hC [pq h11] (sI h).symm
   ·exact wx w0 (Asa) (Avx x0 x1 y4) Kt 26 [false] [] [] 0 Jv (z0.1,z0.2) hC [pq h6] (hb0 _ (sI h).symm)
  ·have h:=hnext0 _ hs0
   refine ws Kt 24 [] [pl q90 x0.Af] [] 0 Jv (Zu x0 (0,([]:List Int))) (Ad0 x0 x1 y4 z0 (0,([]:List Int))) hC [] ?_
   obtain⟨w1,hm1,hret1,hnext1⟩:=Av h
   clear h
   refine wc w1 (Ar9) (Avw y4 z0) ?_ λ z1 hs1=>?_
   ·refine wb ?_
    refine ww (Zu x0) (Ad0 x0 x1 y4 z0) hm1 λ z1 w1b h hb1 hr1=>?_
    unfold Aj3 at h
    rcases cB h with⟨h14,h⟩ | ⟨h14,h⟩
    ·obtain⟨y15,h16,y17,h18,h⟩:=A_ h
     refine wn Kt 34 [true] [pc e13 (k13 x0 x1 z1.1 _ h16) [],pv e53 (λ hg=>k53 y4 y15.1 _ (A1 h18 hg))] [] 0 Jv [3,4,6,7,8,12,64,65,81] hC [pq h14] ?_
     rcases cB h with⟨h19,h⟩ | ⟨h19,h⟩
     ·obtain⟨y20,h21,h⟩:=Aw h
      exact wx w1b (Zu x0) (Ad0 x0 x1 y4 z0) Kt 25 [true] [pa pI 1 h21] [] 0 [0,1,2,3,4,5,6,7,8,10] _ hC [pq h19] (sI h).symm
     ·exact wx w1b (Zu x0) (Ad0 x0 x1 y4 z0) Kt 25 [false] [] [] 0 Jv _ hC [pq h19] (sI h).symm
    ·exact wx w1 (Ar9) (Avw y4 z0) Kt 26 [false] [] [] 0 [2,3,4,5,6,7,8,9] (z1.1,z1.2) hC [pq h14] (hb1 _ (sI h).symm)
   ·have h:=hnext1 _ hs1
    replace h:=sI h
    subst h
    exact wr Kt 23 [] [] [] 0 [4,6,7] hC []
theorem e50:EN 50:=en Tryz.func50
def T1:List Nat:=[0,1,2,3,4,5,6,7,8,12,38,50,51,52,53,77]
def Ae5 (x1:Ab) (n0:Nat) (z0:Bool):St:=[(2,dO 0 0),(3,dO 1 0),(4,dI 0),(6,dB z0),(50,.d (DS pI x1.Al)),(51,dI (ln x1.Al)),(52,dI (cnt 0 n0))]
def Apu (x0:Aa) (x1:Ab) (n0:Nat) (z0:Bool):List Res:=[.box 29 (d29 x0),.box 34 (d34 x1)]
def Asc  (z0:Bool):St:=[(4,dI 0),(6,dB z0)]
def Avz  (z0:Bool):List Res:=[]
theorem k44 (x0:Aa) (x1:Ab) (r:Int) (h:F44 x0 x1=some r):CO 44 [.agg (d29 x0),.agg (d34 x1)] [] (.d (I r)) []:=by
 unfold F44 at h
 refine co 78 Tryz.func44 λ C hC=>?_
 obtain⟨y1,h2,h⟩:=Aw h
 rcases cB h with⟨h3,h⟩ | ⟨h3,h⟩
 ·replace h:=sI h
  subst h
  exact wr T1 31 [true] [pc e51 (k51 x0 _ h2) []] [] 0 [] hC [pq h3]
 ·refine wn T1 33 [false] [pc e51 (k51 x0 _ h2) [],pl pB x1.Ae,pl q49 x0.Ad,pL_ [(((ln x1.Ae) != (ln x0.Ad)),false)] q87 x1.Ac,pL_ [(((ln x1.Ae) != (ln x0.Ad)),false)] q98 x0.Ac,pL_ [((((ln x1.Ae) != (ln x0.Ad)) || ((ln x1.Ac) != (ln x0.Ac))),false)] pI x1.Al,pL_ [((((ln x1.Ae) != (ln x0.Ad)) || ((ln x1.Ac) != (ln x0.Ac))),false)] q90 x0.Af] [] 0 [0,1] [2,3,4,38] hC [pq h3] ?_
  rcases cB h with⟨h4,h⟩ | ⟨h4,h⟩
  ·replace h:=sI h
   subst h
   exact wr T1 24 [true] [] [] 0 [] hC [pq h4]
  ·obtain⟨y5,h6,y7,h8,h⟩:=A_ h
   refine ws T1 28 [false] [pc e89 (k89 x0 x1.Ah _ h6) [],pw A53 (λ hg=>A5o x1.Ac _ (A1 h8 hg)) [],pl pI x1.Al] [] 0 [0,1] (Ae5 x1 0 (y5&&(!y7))) (Apu x0 x1 0 (y5&&(!y7))) hC [pq h4] ?_
   obtain⟨w0,hm0,hret0,hnext0⟩:=Av h
   clear h
   refine wc w0 (Asc) (Avz) ?_ λ z0 hs0=>?_
   ·refine wb ?_
    refine Bq 50 rfl λ hl0=>?_
    refine wl (Ae5 x1) (Apu x0 x1) hm0 (λ z0 hn0=>?_) λ n0 a0 z0 w0b hi0 hx0 h hb0 hr0=>?_
    ·clear hm0
     exact wx w0 (Asc) (Avz) T1 26 [false] [] [] 0 [] _ hC [pq (A5 hl0)] hn0
    ·unfold Aj6 at h
     obtain⟨y9,h10,y11,h12,h⟩:=A_ h
     exact wx w0b (Ae5 x1 (n0+1)) (Apu x0 x1 (n0+1)) T1 33 [true] [pt hx0 hl0,pR q90 h10,⟨.when [(z0,true)] (.call 93 [dI a0,dI 0,dI y9.Load] [] (dB (F93 a0 0 y9.Load)) [] []),λ hg=>⟨e93,(k93 a0 0 y9.Load _ rfl)⟩⟩,pw e94 (λ hg=>k94 x0 x1 (cnt 0 n0) _ (A1 h12 hg)) []] [] 0 [0,1] _ hC [pq (A4 hi0 hl0)] (sI h).symm
   ·have h:=hnext0 _ hs0
    rcases cB h with⟨h13,h⟩ | ⟨h13,h⟩
    ·replace h:=sI h
     subst h
     exact wr T1 27 [true] [] [] 0 [] hC [pq h13]
    ·replace h:=sI h
     subst h
     exact wr T1 28 [false] [] [] 0 [] hC [pq h13]
theorem e44:EN 44:=en Tryz.func44
theorem A3g (x0:A0) (x1:Int) (r:Int×A0) (h:Vp x0 x1=some r):CO 113 [.d (.o 0 0),.d (I x1)] (.box 107 (zb x0.An [.os 1,.os 2,.os 3,.os 4,I x0.time])::zp x0.Ao []) (.d (I r.1)) (.box 107 (zb r.2.An [.os 1,.os 2,.os 3,.os 4,I r.2.time])::zp r.2.Ao []):=by
 unfold Vp at h
 refine co 34 Tryz.func113 λ C hC=>?_
 obtain⟨y1,h2,y3,h4,h⟩:=A_ h
 refine wn [0,1,4,5,30] 28 [] [pr q87 h2,pn q87 h2,⟨.when [((y1.State != 1),true)] (.row (x0.Ao.Ac.map q87) (((Int.toNat x1):Nat):Int) (q87 y1)),λ hg=>Ki h2⟩,pv Ahs (λ hg=>Ag4 x0 x1 _ (A1 h4 hg))] [] 5 n5_ [4,5,30] hC [] ?_
 rcases cB h with⟨h5,h⟩ | ⟨h5,h⟩
 ·replace h:=sI h
  subst h
  exact wr [0,1,4,5,30] 24 [true] [] [] 5 n5_ hC [pq h5]
 ·obtain⟨y6,h7,h⟩:=Aw h
  replace h:=sI h
  subst h
  exact wr [0,1,4,5,30] 27 [false] [pu q87 h2 h7] [] 5 n5_ hC [pq h5]
theorem A4o:EN 113:=en Tryz.func113
def Ig:List Nat:=[0,1,4,5,6,8,13,14,15,16,32,38,39,40,41]
def N5 (x0:Ax) (n0:Nat) (z0:Sg8):St:=[(0,dO 0 0),(1,.d (.fn (.func 121) [.o 0 0] [])),(4,dS 6),(13,.d (DS q49 x0.An.Ad)),(14,dI (ln x0.An.Ad)),(15,dI (cnt 0 n0))]
def Sd  (n0:Nat) (z0:Sg8):List Res:=[.box 147 [I z0.1,DS q49 z0.2.1,DS q98 z0.2.2.1,DS q90 (g3_ z0),I (g4_ z0),I (g5_ z0),.os 7,.os 8,.os 9,.os 10,.os 11],.non,.non,.non,.non,.non,v0_ (g6_ z0),v1_ (g7_ z0),v4_ (g8_ z0),v0_ (g9_ z0),v3_ (Cp z0),v2_ (C7 z0)]
def Abg  (z0:Sg8):St:=[(0,dO 0 0),(4,dS 6)]
def Acr  (z0:Sg8):List Res:=[.box 147 [I z0.1,DS q49 z0.2.1,DS q98 z0.2.2.1,DS q90 (g3_ z0),I (g4_ z0),I (g5_ z0),.os 7,.os 8,.os 9,.os 10,.os 11],.non,.non,.non,.non,.non,v0_ (g6_ z0),v1_ (g7_ z0),v4_ (g8_ z0),v0_ (g9_ z0),v3_ (Cp z0),v2_ (C7 z0)]
def Ti (z0:Sg8) (n1:Nat) (z1:Sg7):St:=[(0,dO 0 0),(38,dS 6),(39,dI (ln (g6_ z0))),(40,dI (cnt 0 n1))]
def Yx (z0:Sg8) (n1:Nat) (z1:Sg7):List Res:=[.box 147 [I z1.1,DS q49 z1.2.1,DS q98 z1.2.2.1,DS q90 (g3_ z1),I (g4_ z1),I (g5_ z1),.os 7,.os 8,.os 9,.os 10,.os 11],.non,.non,.non,.non,.non,v0_ (g6_ z0),v1_ (g6_ z1),v4_ (g7_ z1),v0_ (g8_ z1),v3_ (g9_ z1),v2_ (Gj z1)]
def Abf  (z1:Sg7):St:=[]
def Acq  (z1:Sg7):List Res:=[.box 147 [I z1.1,DS q49 z1.2.1,DS q98 z1.2.2.1,DS q90 (g3_ z1),I (g4_ z1),I (g5_ z1),.os 6,.os 7,.os 8,.os 9,.os 10],.non,.non,.non,.non,.non,v1_ (g6_ z1),v4_ (g7_ z1),v0_ (g8_ z1),v3_ (g9_ z1),v2_ (Gj z1)]
theorem A3c (x0:Ax) (r:Ax) (h:Vn x0=some r):CO 120 [.d (.o 0 0),.d (.fn (.func 121) [.o 0 0] [])] (.box 147 (zb x0.An [.os 1,.os 2,.os 3,.os 4,.os 5])::zp x0.Ao [v2_ x0.acts]) (.tup []) (.box 147 (zb r.An [.os 6,.os 7,.os 8,.os 9,.os 10]) :: .non :: .non :: .non :: .non :: .non::zp r.Ao [v2_ r.acts]):=by
 unfold Vn at h
 refine co 48 Tryz.func120 λ C hC=>?_
 refine ws Ig 26 [] [pl q49 x0.An.Ad] [.own 4 3 1,.mv 1,.mv 2,.mv 3,.mv 4,.mv 5] 6 E0 (N5 x0 0 (zt x0.An (([]:List Int),zu x0.Ao x0.acts))) (Sd 0 (zt x0.An (([]:List Int),zu x0.Ao x0.acts))) hC [] ?_
 obtain⟨w0,hm0,hret0,hnext0⟩:=Av h
 clear h
 refine wc w0 (Abg) (Acr) ?_ λ z0 hs0=>?_
 ·refine wb ?_
  refine Bq 13 rfl λ hl0=>?_
  refine wl (N5 x0) (Sd) hm0 (λ z0 hn0=>?_) λ n0 a0 z0 w0b hi0 hx0 h hb0 hr0=>?_
  ·clear hm0
   exact wx w0 (Abg) (Acr) Ig 26 [false] [] [] 6 E0 _ hC [pq (A5 hl0)] hn0
  ·unfold Vm at h
   obtain⟨y1,h2,y3,h4,h⟩:=A_ h
   refine wn Ig 32 [true] [pt hx0 hl0,pr pB h2,pn pB h2,⟨.whenR [(y1,true)] (.call 121 [dO 0 0,.agg (d49 a0)] [.box 147 [I z0.1,DS q49 z0.2.1,DS q98 z0.2.2.1,DS q90 (g3_ z0),I (g4_ z0),I (g5_ z0),.os 1,.os 2,.os 3,.os 4,.os 5],v1_ (g7_ z0),v4_ (g8_ z0),v0_ (g9_ z0),v3_ (Cp z0),v2_ (C7 z0)] (dB y3.1) (.box 147 (zb y3.2.An [.os 1,.os 2,.os 3,.os 4,.os 5])::zp y3.2.Ao [v2_ y3.2.acts]) [0,7,8,9,10,11]),⟨λ hg=>⟨A4h,(A29 (⟨(⟨z0.1,z0.2.1,z0.2.2.1,(g3_ z0),(g4_ z0),(g5_ z0)⟩:Aa),(⟨(g7_ z0),(g8_ z0),(g9_ z0),(Cp z0)⟩:Ab),(C7 z0)⟩:Ax) a0 _ (A1 h4 hg))⟩,λ hg=>by have e:=J5 h4 hg;subst e;rfl⟩⟩] [] 6 E0 [0,1,4,5,13,14,15,32] hC [pq (A4 hi0 hl0)] ?_
   rcases cB h with⟨h5,h⟩ | ⟨h5,h⟩
   ·obtain⟨y6,h7,h⟩:=Aw h
    exact wx w0b (N5 x0 (n0+1)) (Sd (n0+1)) Ig 25 [true] [pa pI 1 h7] [] 6 [0,1,2,3,4,5,12,7,8,9,10,11] _ hC [pq h5] (sI h).symm
   ·exact wx w0b (N5 x0 (n0+1)) (Sd (n0+1)) Ig 25 [false] [] [] 6 E0 _ hC [pq h5] (sI h).symm
 ·have h:=hnext0 _ hs0
  refine ws Ig 23 [] [pl pI (g6_ z0)] [] 6 E0 (Ti z0 0 (z0.1,z0.2.1,z0.2.2.1,(g3_ z0),(g4_ z0),(g5_ z0),(g7_ z0),(g8_ z0),(g9_ z0),(Cp z0),(C7 z0))) (Yx z0 0 (z0.1,z0.2.1,z0.2.2.1,(g3_ z0),(g4_ z0),(g5_ z0),(g7_ z0),(g8_ z0),(g9_ z0),(Cp z0),(C7 z0))) hC [] ?_
  obtain⟨w1,hm1,hret1,hnext1⟩:=Av h
  clear h
  refine wc w1 (Abf) (Acq) ?_ λ z1 hs1=>?_
  ·refine wb ?_
   refine B1 38 6 rfl rfl λ hl1=>?_
   refine wl (Ti z0) (Yx z0) hm1 (λ z1 hn1=>?_) λ n1 a1 z1 w1b hi1 hx1 h hb1 hr1=>?_
   ·clear hm1
    exact wx w1 (Abf) (Acq) Ig 26 [false] [] [] 6 [0,1,2,3,4,5,7,8,9,10,11] _ hC [pq (A5 hl1)] hn1
   ·unfold Ow at h
    obtain⟨y8,h9,h⟩:=Aw h
    exact wx w1b (Ti z0 (n1+1)) (Yx z0 (n1+1)) Ig 33 [true] [pr pI (Bb hx1 hl1),pn pI (Bb hx1 hl1),pc Ahr (Ag3 (⟨(⟨z1.1,z1.2.1,z1.2.2.1,(g3_ z1),(g4_ z1),(g5_ z1)⟩:Aa),(⟨(g6_ z1),(g7_ z1),(g8_ z1),(g9_ z1)⟩:Ab),(Gj z1)⟩:Ax) a1 _ h9) [0,7,8,9,10,11]] [] 6 [0,1,2,3,4,5,6,7,8,9,10,12] _ hC [pq (A4 hi1 hl1)] (sI h).symm
  ·have h:=hnext1 _ hs1
   replace h:=sI h
   subst h
   exact wf Ig 20 [] [] [] 6 Anz hC []
theorem A4k:EN 120:=en Tryz.func120
theorem A21 (x0:List Int) (x1c0:Aa) (r:(List Int)×Aa) (h:Vb x0 x1c0=some r):CO 132 [.d (.os 0),.d (.fn (.func 133) [] [.o 1 0])] [v0_ x0,.box 29 (d29 x1c0)] (.tup []) [v0_ r.1,.box 29 (d29 r.2)]:=by
 unfold Vb at h
 refine co 9 Tryz.func132 λ C hC=>?_
 obtain⟨y1,h2,h⟩:=Aw h
 replace h:=sI h
 subst h
 exact wf [0,1] 21 [] [pl pI x0,pc A3x (A2p x0 (ln x0) x1c0 _ h2) [0,1]] [] 2 [0,1] hC []
theorem A39:EN 132:=en Tryz.func132
theorem k14 (x0:Aa) (x1:Ab) (x2:Int) (r:Bool) (h:F14 x0 x1 x2=some r):CO 14 [.agg (d29 x0),.agg (d34 x1),.d (I x2)] [] (.d (Bo r)) []:=by
 unfold F14 at h
 refine co 23 Tryz.func14 λ C hC=>?_
 obtain⟨y1,h2,h⟩:=Aw h
 replace h:=sI h
 subst h
 exact wr [0,1,2,3,4,6,7,8] 27 [] [pc e50 (k50 x0 x1 x2 _ h2) [],pL_ [(y1.2,true)] pI y1.1.Ac] [] 0 [] hC []
theorem e14:EN 14:=en Tryz.func14
def Na:List Nat:=[0,1,2,3,4,5,6,7,12,16,31]
def Z1  (z0:Int×(List Aj)):St:=[(2,dO 0 0),(3,dO 1 0),(4,.d (DS q62 [])),(5,dS 2),(6,dI z0.1)]
def Ad7 (x0:Aa) (x1:Ab) (z0:Int×(List Aj)):List Res:=[.box 29 (d29 x0),.box 34 (d34 x1),v5_ z0.2]
def Asm  (z0:Int×(List Aj)):St:=[(4,.d (DS q62 [])),(5,dS 0)]
def Av9  (z0:Int×(List Aj)):List Res:=[v5_ z0.2]
theorem k21 (x0:Aa) (x1:Ab) (r:(List Aj)) (h:F21 x0 x1=some r):CO 21 [.agg (d29 x0),.agg (d34 x1)] [] (.d (.os 0)) [v5_ r]:=by
 unfold F21 at h
 refine co 37 Tryz.func21 λ C hC=>?_
 obtain⟨y1,h2,h⟩:=Aw h
 refine wn Na 26 [] [pc e11 (k11 x0 x1 _ h2) []] [] 0 [0,1] [2,3,4,12] hC [] ?_
 rcases cB h with⟨h3,h⟩ | ⟨h3,h⟩
 ·replace h:=sI h
  subst h
  exact wr Na 24 [true] [] [.own 4 62 3] 0 [2] hC [pq h3]
 ·refine ws Na 28 [false] [] [.own 5 62 3] 0 n3_ (Z1 (0,([]:List Aj))) (Ad7 x0 x1 (0,([]:List Aj))) hC [pq h3] ?_
  obtain⟨w0,hm0,hret0,hnext0⟩:=Av h
  clear h
  refine wc w0 (Asm) (Av9) ?_ λ z0 hs0=>?_
  ·refine wb ?_
   refine ww (Z1) (Ad7 x0 x1) hm0 λ z0 w0b h hb0 hr0=>?_
   unfold Akd at h
   rcases cB h with⟨h4,h⟩ | ⟨h4,h⟩
   ·obtain⟨y5,h6,y7,h8,h⟩:=A_ h
    refine wn Na 32 [true] [pc e50 (k50 x0 x1 z0.1 _ h6) [],pr pI h8,pn pI h8] [] 0 n7_ [2,3,4,5,6,7,31] hC [pq h4] ?_
    rcases cB h with⟨h9,h⟩ | ⟨h9,h⟩
    ·refine wn Na 1 [true] [] [.frz 3] 0 [0,1,2,4,5,6] [2,3,4,5,6,7] hC [pq h9] ?_
     refine wn Na 0 [] [] [.frz 3] 0 [0,1,2,4,5] [2,3,4,5,6,7] hC [] ?_
     refine wn Na 0 [] [] [.frz 3] 0 [0,1,2,4] [2,3,4,5,6,7] hC [] ?_
     obtain⟨y10,h11,h⟩:=Aw h
     exact wx w0b (Z1) (Ad7 x0 x1) Na 24 [] [pa q62 3 h11] [] 0 [0,1,4] _ hC [] (sI h).symm
    ·exact wx w0b (Z1) (Ad7 x0 x1) Na 25 [false] [] [] 0 n3_ _ hC [pq h9] (sI h).symm
   ·exact wx w0 (Asm) (Av9) Na 26 [false] [] [] 0 [2] (z0.1,z0.2) hC [pq h4] (hb0 _ (sI h).symm)
  ·have h:=hnext0 _ hs0
   replace h:=sI h
   subst h
   exact wr Na 23 [] [] [] 0 [0] hC []
theorem e21:EN 21:=en Tryz.func21
def yL:List Nat:=[0,1,2,3,4,6,7,8,9,11,26,28,29,30,31]
def Afc (y1:Aj×Bool) (n0:Nat) (z0:Int):St:=[(4,dO 0 0),(6,dI 0),(9,dI z0),(28,dS 1),(29,dI (ln y1.1.Af)),(30,dI (cnt 0 n0))]
def Ap3 (x1:Ab) (y1:Aj×Bool) (n0:Nat) (z0:Int):List Res:=[.box 34 (d34 x1),v0_ y1.1.Af]
def Aso  (z0:Int):St:=[(6,dI 0),(9,dI z0)]
def Awb  (z0:Int):List Res:=[]
theorem k17 (x0:Aa) (x1:Ab) (x2:Int) (r:Int) (h:F17 x0 x1 x2=some r):CO 17 [.agg (d29 x0),.agg (d34 x1),.d (I x2)] [] (.d (I r)) []:=by
 unfold F17 at h
 refine co 43 Tryz.func17 λ C hC=>?_
 obtain⟨y1,h2,h⟩:=Aw h
 refine wn yL 28 [] [pc e50 (k50 x0 x1 x2 _ h2) [],pL_ [(!y1.2,false)] pI y1.1.Ac] [] 0 [1,2,3,4,5] [4,6,7,26] hC [] ?_
 rcases cB h with⟨h3,h⟩ | ⟨h3,h⟩
 ·replace h:=sI h
  subst h
  exact wr yL 24 [true] [] [] 0 [] hC [pq h3]
 ·refine ws yL 28 [false] [pl pI y1.1.Af] [] 0 [0,3] (Afc y1 0 0) (Ap3 x1 y1 0 0) hC [pq h3] ?_
  obtain⟨w0,hm0,hret0,hnext0⟩:=Av h
  clear h
  refine wc w0 (Aso) (Awb) ?_ λ z0 hs0=>?_
  ·refine wb ?_
   refine B1 28 1 rfl rfl λ hl0=>?_
   refine wl (Afc y1) (Ap3 x1 y1) hm0 (λ z0 hn0=>?_) λ n0 a0 z0 w0b hi0 hx0 h hb0 hr0=>?_
   ·clear hm0
    exact wx w0 (Aso) (Awb) yL 26 [false] [] [] 0 [] _ hC [pq (A5 hl0)] hn0
   ·unfold uV at h
    obtain⟨y4,h5,h⟩:=Aw h
    exact wx w0b (Afc y1 (n0+1)) (Ap3 x1 y1 (n0+1)) yL 33 [true] [pr pI (Bb hx0 hl0),pn pI (Bb hx0 hl0),pr pI h5] [] 0 [0,1] _ hC [pq (A4 hi0 hl0)] (sI h).symm
  ·have h:=hnext0 _ hs0
   replace h:=sI h
   subst h
   exact wr yL 23 [] [] [] 0 [] hC []
theorem e17:EN 17:=en Tryz.func17
def An2:List Nat:=[0,1,2,3,4,6,7,9,11,20,21,22,23]
def Afb (y1:Aj×Bool) (n0:Nat) (z0:Int):St:=[(3,dO 0 0),(6,dI 0),(9,dI z0),(20,dS 1),(21,dI (ln y1.1.Ac)),(22,dI (cnt 0 n0))]
def Ap2 (x0:Aa) (y1:Aj×Bool) (n0:Nat) (z0:Int):List Res:=[.box 29 (d29 x0),v0_ y1.1.Ac]
def Asn  (z0:Int):St:=[(6,dI 0),(9,dI z0)]
def Awa  (z0:Int):List Res:=[]
theorem k18 (x0:Aa) (x1:Ab) (x2:Int) (r:Int) (h:F18 x0 x1 x2=some r):CO 18 [.agg (d29 x0),.agg (d34 x1),.d (I x2)] [] (.d (I r)) []:=by
 unfold F18 at h
 refine co 36 Tryz.func18 λ C hC=>?_
 obtain⟨y1,h2,h⟩:=Aw h
 refine ws An2 30 [] [pc e50 (k50 x0 x1 x2 _ h2) [],pl pI y1.1.Ac] [] 0 [0,3] (Afb y1 0 0) (Ap2 x0 y1 0 0) hC [] ?_
 obtain⟨w0,hm0,hret0,hnext0⟩:=Av h
 clear h
 refine wc w0 (Asn) (Awa) ?_ λ z0 hs0=>?_
 ·refine wb ?_
  refine B1 20 1 rfl rfl λ hl0=>?_
  refine wl (Afb y1) (Ap2 x0 y1) hm0 (λ z0 hn0=>?_) λ n0 a0 z0 w0b hi0 hx0 h hb0 hr0=>?_
  ·clear hm0
   exact wx w0 (Asn) (Awa) An2 26 [false] [] [] 0 [] _ hC [pq (A5 hl0)] hn0
  ·unfold Ake at h
   obtain⟨y3,h4,h⟩:=Aw h
   exact wx w0b (Afb y1 (n0+1)) (Ap2 x0 y1 (n0+1)) An2 33 [true] [pr pI (Bb hx0 hl0),pn pI (Bb hx0 hl0),pr q98 h4] [] 0 [0,1] _ hC [pq (A4 hi0 hl0)] (sI h).symm
 ·have h:=hnext0 _ hs0
  replace h:=sI h
  subst h
  exact wr An2 23 [] [] [] 0 [] hC []
theorem e18:EN 18:=en Tryz.func18
def F2:List Nat:=[0,1,2,3,4,5,6,7,8,9,10,11,12,13,14,18,25,26,27,28,47,48,49,58,80,81,82,91]
def vP (y4:(List Int)) (n0:Nat) (z0:(List Aj)):St:=[(2,dO 0 0),(3,dO 1 0),(4,.d (DS q62 [])),(5,dS 2),(6,dS 3),(25,dS 2),(26,dI (ln y4)),(27,dI (cnt 0 n0))]
def Ai3 (x0:Aa) (x1:Ab) (y4:(List Int)) (n0:Nat) (z0:(List Aj)):List Res:=[.box 29 (d29 x0),.box 34 (d34 x1),v0_ y4,.dsl 62 3 4,.gh 3 [(3,1),(3,1),(3,1)] (z0.map q62) none]
def Alw  (z0:(List Aj)):St:=[(2,dO 0 0),(3,dO 1 0),(4,.d (DS q62 [])),(5,dS 2),(6,dS 3)]
def Am0 (x0:Aa) (x1:Ab) (y4:(List Int)) (z0:(List Aj)):List Res:=[.box 29 (d29 x0),.box 34 (d34 x1),v0_ y4,.dsl 62 3 4,.gh 3 [(3,1),(3,1),(3,1)] (z0.map q62) none]
def Vw (x0:Aa) (z1:Int×(List Aj)):St:=[(2,dO 0 0),(3,dO 1 0),(4,.d (DS q62 [])),(5,dS 2),(6,dS 3),(47,dI (ln x0.Ac)),(48,dI z1.1)]
def uF (x0:Aa) (x1:Ab) (y4:(List Int)) (z1:Int×(List Aj)):List Res:=[.box 29 (d29 x0),.box 34 (d34 x1),v0_ y4,.dsl 62 3 4,.gh 3 [(3,1),(3,1),(3,1)] (z1.2.map q62) none]
def Alv  (z1:Int×(List Aj)):St:=[(2,dO 0 0),(3,dO 1 0),(4,.d (DS q62 [])),(5,dS 2),(6,dS 3)]
def Amz (x0:Aa) (x1:Ab) (y4:(List Int)) (z1:Int×(List Aj)):List Res:=[.box 29 (d29 x0),.box 34 (d34 x1),v0_ y4,.dsl 62 3 4,.gh 3 [(3,1),(3,1),(3,1)] (z1.2.map q62) none]
def Vv (x0:Aa) (z2:Int×(List Aj)):St:=[(2,dO 0 0),(3,dO 1 0),(4,.d (DS q62 [])),(5,dS 2),(6,dS 3),(80,dI (ln x0.Af)),(81,dI z2.1)]
def uE (x0:Aa) (x1:Ab) (y4:(List Int)) (z2:Int×(List Aj)):List Res:=[.box 29 (d29 x0),.box 34 (d34 x1),v0_ y4,.dsl 62 3 4,.gh 3 [(3,1),(3,1),(3,1)] (z2.2.map q62) none]
def Alu  (z2:Int×(List Aj)):St:=[(4,.d (DS q62 [])),(6,dS 0)]
def Amy  (z2:Int×(List Aj)):List Res:=[.dsl 62 3 1,.gh 3 [(3,1),(3,1),(3,1)] (z2.2.map q62) none]
theorem A26 (x0:Aa) (x1:Ab) (r:(List Aj)) (h:Zd x0 x1=some r):CO 124 [.agg (d29 x0),.agg (d34 x1)] [] (.d (.os 0)) [v5_ r]:=by
 unfold Zd at h
 refine co 113 Tryz.func124 λ C hC=>?_
 obtain⟨y1,h2,h⟩:=Aw h
 refine wn F2 26 [] [pc e44 (k44 x0 x1 _ h2) []] [] 0 [0,1] [2,3,4,18] hC [] ?_
 rcases cB h with⟨h3,h⟩ | ⟨h3,h⟩
 ·replace h:=sI h
  subst h
  exact wr F2 24 [true] [] [.own 4 62 3] 0 [2] hC [pq h3]
 ·obtain⟨y4,h5,y6,h7,h⟩:=A_ h
  refine ws F2 30 [false] [pc A31 (A2t x0 x1 _ h5) [],⟨.roomZ (x0.Am*(72+1)) (List.replicate (Int.toNat x0.Am) (q62 (⟨([]:List Int),([]:List Int),([]:List Int)⟩:Aj))) (y6.map q62),Tz h7⟩,pl pI y4] [.deep 3 [(3,1),(3,1),(3,1)]] 0 n5_ (vP y4 0 y6) (Ai3 x0 x1 y4 0 y6) hC [pq h3] ?_
  obtain⟨w0,hm0,hret0,hnext0⟩:=Av h
  clear h
  refine wc w0 (Alw) (Am0 x0 x1 y4) ?_ λ z0 hs0=>?_
  ·refine wb ?_
   refine B1 25 2 rfl rfl λ hl0=>?_
   refine wl (vP y4) (Ai3 x0 x1 y4) hm0 (λ z0 hn0=>?_) λ n0 a0 z0 w0b hi0 hx0 h hb0 hr0=>?_
   ·clear hm0
    exact wx w0 (Alw) (Am0 x0 x1 y4) F2 26 [false] [] [] 0 n5_ _ hC [pq (A5 hl0)] hn0
   ·unfold Aac at h
    obtain⟨y8,h9,y10,h11,y12,h13,h⟩:=Bw h
    exact wx w0b (vP y4 (n0+1)) (Ai3 x0 x1 y4 (n0+1)) F2 33 [true] [pr pI (Bb hx0 hl0),pn pI (Bb hx0 hl0),pr q62 h9,pn q62 h9,⟨.appD (z0.map q62) (Int.toNat a0) (q62 y8) 0 (y8.Am.map pI) ([cnt 0 n0].map pI) 1 (((y8.Am.map pI).length+([cnt 0 n0].map pI).length)*(8+1)) (y10.map pI),Jc 1 (λ _=>rfl) h9 rfl h11⟩,pr q62 h9,⟨.updD (z0.map q62) (Int.toNat a0) (Int.toNat a0) (q62 y8) (q62 (⟨y10,y8.Ac,y8.Af⟩:Aj)) (y12.map q62),I7 h9 h13⟩] [] 0 [0,1,2,3,8] _ hC [pq (A4 hi0 hl0)] (sI h).symm
  ·have h:=hnext0 _ hs0
   refine ws F2 24 [] [pl q98 x0.Ac] [] 0 n5_ (Vw x0 (0,z0)) (uF x0 x1 y4 (0,z0)) hC [] ?_
   obtain⟨w1,hm1,hret1,hnext1⟩:=Av h
   clear h
   refine wc w1 (Alv) (Amz x0 x1 y4) ?_ λ z1 hs1=>?_
   ·refine wb ?_
    refine ww (Vw x0) (uF x0 x1 y4) hm1 λ z1 w1b h hb1 hr1=>?_
    unfold Aab at h
    rcases cB h with⟨h14,h⟩ | ⟨h14,h⟩
    ·obtain⟨y15,h16,h⟩:=Aw h
     refine wn F2 34 [true] [pc Ayd (Axv x0 x1 z1.1 _ h16) []] [] 0 n5_ [2,3,4,5,6,9,10,47,48,58] hC [pq h14] ?_
     rcases cB h with⟨h17,h⟩ | ⟨h17,h⟩
     ·obtain⟨y18,h19,y20,h21,y22,h23,y24,h25,h⟩:=C8 h
      exact wx w1b (Vw x0) (uF x0 x1 y4) F2 25 [true] [pr pI h19,pn pI h19,pr pI h19,pn pI h19,pr q62 h21,pn q62 h21,⟨.appD (z1.2.map q62) (Int.toNat y18) (q62 y20) 1 (y20.Ac.map pI) ([z1.1].map pI) 1 (((y20.Ac.map pI).length+([z1.1].map pI).length)*(8+1)) (y22.map pI),Jc 1 (λ _=>rfl) h21 rfl h23⟩,pr q62 h21,⟨.updD (z1.2.map q62) (Int.toNat y18) (Int.toNat y18) (q62 y20) (q62 (⟨y20.Am,y22,y20.Af⟩:Aj)) (y24.map q62),I7 h21 h25⟩] [] 0 [0,1,2,3,8] _ hC [pq h17] (sI h).symm
     ·exact wx w1b (Vw x0) (uF x0 x1 y4) F2 25 [false] [] [] 0 n5_ _ hC [pq h17] (sI h).symm
    ·exact wx w1 (Alv) (Amz x0 x1 y4) F2 26 [false] [] [] 0 n5_ (z1.1,z1.2) hC [pq h14] (hb1 _ (sI h).symm)
   ·have h:=hnext1 _ hs1
    refine ws F2 24 [] [pl q90 x0.Af] [] 0 n5_ (Vv x0 (0,z1.2)) (uE x0 x1 y4 (0,z1.2)) hC [] ?_
    obtain⟨w2,hm2,hret2,hnext2⟩:=Av h
    clear h
    refine wc w2 (Alu) (Amy) ?_ λ z2 hs2=>?_
    ·refine wb ?_
     refine ww (Vv x0) (uE x0 x1 y4) hm2 λ z2 w2b h hb2 hr2=>?_
     unfold Aaa at h
     rcases cB h with⟨h26,h⟩ | ⟨h26,h⟩
     ·obtain⟨y27,h28,h⟩:=Aw h
      refine wn F2 34 [true] [pc Ayf (Axx x0 x1 z2.1 _ h28) []] [] 0 n5_ [2,3,4,5,6,12,13,80,81,91] hC [pq h26] ?_
      rcases cB h with⟨h29,h⟩ | ⟨h29,h⟩
      ·obtain⟨y30,h31,y32,h33,y34,h35,y36,h37,h⟩:=C8 h
       exact wx w2b (Vv x0) (uE x0 x1 y4) F2 25 [true] [pr pI h31,pn pI h31,pr pI h31,pn pI h31,pr q62 h33,pn q62 h33,⟨.appD (z2.2.map q62) (Int.toNat y30) (q62 y32) 2 (y32.Af.map pI) ([z2.1].map pI) 1 (((y32.Af.map pI).length+([z2.1].map pI).length)*(8+1)) (y34.map pI),Jc 1 (λ _=>rfl) h33 rfl h35⟩,pr q62 h33,⟨.updD (z2.2.map q62) (Int.toNat y30) (Int.toNat y30) (q62 y32) (q62 (⟨y32.Am,y32.Ac,y34⟩:Aj)) (y36.map q62),I7 h33 h37⟩] [] 0 [0,1,2,3,8] _ hC [pq h29] (sI h).symm
      ·exact wx w2b (Vv x0) (uE x0 x1 y4) F2 25 [false] [] [] 0 n5_ _ hC [pq h29] (sI h).symm
     ·exact wx w2 (Alu) (Amy) F2 26 [false] [] [] 0 [3,4] (z2.1,z2.2) hC [pq h26] (hb2 _ (sI h).symm)
    ·have h:=hnext2 _ hs2
     refine wn F2 1 [] [] [.flat 0] 0 [0] [4,6] hC [] ?_
     obtain⟨y38,h39,h⟩:=Aw h
     replace h:=sI h
     subst h
     exact wr F2 22 [] [pc At7 (Atf z2.2 _ h39) [0]] [] 0 [1] hC []
theorem A4e:EN 124:=en Tryz.func124
def Agu:List Nat:=[0,1,2,3,4,7,10,11,12]
def Aeu (x0:Aa) (z0:Int×(List Int)):St:=[(1,dO 0 0),(2,.d (DS pI [])),(3,dS 1),(10,dI (ln x0.Af)),(11,dI z0.1)]
def Apj (x0:Aa) (z0:Int×(List Int)):List Res:=[.box 29 (d29 x0),v0_ z0.2]
def Arr  (z0:Int×(List Int)):St:=[(1,dO 0 0),(2,.d (DS pI [])),(3,dS 1)]
def Ave (x0:Aa) (z0:Int×(List Int)):List Res:=[.box 29 (d29 x0),v0_ z0.2]
theorem k85 (x0:Aa) (r:(List Int)) (h:F85 x0=some r):CO 85 [.agg (d29 x0)] [] (.d (.os 0)) [v0_ r]:=by
 unfold F85 at h
 refine co 23 Tryz.func85 λ C hC=>?_
 obtain⟨y1,h2,h⟩:=Aw h
 rcases cB h with⟨h3,h⟩ | ⟨h3,h⟩
 ·replace h:=sI h
  subst h
  exact wr Agu 29 [true] [pc e51 (k51 x0 _ h2) []] [.own 2 3 1] 0 [1] hC [pq h3]
 ·refine ws Agu 33 [false] [pc e51 (k51 x0 _ h2) [],pl q90 x0.Af] [.own 3 3 1] 0 [0,1] (Aeu x0 (0,([]:List Int))) (Apj x0 (0,([]:List Int))) hC [pq h3] ?_
  obtain⟨w0,hm0,hret0,hnext0⟩:=Av h
  clear h
  refine wc w0 (Arr) (Ave x0) ?_ λ z0 hs0=>?_
  ·refine wb ?_
   refine ww (Aeu x0) (Apj x0) hm0 λ z0 w0b h hb0 hr0=>?_
   unfold Ajl at h
   rcases cB h with⟨h4,h⟩ | ⟨h4,h⟩
   ·obtain⟨y5,h6,h⟩:=Aw h
    exact wx w0b (Aeu x0) (Apj x0) Agu 33 [true] [pa pI 1 h6] [] 0 [0,2] _ hC [pq h4] (sI h).symm
   ·exact wx w0 (Arr) (Ave x0) Agu 26 [false] [] [] 0 [0,1] (z0.1,z0.2) hC [pq h4] (hb0 _ (sI h).symm)
  ·have h:=hnext0 _ hs0
   obtain⟨y7,h8,h⟩:=Aw h
   replace h:=sI h
   subst h
   exact wr Agu 25 [] [pc A39 (A21 z0.2 x0 _ h8) [1,0]] [] 0 [1] hC []
theorem e85:EN 85:=en Tryz.func85
def Dy:List Nat:=[0,1,2,3,4,5,6,7,8,9,10,11,12,13,14,18,25,26,27,28,47,48,49,58,80,81,82,91]
def Tf (y4:(List Int)) (n0:Nat) (z0:(List Aj)):St:=[(2,dO 4 0),(3,dO 5 0),(4,.d (DS q62 [])),(5,dS 6),(6,dS 7),(25,dS 6),(26,dI (ln y4)),(27,dI (cnt 0 n0))]
def Yu (x0:Aa) (x1:Ab) (y4:(List Int)) (n0:Nat) (z0:(List Aj)):List Res:=(zp x1 [.box 29 (d29 x0),.box 34 [.os 0,.os 1,.os 2,.os 3],v0_ y4,.dsl 62 3 8,.gh 3 [(3,1),(3,1),(3,1)] (z0.map q62) none])
def Aba  (z0:(List Aj)):St:=[(2,dO 4 0),(3,dO 5 0),(4,.d (DS q62 [])),(5,dS 6),(6,dS 7)]
def Acl (x0:Aa) (x1:Ab) (y4:(List Int)) (z0:(List Aj)):List Res:=(zp x1 [.box 29 (d29 x0),.box 34 [.os 0,.os 1,.os 2,.os 3],v0_ y4,.dsl 62 3 8,.gh 3 [(3,1),(3,1),(3,1)] (z0.map q62) none])
def N2 (x0:Aa) (z1:Int×(List Aj)):St:=[(2,dO 4 0),(3,dO 5 0),(4,.d (DS q62 [])),(5,dS 6),(6,dS 7),(47,dI (ln x0.Ac)),(48,dI z1.1)]
def Sa (x0:Aa) (x1:Ab) (y4:(List Int)) (z1:Int×(List Aj)):List Res:=(zp x1 [.box 29 (d29 x0),.box 34 [.os 0,.os 1,.os 2,.os 3],v0_ y4,.dsl 62 3 8,.gh 3 [(3,1),(3,1),(3,1)] (z1.2.map q62) none])
def Aa9  (z1:Int×(List Aj)):St:=[(2,dO 4 0),(3,dO 5 0),(4,.d (DS q62 [])),(5,dS 6),(6,dS 7)]
def Ack (x0:Aa) (x1:Ab) (y4:(List Int)) (z1:Int×(List Aj)):List Res:=(zp x1 [.box 29 (d29 x0),.box 34 [.os 0,.os 1,.os 2,.os 3],v0_ y4,.dsl 62 3 8,.gh 3 [(3,1),(3,1),(3,1)] (z1.2.map q62) none])
def N1 (x0:Aa) (z2:Int×(List Aj)):St:=[(2,dO 4 0),(3,dO 5 0),(4,.d (DS q62 [])),(5,dS 6),(6,dS 7),(80,dI (ln x0.Af)),(81,dI z2.1)]
def R_ (x0:Aa) (x1:Ab) (y4:(List Int)) (z2:Int×(List Aj)):List Res:=(zp x1 [.box 29 (d29 x0),.box 34 [.os 0,.os 1,.os 2,.os 3],v0_ y4,.dsl 62 3 8,.gh 3 [(3,1),(3,1),(3,1)] (z2.2.map q62) none])
def Aa8  (z2:Int×(List Aj)):St:=[(4,.d (DS q62 [])),(6,dS 4)]
def Acj (x1:Ab) (z2:Int×(List Aj)):List Res:=(zp x1 [.dsl 62 3 5,.gh 3 [(3,1),(3,1),(3,1)] (z2.2.map q62) none])
theorem A25 (x0:Aa) (x1:Ab) (r:(List Aj)) (h:Akg x0 x1=some r):CO 124 [.agg (d29 x0),.agg [.os 0,.os 1,.os 2,.os 3]] (zp x1 []) (.d (.os 4)) (zp x1 [v5_ r]):=by
 unfold Akg at h
 refine co 113 Tryz.func124 λ C hC=>?_
 obtain⟨y1,h2,h⟩:=Aw h
 refine wn Dy 26 [] [pb e44 (k44 x0 x1 _ h2)] [] 4 n6_ [2,3,4,18] hC [] ?_
 rcases cB h with⟨h3,h⟩ | ⟨h3,h⟩
 ·replace h:=sI h
  subst h
  exact wr Dy 24 [true] [] [.own 4 62 3] 4 [0,1,2,3,6] hC [pq h3]
 ·obtain⟨y4,h5,y6,h7,h⟩:=A_ h
  refine ws Dy 30 [false] [⟨.call 155 [.agg (d29 x0),.agg [.os 0,.os 1,.os 2,.os 3]] (zp x1 []) (dS 4) (zp x1 [v0_ y4]) n4_,⟨A31,((A2t x0 x1 _ h5).lend (by kernel_rfl) (by kernel_rfl) (by kernel_rfl) ⟨Bf (λ _=>rfl),trivial⟩ (by kernel_rfl) (by kernel_rfl))⟩⟩,⟨.roomZ (x0.Am*(72+1)) (List.replicate (Int.toNat x0.Am) (q62 (⟨([]:List Int),([]:List Int),([]:List Int)⟩:Aj))) (y6.map q62),Tz h7⟩,pl pI y4] [.deep 7 [(3,1),(3,1),(3,1)]] 4 n9_ (Tf y4 0 y6) (Yu x0 x1 y4 0 y6) hC [pq h3] ?_
  obtain⟨w0,hm0,hret0,hnext0⟩:=Av h
  clear h
  refine wc w0 (Aba) (Acl x0 x1 y4) ?_ λ z0 hs0=>?_
  ·refine wb ?_
   refine B1 25 6 rfl rfl λ hl0=>?_
   refine wl (Tf y4) (Yu x0 x1 y4) hm0 (λ z0 hn0=>?_) λ n0 a0 z0 w0b hi0 hx0 h hb0 hr0=>?_
   ·clear hm0
    exact wx w0 (Aba) (Acl x0 x1 y4) Dy 26 [false] [] [] 4 n9_ _ hC [pq (A5 hl0)] hn0
   ·unfold Ac0 at h
    obtain⟨y8,h9,y10,h11,y12,h13,h⟩:=Bw h
    exact wx w0b (Tf y4 (n0+1)) (Yu x0 x1 y4 (n0+1)) Dy 33 [true] [pr pI (Bb hx0 hl0),pn pI (Bb hx0 hl0),pr q62 h9,pn q62 h9,⟨.appD (z0.map q62) (Int.toNat a0) (q62 y8) 0 (y8.Am.map pI) ([cnt 0 n0].map pI) 1 (((y8.Am.map pI).length+([cnt 0 n0].map pI).length)*(8+1)) (y10.map pI),Jc 1 (λ _=>rfl) h9 rfl h11⟩,pr q62 h9,⟨.updD (z0.map q62) (Int.toNat a0) (Int.toNat a0) (q62 y8) (q62 (⟨y10,y8.Ac,y8.Af⟩:Aj)) (y12.map q62),I7 h9 h13⟩] [] 4 [0,1,2,3,4,5,6,7,12] _ hC [pq (A4 hi0 hl0)] (sI h).symm
  ·have h:=hnext0 _ hs0
   refine ws Dy 24 [] [pl q98 x0.Ac] [] 4 n9_ (N2 x0 (0,z0)) (Sa x0 x1 y4 (0,z0)) hC [] ?_
   obtain⟨w1,hm1,hret1,hnext1⟩:=Av h
   clear h
   refine wc w1 (Aa9) (Ack x0 x1 y4) ?_ λ z1 hs1=>?_
   ·refine wb ?_
    refine ww (N2 x0) (Sa x0 x1 y4) hm1 λ z1 w1b h hb1 hr1=>?_
    unfold Acz at h
    rcases cB h with⟨h14,h⟩ | ⟨h14,h⟩
    ·obtain⟨y15,h16,h⟩:=Aw h
     refine wn Dy 34 [true] [pb Ayd (Axv x0 x1 z1.1 _ h16)] [] 4 n9_ [2,3,4,5,6,9,10,47,48,58] hC [pq h14] ?_
     rcases cB h with⟨h17,h⟩ | ⟨h17,h⟩
     ·obtain⟨y18,h19,y20,h21,y22,h23,y24,h25,h⟩:=C8 h
      exact wx w1b (N2 x0) (Sa x0 x1 y4) Dy 25 [true] [pr pI h19,pn pI h19,pr pI h19,pn pI h19,pr q62 h21,pn q62 h21,⟨.appD (z1.2.map q62) (Int.toNat y18) (q62 y20) 1 (y20.Ac.map pI) ([z1.1].map pI) 1 (((y20.Ac.map pI).length+([z1.1].map pI).length)*(8+1)) (y22.map pI),Jc 1 (λ _=>rfl) h21 rfl h23⟩,pr q62 h21,⟨.updD (z1.2.map q62) (Int.toNat y18) (Int.toNat y18) (q62 y20) (q62 (⟨y20.Am,y22,y20.Af⟩:Aj)) (y24.map q62),I7 h21 h25⟩] [] 4 [0,1,2,3,4,5,6,7,12] _ hC [pq h17] (sI h).symm
     ·exact wx w1b (N2 x0) (Sa x0 x1 y4) Dy 25 [false] [] [] 4 n9_ _ hC [pq h17] (sI h).symm
    ·exact wx w1 (Aa9) (Ack x0 x1 y4) Dy 26 [false] [] [] 4 n9_ (z1.1,z1.2) hC [pq h14] (hb1 _ (sI h).symm)
   ·have h:=hnext1 _ hs1
    refine ws Dy 24 [] [pl q90 x0.Af] [] 4 n9_ (N1 x0 (0,z1.2)) (R_ x0 x1 y4 (0,z1.2)) hC [] ?_
    obtain⟨w2,hm2,hret2,hnext2⟩:=Av h
    clear h
    refine wc w2 (Aa8) (Acj x1) ?_ λ z2 hs2=>?_
    ·refine wb ?_
     refine ww (N1 x0) (R_ x0 x1 y4) hm2 λ z2 w2b h hb2 hr2=>?_
     unfold Acy at h
     rcases cB h with⟨h26,h⟩ | ⟨h26,h⟩
     ·obtain⟨y27,h28,h⟩:=Aw h
      refine wn Dy 34 [true] [pb Ayf (Axx x0 x1 z2.1 _ h28)] [] 4 n9_ [2,3,4,5,6,12,13,80,81,91] hC [pq h26] ?_
      rcases cB h with⟨h29,h⟩ | ⟨h29,h⟩
      ·obtain⟨y30,h31,y32,h33,y34,h35,y36,h37,h⟩:=C8 h
       exact wx w2b (N1 x0) (R_ x0 x1 y4) Dy 25 [true] [pr pI h31,pn pI h31,pr pI h31,pn pI h31,pr q62 h33,pn q62 h33,⟨.appD (z2.2.map q62) (Int.toNat y30) (q62 y32) 2 (y32.Af.map pI) ([z2.1].map pI) 1 (((y32.Af.map pI).length+([z2.1].map pI).length)*(8+1)) (y34.map pI),Jc 1 (λ _=>rfl) h33 rfl h35⟩,pr q62 h33,⟨.updD (z2.2.map q62) (Int.toNat y30) (Int.toNat y30) (q62 y32) (q62 (⟨y32.Am,y32.Ac,y34⟩:Aj)) (y36.map q62),I7 h33 h37⟩] [] 4 [0,1,2,3,4,5,6,7,12] _ hC [pq h29] (sI h).symm
      ·exact wx w2b (N1 x0) (R_ x0 x1 y4) Dy 25 [false] [] [] 4 n9_ _ hC [pq h29] (sI h).symm
     ·exact wx w2 (Aa8) (Acj x1) Dy 26 [false] [] [] 4 [0,1,2,3,7,8] (z2.1,z2.2) hC [pq h26] (hb2 _ (sI h).symm)
    ·have h:=hnext2 _ hs2
     refine wn Dy 1 [] [] [.flat 4] 4 n5_ [4,6] hC [] ?_
     obtain⟨y38,h39,h⟩:=Aw h
     replace h:=sI h
     subst h
     exact wr Dy 22 [] [pc At7 (Atf z2.2 _ h39) [4]] [] 4 [0,1,2,3,5] hC []
theorem A4d:EN 124:=en Tryz.func124
def Iv:List Nat:=[0,1,2,3,4,5,6,7,8,9,13,19,20,21,26,39,40,41,43,44,45,46,58]
def Z0 (x0:Aa) (z0:Int×(List Bool)):St:=[(2,dO 0 0),(3,dO 1 0),(4,.d (DS pB [])),(5,dS 2),(19,dI (ln x0.Ac)),(20,dI z0.1)]
def Ad6 (x0:Aa) (x1:Ab) (z0:Int×(List Bool)):List Res:=[.box 29 (d29 x0),.box 34 (d34 x1),v1_ z0.2]
def Asl  (z0:Int×(List Bool)):St:=[(2,dO 0 0),(3,dO 1 0),(4,.d (DS pB [])),(5,dS 2)]
def Av8 (x0:Aa) (x1:Ab) (z0:Int×(List Bool)):List Res:=[.box 29 (d29 x0),.box 34 (d34 x1),v1_ z0.2]
def Afa (x0:Aa) (z1:Int×(List Bool)):St:=[(2,dO 0 0),(3,dO 1 0),(4,.d (DS pB [])),(5,dS 2),(39,dI x0.Am),(40,dI z1.1)]
def Ap1 (x0:Aa) (x1:Ab) (z1:Int×(List Bool)):List Res:=[.box 29 (d29 x0),.box 34 (d34 x1),v1_ z1.2]
def Ask  (z1:Int×(List Bool)):St:=[(4,.d (DS pB [])),(5,dS 0)]
def Av7  (z1:Int×(List Bool)):List Res:=[v1_ z1.2]
def Zz (x0:Aa) (z1:Int×(List Bool)) (n2:Nat) (z2:(List Bool)):St:=[(2,dO 0 0),(3,dO 1 0),(4,.d (DS pB [])),(5,dS 2),(39,dI x0.Am),(40,dI z1.1),(43,.d (DS q49 x0.Ad)),(44,dI (ln x0.Ad)),(45,dI (cnt 0 n2))]
def Ad5 (x0:Aa) (x1:Ab) (n2:Nat) (z2:(List Bool)):List Res:=[.box 29 (d29 x0),.box 34 (d34 x1),v1_ z2]
def Asj (x0:Aa) (z1:Int×(List Bool)) (z2:(List Bool)):St:=[(2,dO 0 0),(3,dO 1 0),(4,.d (DS pB [])),(5,dS 2),(39,dI x0.Am),(40,dI z1.1)]
def Av6 (x0:Aa) (x1:Ab) (z2:(List Bool)):List Res:=[.box 29 (d29 x0),.box 34 (d34 x1),v1_ z2]
theorem k23 (x0 : Aa) (x1 : Ab) (r : (List Bool)) (h : F23 x0 x1 = some r) : CO 23 [.agg (d29 x0), .agg (d34 x1)] [] (.d (.os 0)) [v1_ r] := by
 unfold F23 at h
 refine co 84 Tryz.func23 λ C hC=>?_
 obtain⟨y1,h2,h⟩:=Aw h
 refine wn Iv 26 [] [pc e44 (k44 x0 x1 _ h2) []] [] 0 [0,1] [2,3,4,13] hC [] ?_
 rcases cB h with⟨h3,h⟩ | ⟨h3,h⟩
 ·replace h:=sI h
  subst h
  exact wr Iv 24 [true] [] [.own 4 4 1] 0 [2] hC [pq h3]
 ·obtain⟨y4,h5,h⟩:=Aw h
  refine ws Iv 28 [false] [⟨.room (x0.Am*(1+1)) (List.replicate (Int.toNat x0.Am) (pB false)) (y4.map pB),Ko h5⟩,pl q98 x0.Ac] [] 0 n3_ (Z0 x0 (0,y4)) (Ad6 x0 x1 (0,y4)) hC [pq h3] ?_
  obtain⟨w0,hm0,hret0,hnext0⟩:=Av h
  clear h
  refine wc w0 (Asl) (Av8 x0 x1) ?_ λ z0 hs0=>?_
  ·refine wb ?_
   refine ww (Z0 x0) (Ad6 x0 x1) hm0 λ z0 w0b h hb0 hr0=>?_
   unfold Akc at h
   rcases cB h with⟨h6,h⟩ | ⟨h6,h⟩
   ·obtain⟨y7,h8,h⟩:=Aw h
    refine wn Iv 32 [true] [pc e55 (k55 x0 x1 z0.1 _ h8) []] [] 0 n3_ [2,3,4,5,6,19,20,26] hC [pq h6] ?_
    rcases cB h with⟨h9,h⟩ | ⟨h9,h⟩
    ·obtain⟨y10,h11,y12,h13,y14,h15,y16,h17,h⟩:=C8 h
     exact wx w0b (Z0 x0) (Ad6 x0 x1) Iv 25 [true] [pc e56 (k56 x0 z0.1 _ h11) [],pr q49 h13,pr pB h15,pu pB h15 h17] [] 0 n3_ _ hC [pq h9] (sI h).symm
    ·exact wx w0b (Z0 x0) (Ad6 x0 x1) Iv 25 [false] [] [] 0 n3_ _ hC [pq h9] (sI h).symm
   ·exact wx w0 (Asl) (Av8 x0 x1) Iv 26 [false] [] [] 0 n3_ (z0.1,z0.2) hC [pq h6] (hb0 _ (sI h).symm)
  ·have h := hnext0 _ hs0
   refine ws Iv 24 [] [] [] 0 n3_ (Afa x0 (0,z0.2)) (Ap1 x0 x1 (0,z0.2)) hC [] ?_
   obtain⟨w1,hm1,hret1,hnext1⟩:=Av h
   clear h
   refine wc w1 (Ask) (Av7) ?_ λ z1 hs1=>?_
   ·refine wb ?_
    refine ww (Afa x0) (Ap1 x0 x1) hm1 λ z1 w1b h hb1 hr1=>?_
    unfold Akb at h
    rcases cB h with⟨h18,h⟩ | ⟨h18,h⟩
    ·refine ws Iv 30 [true] [pl q49 x0.Ad] [] 0 n3_ (Zz x0 z1 0 z1.2) (Ad5 x0 x1 0 z1.2) hC [pq h18] ?_
     obtain⟨w2,hm2,hret2,hnext2⟩:=Av h
     clear h
     refine wc w2 (Asj x0 z1) (Av6 x0 x1) ?_ λ z2 hs2=>?_
     ·refine wb ?_
      refine Bq 43 rfl λ hl2=>?_
      refine wl (Zz x0 z1) (Ad5 x0 x1) hm2 (λ z2 hn2=>?_) λ n2 a2 z2 w2b hi2 hx2 h hb2 hr2=>?_
      ·clear hm2
       exact wx w2 (Asj x0 z1) (Av6 x0 x1) Iv 26 [false] [] [] 0 n3_ _ hC [pq (A5 hl2)] hn2
      ·unfold uU at h
       obtain⟨y19,h20,h⟩:=Aw h
       refine wn Iv 32 [true] [pt hx2 hl2,pw e57 (λ hg=>k57 x0 x1 (cnt 0 n2) _ (A1 h20 hg)) []] [] 0 n4_ [2,3,4,5,8,39,40,43,44,45,58] hC [pq (A4 hi2 hl2)] ?_
       rcases cB h with⟨h21,h⟩ | ⟨h21,h⟩
       ·obtain⟨y22,h23,y24,h25,y26,h27,h⟩:=Bw h
        obtain⟨y28,h29,y30,h31,h⟩:=A_ h
        exact wx w2b (Zz x0 z1 (n2+1)) (Ad5 x0 x1 (n2+1)) Iv 27 [true] [pr pB h23,pn pB h23,pR pB h25,pN pB h25,pr pB h23,pu pB h23 h27,pr pB h29,pu pB h29 h31] [] 0 n3_ _ hC [pq h21] (sI h).symm
       ·exact wx w2b (Zz x0 z1 (n2+1)) (Ad5 x0 x1 (n2+1)) Iv 25 [false] [] [] 0 n3_ _ hC [pq h21] (sI h).symm
     ·have h:=hnext2 _ hs2
      exact wx w1b (Afa x0) (Ap1 x0 x1) Iv 23 [] [] [] 0 n3_ _ hC [] (sI h).symm
    ·exact wx w1 (Ask) (Av7) Iv 26 [false] [] [] 0 [2] (z1.1,z1.2) hC [pq h18] (hb1 _ (sI h).symm)
   ·have h:=hnext1 _ hs1
    replace h:=sI h
    subst h
    exact wr Iv 23 [] [] [] 0 [0] hC []
theorem e23:EN 23:=en Tryz.func23
def Axm:List Nat:=[0,1,2,3,4,6,7,11]
theorem k86 (x0:Aa) (x1:Ab) (x2:Int) (r:Int×Bool) (h:F86 x0 x1 x2=some r):CO 86 [.agg (d29 x0),.agg (d34 x1),.d (I x2)] [] (.tup [.d (I r.1),.d (Bo r.2)]) []:=by
 unfold F86 at h
 refine co 18 Tryz.func86 λ C hC=>?_
 obtain⟨y1,h2,h⟩:=Aw h
 refine wn Axm 26 [] [pc e44 (k44 x0 x1 _ h2) []] [] 0 [0,1] [2,3,4,6,7,11] hC [] ?_
 rcases cB h with⟨h3,h⟩ | ⟨h3,h⟩
 ·replace h:=sI h
  subst h
  exact wr Axm 24 [true] [] [] 0 [] hC [pq h3]
 ·obtain⟨y4,h5,h⟩:=Aw h
  replace h:=sI h
  subst h
  exact wr Axm 25 [false] [pc Ayf (Axx x0 x1 x2 _ h5) []] [] 0 [] hC [pq h3]
theorem e86:EN 86:=en Tryz.func86
def V7:List Nat:=[0,1,2,3,4,6,7,8,9,13,18,29]
theorem A69 (x0:Aa) (x1:Ab) (x2:Int) (r:Ab×Int) (h:Vq x0 x1 x2=some r):CO 110 [.agg (d29 x0),.agg (d34 x1),.d (I x2)] [] (.tup [.agg [.os 0,.os 1,.os 2,.os 3],.d (I r.2)]) (zp r.1 []):=by
 unfold Vq at h
 refine co 49 Tryz.func110 λ C hC=>?_
 obtain⟨y1,h2,h⟩:=Aw h
 refine wn V7 29 [] [pc e44 (k44 x0 x1 _ h2) []] [.ownb 2 0 4 1,.ownb 2 1 87 4,.ownb 2 2 3 1,.ownb 2 3 92 2] 0 n7_ [2,3,4,6,7,8,13] hC [] ?_
 rcases cB h with⟨h3,h⟩ | ⟨h3,h⟩
 ·replace h:=sI h
  subst h
  exact wr V7 24 [true] [] [.ownb 2 0 4 1,.ownb 2 1 87 4,.ownb 2 2 3 1,.ownb 2 3 92 2] 0 [7,8,9,10] hC [pq h3]
 ·rcases cB h with⟨h4,h⟩ | ⟨h4,h⟩
  ·replace h:=sI h
   subst h
   exact wr V7 27 [false,true] [pL_ [(decide (x2<0),false)] q49 x0.Ad] [.ownb 2 0 4 1,.ownb 2 1 87 4,.ownb 2 2 3 1,.ownb 2 3 92 2] 0 [7,8,9,10] hC [pq h3,pq h4]
  ·obtain⟨y5,h6,y7,h8,h⟩:=A_ h
   refine wn V7 27 [false,false] [pL_ [(decide (x2<0),false)] q49 x0.Ad,pr pB h6,pw e76 (λ hg=>k76 x1 2 x2 _ (A1 h8 hg)) []] [] 0 [1,2,3,4,5,6] [2,4,6,7,29] hC [pq h3,pq h4] ?_
   rcases cB h with⟨h9,h⟩ | ⟨h9,h⟩
   ·replace h:=sI h
    subst h
    exact wr V7 24 [true] [] [.ownb 1 0 4 1,.ownb 1 1 87 4,.ownb 1 2 3 1,.ownb 1 3 92 2] 0 [6,7,8,9] hC [pq h9]
   ·obtain⟨y10,h11,y12,h13,y14,h15,h⟩:=Bw h
    replace h:=sI h
    subst h
    exact wr V7 30 [false] [pc e35 (k35 x1 _ h11) [],pr pB h13,pu pB h13 h15] [] 0 [6,7,8,9] hC [pq h9]
theorem A7x:EN 110:=en Tryz.func110
def An4:List Nat:=[0,1,2,3,4,6,7,11]
theorem A60 (x0:Aa) (x1:Ab) (x2:Int) (r:Int×Bool) (h:Aqn x0 x1 x2=some r):CO 144 [.agg (d29 x0),.agg (d34 x1),.d (I x2)] [] (.tup [.d (I r.1),.d (Bo r.2)]) []:=by
 unfold Aqn at h
 refine co 18 Tryz.func144 λ C hC=>?_
 obtain⟨y1,h2,h⟩:=Aw h
 refine wn An4 26 [] [pc e44 (k44 x0 x1 _ h2) []] [] 0 [0,1] [2,3,4,6,7,11] hC [] ?_
 rcases cB h with⟨h3,h⟩ | ⟨h3,h⟩
 ·replace h:=sI h
  subst h
  exact wr An4 24 [true] [] [] 0 [] hC [pq h3]
 ·obtain⟨y4,h5,h⟩:=Aw h
  replace h:=sI h
  subst h
  exact wr An4 25 [false] [pc Ayd (Axv x0 x1 x2 _ h5) []] [] 0 [] hC [pq h3]
theorem A7o:EN 144:=en Tryz.func144
def Q6:List Nat:=[0,1,2,3,4,5,6,7,8,9,14,20,21,22,23,29]
def Vu (x1:Ab) (n0:Nat) (z0:(List Ai)):St:=[(4,dO 0 0),(5,dI 0),(7,dO 9 0),(20,.d (DS q87 x1.Ac)),(21,dI (ln x1.Ac)),(22,dI (cnt 0 n0))]
def uD (y4:Ab) (n0:Nat) (z0:(List Ai)):List Res:=(.box 34 [.os 1,.os 2,.os 3,.os 4]::ze [v1_ y4.Ae,v4_ z0,v0_ y4.Al,v3_ y4.Ah,.box 34 [.os 5,.os 6,.os 7,.os 8]])
def Als  (z0:(List Ai)):St:=[(4,dO 0 0),(5,dI 0),(7,dO 9 0)]
def Amw (y4:Ab) (z0:(List Ai)):List Res:=(.box 34 [.os 1,.os 2,.os 3,.os 4]::ze [v1_ y4.Ae,v4_ z0,v0_ y4.Al,v3_ y4.Ah,.box 34 [.os 5,.os 6,.os 7,.os 8]])
theorem A6z (x0:Aa) (x1:Ab) (r:Ab×Int) (h:Za x0 x1=some r):CO 147 [.agg (d29 x0),.agg (d34 x1)] [] (.tup [.agg [.os 0,.os 1,.os 2,.os 3],.d (I r.2)]) (zp r.1 []):=by
 unfold Za at h
 refine co 45 Tryz.func147 λ C hC=>?_
 obtain⟨y1,h2,h⟩:=Aw h
 refine wn Q6 28 [] [pc e44 (k44 x0 x1 _ h2) []] [.ownb 2 0 4 1,.ownb 2 1 87 4,.ownb 2 2 3 1,.ownb 2 3 92 2] 0 [1,2,3,4,5,6] [3,4,5,6,14] hC [] ?_
 rcases cB h with⟨h3,h⟩ | ⟨h3,h⟩
 ·replace h:=sI h
  subst h
  exact wr Q6 24 [true] [] [.ownb 1 0 4 1,.ownb 1 1 87 4,.ownb 1 2 3 1,.ownb 1 3 92 2] 0 [6,7,8,9] hC [pq h3]
 ·obtain⟨y4,h5,h⟩:=Aw h
  refine ws Q6 28 [false] [pc e35 (k35 x1 _ h5) [],pl q87 x1.Ac] [] 0 [1,2,3,4,5,6,7,8,9,10] (Vu x1 0 y4.Ac) (uD y4 0 y4.Ac) hC [pq h3] ?_
  obtain⟨w0,hm0,hret0,hnext0⟩:=Av h
  clear h
  refine wc w0 (Als) (Amw y4) ?_ λ z0 hs0=>?_
  ·refine wb ?_
   refine Bq 20 rfl λ hl0=>?_
   refine wl (Vu x1) (uD y4) hm0 (λ z0 hn0=>?_) λ n0 a0 z0 w0b hi0 hx0 h hb0 hr0=>?_
   ·clear hm0
    exact wx w0 (Als) (Amw y4) Q6 26 [false] [] [] 0 Jv _ hC [pq (A5 hl0)] hn0
   ·unfold Wz at h
    rcases cB h with⟨h6,h⟩ | ⟨h6,h⟩
    ·obtain⟨y7,h8,y9,h10,h⟩:=A_ h
     exact wx w0b (Vu x1 (n0+1)) (uD y4 (n0+1)) Q6 36 [true,true] [pt hx0 hl0,pc Aom (An9 (w64 (a0.Phase+(w64 (36*(w64 (a0.Au-5000)))))) _ rfl) [],pr q87 h8,pu q87 h8 h10] [] 0 Jv _ hC [pq (A4 hi0 hl0),pq h6] (sI h).symm
    ·exact wx w0b (Vu x1 (n0+1)) (uD y4 (n0+1)) Q6 36 [true,false] [pt hx0 hl0] [] 0 Jv _ hC [pq (A4 hi0 hl0),pq h6] (sI h).symm
  ·have h:=hnext0 _ hs0
   replace h:=sI h
   subst h
   exact wr Q6 23 [] [] [] 0 [5,6,7,8] hC []
theorem A7n:EN 147:=en Tryz.func147
def Q5:List Nat:=[0,1,2,3,4,5,7,9,14,15,16,17,21,22,23,24]
def vN (y3:(List Aj)) (n0:Nat) (z0:(List Ai)):St:=[(3,dO 0 0),(4,dO 1 0),(5,dO 6 0),(14,dS 7),(15,dI (ln y3)),(16,dI (cnt 0 n0))]
def Ai1 (x1:Ab) (y1:Ab) (y3:(List Aj)) (n0:Nat) (z0:(List Ai)):List Res:=(.box 34 (d34 x1) :: .box 34 [.os 8,.os 9,.os 10,.os 11]::v1_ y1.Ae::v4_ z0::v0_ y1.Al::v3_ y1.Ah :: .box 34 [.os 2,.os 3,.os 4,.os 5]::v5_ y3::ze [])
def Alr  (z0:(List Ai)):St:=[(4,dO 0 0),(5,dO 5 0)]
def Amv (y1:Ab) (z0:(List Ai)):List Res:=(.box 34 [.os 6,.os 7,.os 8,.os 9]::v1_ y1.Ae::v4_ z0::v0_ y1.Al::v3_ y1.Ah :: .box 34 [.os 1,.os 2,.os 3,.os 4]::ze [])
def vM (y3:(List Aj)) (n0:Nat) (a0:Aj) (n1:Nat) (z1:(List Ai)):St:=[(3,dO 0 0),(4,dO 1 0),(5,dO 6 0),(7,dO 12 0),(14,dS 7),(15,dI (ln y3)),(16,dI (cnt 0 n0)),(21,.d (DS pI a0.Ac)),(22,dI (ln a0.Ac)),(23,dI (cnt 0 n1))]
def Ai0 (x1:Ab) (y1:Ab) (y3:(List Aj)) (a0:Aj) (n1:Nat) (z1:(List Ai)):List Res:=(.box 34 (d34 x1) :: .box 34 [.os 8,.os 9,.os 10,.os 11]::v1_ y1.Ae::v4_ z1::v0_ y1.Al::v3_ y1.Ah :: .box 34 [.os 2,.os 3,.os 4,.os 5]::v5_ y3::ze [.box 62 (d62 a0)])
def Alq (y3:(List Aj)) (n0:Nat) (z1:(List Ai)):St:=[(3,dO 0 0),(4,dO 1 0),(5,dO 6 0),(14,dS 7),(15,dI (ln y3)),(16,dI (cnt 0 n0))]
def Amu (x1:Ab) (y1:Ab) (y3:(List Aj)) (z1:(List Ai)):List Res:=(.box 34 (d34 x1) :: .box 34 [.os 8,.os 9,.os 10,.os 11]::v1_ y1.Ae::v4_ z1::v0_ y1.Al::v3_ y1.Ah :: .box 34 [.os 2,.os 3,.os 4,.os 5]::v5_ y3::ze [])
theorem A6y (x0:Aa) (x1:Ab) (r:Ab) (h:Aqm x0 x1=some r):CO 152 [.agg (d29 x0),.agg (d34 x1)] [] (.agg [.os 0,.os 1,.os 2,.os 3]) (zp r []):=by
 unfold Aqm at h
 refine co 58 Tryz.func152 λ C hC=>?_
 obtain⟨y1,h2,y3,h4,h⟩:=A_ h
 refine ws Q5 28 [] [pc Ayh (Axz x1 _ h2) [],pc e21 (k21 x0 x1 _ h4) [],pl q62 y3] [.ownb 2 0 4 1,.ownb 2 1 87 4,.ownb 2 2 3 1,.ownb 2 3 92 2] 0 [1,2,3,4,5,6,7,8,9,10,11,12] (vN y3 0 y1.Ac) (Ai1 x1 y1 y3 0 y1.Ac) hC [] ?_
 obtain⟨w0,hm0,hret0,hnext0⟩:=Av h
 clear h
 refine wc w0 (Alr) (Amv y1) ?_ λ z0 hs0=>?_
 ·refine wb ?_
  refine B1 14 7 rfl rfl λ hl0=>?_
  refine wl (vN y3) (Ai1 x1 y1 y3) hm0 (λ z0 hn0=>?_) λ n0 a0 z0 w0b hi0 hx0 h hb0 hr0=>?_
  ·clear hm0
   exact wx w0 (Alr) (Amv y1) Q5 26 [false] [] [] 0 [1,2,3,4,5,6,8,9,10,11] _ hC [pq (A5 hl0)] hn0
  ·unfold zY at h
   refine ws Q5 32 [true] [pr q62 (Bb hx0 hl0),pn q62 (Bb hx0 hl0),pl pI a0.Ac] [] 0 Dm (vM y3 n0 a0 0 z0) (Ai0 x1 y1 y3 a0 0 z0) hC [pq (A4 hi0 hl0)] ?_
   obtain⟨w1,hm1,hret1,hnext1⟩:=Av h
   clear h
   refine wc w1 (Alq y3 n0) (Amu x1 y1 y3) ?_ λ z1 hs1=>?_
   ·refine wb ?_
    refine Bq 21 rfl λ hl1=>?_
    refine wl (vM y3 n0 a0) (Ai0 x1 y1 y3 a0) hm1 (λ z1 hn1=>?_) λ n1 a1 z1 w1b hi1 hx1 h hb1 hr1=>?_
    ·clear hm1
     exact wx w1 (Alq y3 n0) (Amu x1 y1 y3) Q5 26 [false] [] [] 0 E0 _ hC [pq (A5 hl1)] hn1
    ·unfold zX at h
     obtain⟨y5,h6,y7,h8,y9,h10,y11,h12,h⟩:=C8 h
     obtain⟨y13,h14,y15,h16,y17,h18,y19,h20,h⟩:=C8 h
     exact wx w1b (vM y3 n0 a0 (n1+1)) (Ai0 x1 y1 y3 a0 (n1+1)) Q5 33 [true] [pt hx1 hl1,pr pI h6,pr q87 h8,pr pI h10,pr q87 h12,pr q87 h14,pu q87 h14 h16,pr q87 h18,pu q87 h18 h20] [] 0 Dm _ hC [pq (A4 hi1 hl1)] (sI h).symm
   ·have h:=hnext1 _ hs1
    exact wx w0b (vN y3 (n0+1)) (Ai1 x1 y1 y3 (n0+1)) Q5 23 [] [] [] 0 E0 _ hC [] (sI h).symm
 ·have h:=hnext0 _ hs0
  replace h:=sI h
  subst h
  exact wr Q5 23 [] [] [] 0 [1,2,3,4] hC []
theorem A7m:EN 152:=en Tryz.func152
def Gg:List Nat:=[0,1,2,3,4,5,6,7,8,9,10,12,13,15,16,17,19,21,26,35,36,37,38,56,57,58,59,85,120,121,122,123,142,145,146,147,148,155]
def Ae1 (y8:(List Aj)) (n0:Nat) (z0:Sg0):St:=[(2,dO 0 0),(3,dO 1 0),(4,dO 2 0),(5,.d (DS q47 [])),(6,dI 0),(8,dO 11 0),(9,dS 14),(10,dS 12),(35,dS 13),(36,dI (ln y8)),(37,dI (cnt 0 n0))]
def Apq (x0:Aa) (x1:Ab) (y4:Ab) (y6:(List Int)) (y8:(List Aj)) (n0:Nat) (z0:Sg0):List Res:=(.box 29 (d29 x0) :: .box 34 (d34 x1) :: .box 34 [.os 3,.os 4,.os 5,.os 6]::ze [v1_ z0.1,v4_ y4.Ac,v0_ z0.2.1,v3_ y4.Ah,.box 34 [.os 7,.os 8,.os 9,.os 10],v0_ y6,v5_ y8,v2_ z0.2.2])
def Ar3  (z0:Sg0):St:=[(4,dO 0 0),(5,.d (DS q47 [])),(6,dI 0),(8,dO 9 0),(9,dS 10)]
def Avq (y4:Ab) (z0:Sg0):List Res:=(.box 34 [.os 1,.os 2,.os 3,.os 4]::ze [v1_ z0.1,v4_ y4.Ac,v0_ z0.2.1,v3_ y4.Ah,.box 34 [.os 5,.os 6,.os 7,.os 8],v2_ z0.2.2])
def Zr (y6:(List Int)) (y8:(List Aj)) (n0:Nat) (n1:Nat) (z1:Int×(List Int)×(List Ak)):St:=[(2,dO 0 0),(3,dO 1 0),(4,dO 2 0),(5,.d (DS q47 [])),(6,dI 0),(8,dO 11 0),(9,dS 14),(10,dS 12),(12,dO 15 0),(13,dI z1.1),(35,dS 13),(36,dI (ln y8)),(37,dI (cnt 0 n0)),(56,dS 12),(57,dI (ln y6)),(58,dI (cnt 0 n1))]
def Adx (x0:Aa) (x1:Ab) (y4:Ab) (y6:(List Int)) (y8:(List Aj)) (z0:Sg0) (a0:Aj) (n1:Nat) (z1:Int×(List Int)×(List Ak)):List Res:=(.box 29 (d29 x0) :: .box 34 (d34 x1) :: .box 34 [.os 3,.os 4,.os 5,.os 6]::ze [v1_ z0.1,v4_ y4.Ac,v0_ z1.2.1,v3_ y4.Ah,.box 34 [.os 7,.os 8,.os 9,.os 10],v0_ y6,v5_ y8,v2_ z1.2.2,.box 62 (d62 a0)])
def Ar2 (y8:(List Aj)) (n0:Nat) (z1:Int×(List Int)×(List Ak)):St:=[(2,dO 0 0),(3,dO 1 0),(4,dO 2 0),(5,.d (DS q47 [])),(6,dI 0),(8,dO 11 0),(9,dS 14),(10,dS 12),(12,dO 15 0),(13,dI z1.1),(35,dS 13),(36,dI (ln y8)),(37,dI (cnt 0 n0))]
def Avp (x0:Aa) (x1:Ab) (y4:Ab) (y6:(List Int)) (y8:(List Aj)) (z0:Sg0) (a0:Aj) (z1:Int×(List Int)×(List Ak)):List Res:=(.box 29 (d29 x0) :: .box 34 (d34 x1) :: .box 34 [.os 3,.os 4,.os 5,.os 6]::ze [v1_ z0.1,v4_ y4.Ac,v0_ z1.2.1,v3_ y4.Ah,.box 34 [.os 7,.os 8,.os 9,.os 10],v0_ y6,v5_ y8,v2_ z1.2.2,.box 62 (d62 a0)])
def Zq (y6:(List Int)) (y8:(List Aj)) (n0:Nat) (n2:Nat) (z2:Int×(List Bool)×(List Ak)):St:=[(2,dO 0 0),(3,dO 1 0),(4,dO 2 0),(5,.d (DS q47 [])),(6,dI 0),(8,dO 11 0),(9,dS 14),(10,dS 12),(12,dO 15 0),(13,dI z2.1),(35,dS 13),(36,dI (ln y8)),(37,dI (cnt 0 n0)),(120,dS 12),(121,dI (ln y6)),(122,dI (cnt 0 n2))]
def Adw (x0:Aa) (x1:Ab) (y4:Ab) (y6:(List Int)) (y8:(List Aj)) (a0:Aj) (z1:Int×(List Int)×(List Ak)) (n2:Nat) (z2:Int×(List Bool)×(List Ak)):List Res:=(.box 29 (d29 x0) :: .box 34 (d34 x1) :: .box 34 [.os 3,.os 4,.os 5,.os 6]::ze [v1_ z2.2.1,v4_ y4.Ac,v0_ z1.2.1,v3_ y4.Ah,.box 34 [.os 7,.os 8,.os 9,.os 10],v0_ y6,v5_ y8,v2_ z2.2.2,.box 62 (d62 a0)])
def Ar1 (y8:(List Aj)) (n0:Nat) (z2:Int×(List Bool)×(List Ak)):St:=[(2,dO 0 0),(3,dO 1 0),(4,dO 2 0),(5,.d (DS q47 [])),(6,dI 0),(8,dO 11 0),(9,dS 14),(10,dS 12),(35,dS 13),(36,dI (ln y8)),(37,dI (cnt 0 n0))]
def Avo (x0:Aa) (x1:Ab) (y4:Ab) (y6:(List Int)) (y8:(List Aj)) (z1:Int×(List Int)×(List Ak)) (z2:Int×(List Bool)×(List Ak)):List Res:=(.box 29 (d29 x0) :: .box 34 (d34 x1) :: .box 34 [.os 3,.os 4,.os 5,.os 6]::ze [v1_ z2.2.1,v4_ y4.Ac,v0_ z1.2.1,v3_ y4.Ah,.box 34 [.os 7,.os 8,.os 9,.os 10],v0_ y6,v5_ y8,v2_ z2.2.2])
def Zp (y6:(List Int)) (y8:(List Aj)) (n0:Nat) (z2:Int×(List Bool)×(List Ak)) (n2:Nat) (a2:Int) (y38:(List Int)) (n3:Nat) (z3:(List Bool)×(List Ak)):St:=[(2,dO 0 0),(3,dO 1 0),(4,dO 2 0),(5,.d (DS q47 [])),(6,dI 0),(8,dO 11 0),(9,dS 14),(10,dS 12),(12,dO 15 0),(13,dI z2.1),(19,dI a2),(35,dS 13),(36,dI (ln y8)),(37,dI (cnt 0 n0)),(120,dS 12),(121,dI (ln y6)),(122,dI (cnt 0 n2)),(145,dS 16),(146,dI (ln y38)),(147,dI (cnt 0 n3))]
def Adv (x0:Aa) (x1:Ab) (y4:Ab) (y6:(List Int)) (y8:(List Aj)) (a0:Aj) (z1:Int×(List Int)×(List Ak)) (y38:(List Int)) (n3:Nat) (z3:(List Bool)×(List Ak)):List Res:=(.box 29 (d29 x0) :: .box 34 (d34 x1) :: .box 34 [.os 3,.os 4,.os 5,.os 6]::ze [v1_ z3.1,v4_ y4.Ac,v0_ z1.2.1,v3_ y4.Ah,.box 34 [.os 7,.os 8,.os 9,.os 10],v0_ y6,v5_ y8,v2_ z3.2,.box 62 (d62 a0),v0_ y38])
def Ar0 (y6:(List Int)) (y8:(List Aj)) (n0:Nat) (z2:Int×(List Bool)×(List Ak)) (n2:Nat) (a2:Int) (z3:(List Bool)×(List Ak)):St:=[(2,dO 0 0),(3,dO 1 0),(4,dO 2 0),(5,.d (DS q47 [])),(6,dI 0),(8,dO 11 0),(9,dS 14),(10,dS 12),(12,dO 15 0),(13,dI z2.1),(19,dI a2),(35,dS 13),(36,dI (ln y8)),(37,dI (cnt 0 n0)),(120,dS 12),(121,dI (ln y6)),(122,dI (cnt 0 n2))]
def Avn (x0:Aa) (x1:Ab) (y4:Ab) (y6:(List Int)) (y8:(List Aj)) (a0:Aj) (z1:Int×(List Int)×(List Ak)) (z3:(List Bool)×(List Ak)):List Res:=(.box 29 (d29 x0) :: .box 34 (d34 x1) :: .box 34 [.os 3,.os 4,.os 5,.os 6]::ze [v1_ z3.1,v4_ y4.Ac,v0_ z1.2.1,v3_ y4.Ah,.box 34 [.os 7,.os 8,.os 9,.os 10],v0_ y6,v5_ y8,v2_ z3.2,.box 62 (d62 a0)])
set_option maxHeartbeats 4000000 in
theorem k67 (x0 : Aa) (x1 : Ab) (r : Ab × (List Ak) × Int) (h : F67 x0 x1 = some r) : CO 67 [.agg (d29 x0), .agg (d34 x1)] [] (.tup [.agg [.os 0, .os 1, .os 2, .os 3], .d (.os 4), .d (I r.2.2)]) (zp r.1 [v2_ r.2.1]) := by
 unfold F67 at h
 refine co 177 Tryz.func67 λ C hC=>?_
 obtain⟨y1,h2,h⟩:=Aw h
 refine wn Gg 28 [] [pc e11 (k11 x0 x1 _ h2) []] [.ownb 2 0 4 1,.ownb 2 1 87 4,.ownb 2 2 3 1,.ownb 2 3 92 2] 0 n7_ [2,3,4,5,6,7,26] hC [] ?_
 rcases cB h with⟨h3,h⟩ | ⟨h3,h⟩
 ·replace h:=sI h
  subst h
  exact wr Gg 24 [true] [] [.ownb 2 0 4 1,.ownb 2 1 87 4,.ownb 2 2 3 1,.ownb 2 3 92 2,.own 5 47 3] 0 [7,8,9,10,11] hC [pq h3]
 ·obtain ⟨y4, h5, y6, h7, y8, h9, h⟩ := Bw h
  refine ws Gg 32 [false] [pc Ayh (Axz x1 _ h5) [],pc e12 (k12 x0 _ h7) [],pc e21 (k21 x0 x1 _ h9) [],pl q62 y8] [.own 9 47 3] 0 Dl (Ae1 y8 0 (y4.Ae,y4.Al,([]:List Ak))) (Apq x0 x1 y4 y6 y8 0 (y4.Ae,y4.Al,([]:List Ak))) hC [pq h3] ?_
  obtain⟨w0,hm0,hret0,hnext0⟩:=Av h
  clear h
  refine wc w0 (Ar3) (Avq y4) ?_ λ z0 hs0=>?_
  ·refine wb ?_
   refine B1 35 13 rfl rfl λ hl0=>?_
   refine wl (Ae1 y8) (Apq x0 x1 y4 y6 y8) hm0 (λ z0 hn0=>?_) λ n0 a0 z0 w0b hi0 hx0 h hb0 hr0=>?_
   ·clear hm0
    exact wx w0 (Ar3) (Avq y4) Gg 26 [false] [] [] 0 [2,3,4,5,6,7,8,9,10,11,14] _ hC [pq (A5 hl0)] hn0
   ·unfold Ajx at h
    obtain⟨y10,h11,y12,h13,y14,h15,y16,h17,h⟩:=C8 h
    refine ws Gg 35 [true] [pr q62 (Bb hx0 hl0),pn q62 (Bb hx0 hl0),pr pI h11,pc e17 (k17 x0 x1 y10 _ h13) [],pr pI h15,pc e18 (k18 x0 x1 y14 _ h17) [],pl pI y6] [] 0 I9 (Zr y6 y8 n0 0 (w64 (y12-y16),z0.2.1,z0.2.2)) (Adx x0 x1 y4 y6 y8 z0 a0 0 (w64 (y12-y16),z0.2.1,z0.2.2)) hC [pq (A4 hi0 hl0)] ?_
    obtain⟨w1,hm1,hret1,hnext1⟩:=Av h
    clear h
    refine wc w1 (Ar2 y8 n0) (Avp x0 x1 y4 y6 y8 z0 a0) ?_ λ z1 hs1=>?_
    ·refine wb ?_
     refine B1 56 12 rfl rfl λ hl1=>?_
     refine wl (Zr y6 y8 n0) (Adx x0 x1 y4 y6 y8 z0 a0) hm1 (λ z1 hn1=>?_) λ n1 a1 z1 w1b hi1 hx1 h hb1 hr1=>?_
     ·clear hm1
      exact wx w1 (Ar2 y8 n0) (Avp x0 x1 y4 y6 y8 z0 a0) Gg 26 [false] [] [] 0 I9 _ hC [pq (A5 hl1)] hn1
     ·unfold Ajw at h
      obtain⟨y18,h19,y20,h21,y22,h23,h⟩:=Bw h
      refine wn Gg 35 [true] [pr pI (Bb hx1 hl1),pn pI (Bb hx1 hl1),pr q90 h19,pw e53 (λ hg=>k53 a0.Af a1 _ (A1 h21 hg)) [],pR pI h23,pN pI h23] [] 0 I9 [2,3,4,5,6,8,9,10,12,13,15,16,35,36,37,56,57,58,85] hC [pq (A4 hi1 hl1)] ?_
      rcases cB h with⟨h24,h⟩ | ⟨h24,h⟩
      ·exact wx w1b (Zr y6 y8 n0 (n1+1)) (Adx x0 x1 y4 y6 y8 z0 a0 (n1+1)) Gg 24 [true] [] [] 0 I9 _ hC [pq h24] (sI h).symm
      ·obtain⟨y25,h26,y27,h28,y29,h30,y31,h32,h⟩:=C8 h
       exact wx w1b (Zr y6 y8 n0 (n1+1)) (Adx x0 x1 y4 y6 y8 z0 a0 (n1+1)) Gg 30 [false] [pr pI h26,pn pI h26,pr pI h26,pn pI h26,pr pI h26,pu pI h26 h28,pr pI h30,pn pI h30,pa q47 3 h32] [] 0 [0,1,2,3,4,5,6,7,8,9,10,11,12,13,16,15] _ hC [pq h24] (sI h).symm
    ·have h := hnext1 _ hs1
     refine ws Gg 23 [] [pl pI y6] [] 0 I9 (Zq y6 y8 n0 0 (z1.1,z0.1,z1.2.2)) (Adw x0 x1 y4 y6 y8 a0 z1 0 (z1.1,z0.1,z1.2.2)) hC [] ?_
     obtain⟨w2,hm2,hret2,hnext2⟩:=Av h
     clear h
     refine wc w2 (Ar1 y8 n0) (Avo x0 x1 y4 y6 y8 z1) ?_ λ z2 hs2=>?_
     ·refine wb ?_
      refine B1 120 12 rfl rfl λ hl2=>?_
      refine wl (Zq y6 y8 n0) (Adw x0 x1 y4 y6 y8 a0 z1) hm2 (λ z2 hn2=>?_) λ n2 a2 z2 w2b hi2 hx2 h hb2 hr2=>?_
      ·clear hm2
       exact wx w2 (Ar1 y8 n0) (Avo x0 x1 y4 y6 y8 z1) Gg 26 [false] [] [] 0 Dl _ hC [pq (A5 hl2)] hn2
      ·unfold Ajv at h
       obtain⟨y33,h34,y35,h36,h⟩:=A_ h
       refine wn Gg 33 [true] [pr pI (Bb hx2 hl2),pn pI (Bb hx2 hl2),pw e53 (λ hg=>k53 a0.Af a2 _ (A1 h34 hg)) [],pR pI h36,pN pI h36] [] 0 I9 [2,3,4,5,6,8,9,10,12,13,19,35,36,37,120,121,122,142] hC [pq (A4 hi2 hl2)] ?_
       rcases cB h with⟨h37,h⟩ | ⟨h37,h⟩
       ·exact wx w2b (Zq y6 y8 n0 (n2+1)) (Adw x0 x1 y4 y6 y8 a0 z1 (n2+1)) Gg 24 [true] [] [] 0 I9 _ hC [pq h37] (sI h).symm
       ·obtain⟨y38,h39,h⟩:=Aw h
        refine ws Gg 26 [false] [pc e16 (k16 x0 3 a2 _ h39) [],pl pI y38] [] 0 Ty (Zp y6 y8 n0 z2 n2 a2 y38 0 (z2.2.1,z2.2.2)) (Adv x0 x1 y4 y6 y8 a0 z1 y38 0 (z2.2.1,z2.2.2)) hC [pq h37] ?_
        obtain⟨w3,hm3,hret3,hnext3⟩:=Av h
        clear h
        refine wc w3 (Ar0 y6 y8 n0 z2 n2 a2) (Avn x0 x1 y4 y6 y8 a0 z1) ?_ λ z3 hs3=>?_
        ·refine wb ?_
         refine B1 145 16 rfl rfl λ hl3=>?_
         refine wl (Zp y6 y8 n0 z2 n2 a2 y38) (Adv x0 x1 y4 y6 y8 a0 z1 y38) hm3 (λ z3 hn3=>?_) λ n3 a3 z3 w3b hi3 hx3 h hb3 hr3=>?_
         ·clear hm3
          exact wx w3 (Ar0 y6 y8 n0 z2 n2 a2) (Avn x0 x1 y4 y6 y8 a0 z1) Gg 26 [false] [] [] 0 I9 _ hC [pq (A5 hl3)] hn3
         ·unfold Aju at h
          obtain⟨y40,h41,h⟩:=Aw h
          refine wn Gg 32 [true] [pr pI (Bb hx3 hl3),pn pI (Bb hx3 hl3),pr pB h41,pn pB h41] [] 0 Ty [2,3,4,5,6,8,9,10,12,13,19,21,35,36,37,120,121,122,145,146,147,155] hC [pq (A4 hi3 hl3)] ?_
          rcases cB h with⟨h42,h⟩ | ⟨h42,h⟩
          ·obtain⟨y43,h44,y45,h46,h⟩:=A_ h
           exact wx w3b (Zp y6 y8 n0 z2 n2 a2 y38 (n3+1)) (Adv x0 x1 y4 y6 y8 a0 z1 y38 (n3+1)) Gg 27 [true] [pr pB h41,pu pB h41 h44,pa q47 3 h46] [] 0 [0,1,2,3,4,5,6,7,8,9,10,11,12,13,17,15,16] _ hC [pq h42] (sI h).symm
          ·exact wx w3b (Zp y6 y8 n0 z2 n2 a2 y38 (n3+1)) (Adv x0 x1 y4 y6 y8 a0 z1 y38 (n3+1)) Gg 25 [false] [] [] 0 Ty _ hC [pq h42] (sI h).symm
        ·have h:=hnext3 _ hs3
         obtain⟨y47,h48,h⟩:=Aw h
         exact wx w2b (Zq y6 y8 n0 (n2+1)) (Adw x0 x1 y4 y6 y8 a0 z1 (n2+1)) Gg 24 [] [pr pI h48,pn pI h48] [] 0 I9 _ hC [] (sI h).symm
     ·have h:=hnext2 _ hs2
      exact wx w0b (Ae1 y8 (n0+1)) (Apq x0 x1 y4 y6 y8 (n0+1)) Gg 23 [] [] [] 0 Dl _ hC [] (sI h).symm
  ·have h:=hnext0 _ hs0
   replace h:=sI h
   subst h
   exact wr Gg 23 [] [] [] 0 [5,6,7,8,10] hC []
theorem e67:EN 67:=en Tryz.func67
def V8:List Nat:=[0,1,2,3,4,6,7,9,12,13,14,15,21]
def vR (x2:Int) (y1:(List Aj)) (n0:Nat) (z0:Unit):St:=[(2,dI x2),(6,dO 0 0),(7,dB false),(12,dS 1),(13,dI (ln y1)),(14,dI (cnt 0 n0))]
def Ai5 (y1:(List Aj)) (n0:Nat) (z0:Unit):List Res:=[.box 62 [.os 2,.os 3,.os 4],v5_ y1,v0_ ([]:List Int),v0_ ([]:List Int),v0_ ([]:List Int)]
def Alz  (z0:Unit):St:=[(6,dO 0 0),(7,dB false)]
def Am3  (z0:Unit):List Res:=[.box 62 [.os 1,.os 2,.os 3],v0_ ([]:List Int),v0_ ([]:List Int),v0_ ([]:List Int)]
theorem yN (x0:Aa) (x1:Ab) (x2:Int) (r:Aj×Bool) (h:H_ x0 x1 x2=some r):CO 105 [.agg (d29 x0),.agg (d34 x1),.d (I x2)] [] (.tup [.agg (d62 r.1),.d (Bo r.2)]) []:=by
 unfold H_ at h
 refine co 25 Tryz.func105 λ C hC=>?_
 obtain⟨y1,h2,h⟩:=Aw h
 refine ws V8 26 [] [pc A4e (A26 x0 x1 _ h2) [],pl q62 y1] [.ownb 2 0 3 1,.ownb 2 1 3 1,.ownb 2 2 3 1] 0 [2,3,4,5,6] (vR x2 y1 0 ()) (Ai5 y1 0 ()) hC [] ?_
 obtain⟨w0,hm0,hret0,hnext0⟩:=Av h
 clear h
 refine wc w0 (Alz) (Am3) ?_ λ z0 hs0=>?_
 ·refine wb ?_
  refine B1 12 1 rfl rfl λ hl0=>?_
  refine wl (vR x2 y1) (Ai5 y1) hm0 (λ z0 hn0=>?_) λ n0 a0 z0 w0b hi0 hx0 h hb0 hr0=>?_
  ·clear hm0
   exact wx w0 (Alz) (Am3) V8 26 [false] [] [] 0 [0,2,3,4] _ hC [pq (A5 hl0)] hn0
  ·unfold Mx at h
   obtain⟨y3,h4,h⟩:=Aw h
   refine wn V8 32 [true] [pr q62 (Bb hx0 hl0),pn q62 (Bb hx0 hl0),pc e59 (k59 a0.Am x2 _ h4) []] [] 0 n6_ [2,6,7,9,12,13,14,21] hC [pq (A4 hi0 hl0)] ?_
   rcases cB h with⟨h5,h⟩ | ⟨h5,h⟩
   ·have hq:=hret0 _ (hr0 _ (sI h).symm)
    replace hq:=sI hq
    subst hq
    exact wr V8 24 [true] [] [] 0 [] hC [pq h5]
   ·exact wx w0b (vR x2 y1 (n0+1)) (Ai5 y1 (n0+1)) V8 25 [false] [] [] 0 n5_ _ hC [pq h5] (sI h).symm
 ·have h:=hnext0 _ hs0
  replace h:=sI h
  subst h
  exact wr V8 23 [] [] [.ownb 0 0 3 1,.frz 4,.ownb 0 1 3 1,.frz 5,.ownb 0 2 3 1,.frz 6] 0 [] hC []
theorem yZ:EN 105:=en Tryz.func105
def Oe:List Nat:=[0,1,2,3,4,5,6,7,9,14,21,22,23,24,30]
def Vx (y6:(List Aj)) (n0:Nat) (z0:(List Ai)):St:=[(3,dO 0 0),(4,dO 1 0),(5,dI 0),(7,dO 10 0),(21,dS 11),(22,dI (ln y6)),(23,dI (cnt 0 n0))]
def uG (x1:Ab) (y4:Ab) (y6:(List Aj)) (n0:Nat) (z0:(List Ai)):List Res:=(.box 34 (d34 x1) :: .box 34 [.os 2,.os 3,.os 4,.os 5]::ze [v1_ y4.Ae,v4_ z0,v0_ y4.Al,v3_ y4.Ah,.box 34 [.os 6,.os 7,.os 8,.os 9],v5_ y6])
def Alx  (z0:(List Ai)):St:=[(4,dO 0 0),(5,dI 0),(7,dO 9 0)]
def Am1 (y4:Ab) (z0:(List Ai)):List Res:=(.box 34 [.os 1,.os 2,.os 3,.os 4]::ze [v1_ y4.Ae,v4_ z0,v0_ y4.Al,v3_ y4.Ah,.box 34 [.os 5,.os 6,.os 7,.os 8]])
theorem A27 (x0:Aa) (x1:Ab) (r:Ab×Int) (h:Aae x0 x1=some r):CO 123 [.agg (d29 x0),.agg (d34 x1)] [] (.tup [.agg [.os 0,.os 1,.os 2,.os 3],.d (I r.2)]) (zp r.1 []):=by
 unfold Aae at h
 refine co 45 Tryz.func123 λ C hC=>?_
 obtain⟨y1,h2,h⟩:=Aw h
 refine wn Oe 28 [] [pc e44 (k44 x0 x1 _ h2) []] [.ownb 2 0 4 1,.ownb 2 1 87 4,.ownb 2 2 3 1,.ownb 2 3 92 2] 0 n7_ [2,3,4,5,6,14] hC [] ?_
 rcases cB h with⟨h3,h⟩ | ⟨h3,h⟩
 ·replace h:=sI h
  subst h
  exact wr Oe 24 [true] [] [.ownb 2 0 4 1,.ownb 2 1 87 4,.ownb 2 2 3 1,.ownb 2 3 92 2] 0 [7,8,9,10] hC [pq h3]
 ·obtain⟨y4,h5,y6,h7,h⟩:=A_ h
  refine ws Oe 28 [false] [pc e35 (k35 x1 _ h5) [],pc A4e (A26 x0 x1 _ h7) [],pl q62 y6] [] 0 [1,2,3,4,5,6,7,8,9,10,11,12] (Vx y6 0 y4.Ac) (uG x1 y4 y6 0 y4.Ac) hC [pq h3] ?_
  obtain⟨w0,hm0,hret0,hnext0⟩:=Av h
  clear h
  refine wc w0 (Alx) (Am1 y4) ?_ λ z0 hs0=>?_
  ·refine wb ?_
   refine B1 21 11 rfl rfl λ hl0=>?_
   refine wl (Vx y6) (uG x1 y4 y6) hm0 (λ z0 hn0=>?_) λ n0 a0 z0 w0b hi0 hx0 h hb0 hr0=>?_
   ·clear hm0
    exact wx w0 (Alx) (Am1 y4) Oe 26 [false] [] [] 0 [1,2,3,4,5,6,7,8,9,10] _ hC [pq (A5 hl0)] hn0
   ·unfold Aad at h
    refine wn Oe 32 [true] [pr q62 (Bb hx0 hl0),pn q62 (Bb hx0 hl0),pl pI a0.Ac] [] 0 Dm [3,4,5,7,9,21,22,23,30] hC [pq (A4 hi0 hl0)] ?_
    rcases cB h with⟨h8,h⟩ | ⟨h8,h⟩
    ·obtain⟨y9,h10,y11,h12,y13,h14,h⟩:=Bw h
     exact wx w0b (Vx y6 (n0+1)) (uG x1 y4 y6 (n0+1)) Oe 25 [true] [pr pI h10,pr q87 h12,pc Aht (Ag5 (⟨y4.Ae,z0,y4.Al,y4.Ah⟩:Ab) a0.Ac y11 _ h14) [6,7,8,9]] [] 0 E0 _ hC [pq h8] (sI h).symm
    ·exact wx w0b (Vx y6 (n0+1)) (uG x1 y4 y6 (n0+1)) Oe 25 [false] [] [] 0 E0 _ hC [pq h8] (sI h).symm
  ·have h:=hnext0 _ hs0
   replace h:=sI h
   subst h
   exact wr Oe 23 [] [] [] 0 [5,6,7,8] hC []
theorem A4f:EN 123:=en Tryz.func123
def jJ:List Nat:=[0,1,2,3,4,6,7,9,30,32,33,40]
theorem A6v (x0:Aa) (x1:Ab) (x2:Int) (r:Bool) (h:Y8 x0 x1 x2=some r):CO 169 [.agg (d29 x0),.agg (d34 x1),.d (I x2)] [] (.d (Bo r)) []:=by
 unfold Y8 at h
 refine co 74 Tryz.func169 λ C hC=>?_
 obtain⟨y1,h2,y3,h4,y5,h6,y7,h8,h⟩:=C8 h
 refine wn jJ 28 [] [pr q49 h2,pr pB h4,pw e76 (λ hg=>k76 x1 2 x2 _ (A1 h6 hg)) [],pw e76 (λ hg=>k76 x1 3 y1.A _ (A1 h8 hg)) []] [] 0 n3_ [3,4,6,7,30] hC [] ?_
 rcases cB h with⟨h9,h⟩ | ⟨h9,h⟩
 ·replace h:=sI h
  subst h
  exact wr jJ 24 [true] [] [] 0 [] hC [pq h9]
 ·rcases cB h with⟨h10,h⟩ | ⟨h10,h⟩
  ·obtain⟨y11,h12,h⟩:=Aw h
   replace h:=sI h
   subst h
   exact wr jJ 32 [false,true] [pc e76 (k76 x1 3 y1.B _ h12) []] [] 0 [] hC [pq h9,pq h10]
  ·rcases cB h with⟨h13,h⟩ | ⟨h13,h⟩
   ·obtain⟨y14,h15,y16,h17,h⟩:=A_ h
    replace h:=sI h
    subst h
    exact wr jJ 35 [false,false,true] [pc e76 (k76 x1 1 y1.B _ h15) [],pR q87 h17] [] 0 [] hC [pq h9,pq h10,pq h13]
   ·obtain⟨y18,h19,y20,h21,h⟩:=A_ h
    replace h:=sI h
    subst h
    exact wr jJ 39 [false,false,false] [pc e86 (k86 x0 x1 y1.B _ h19) [],pc e76 (k76 x1 4 y1.B _ h21) []] [] 0 [] hC [pq h9,pq h10,pq h13]
theorem A7j:EN 169:=en Tryz.func169
def Mt:List Nat:=[0,2,3,24,25,26,66]
def N6 (y1:Ab×Int) (z0:Int×(List Ai)):St:=[(0,dO 0 0),(24,dI (ln y1.1.Ac)),(25,dI z0.1)]
def Se (x0:A0) (y1:Ab×Int) (z0:Int×(List Ai)):List Res:=(.box 107 (zb x0.An [.os 5,.os 6,.os 7,.os 8,I x0.time])::zp x0.Ao [v1_ y1.1.Ae,v4_ z0.2,v0_ y1.1.Al,v3_ y1.1.Ah])
def Abh  (z0:Int×(List Ai)):St:=[]
def Acs (x0:A0) (y1:Ab×Int) (z0:Int×(List Ai)):List Res:=(.box 107 (zb x0.An [.os 5,.os 6,.os 7,.os 8,I x0.time])::zp x0.Ao [v1_ y1.1.Ae,v4_ z0.2,v0_ y1.1.Al,v3_ y1.1.Ah])
theorem A3e (x0:A0) (r:A0) (h:Kb x0=some r):CO 115 [.d (.o 0 0)] (.box 107 (zb x0.An [.os 1,.os 2,.os 3,.os 4,I x0.time])::zp x0.Ao []) (.tup []) (.box 107 (zb r.An [.os 5,.os 6,.os 7,.os 8,I r.time]) :: .non :: .non :: .non :: .non::zp r.Ao []):=by
 unfold Kb at h
 refine co 71 Tryz.func115 λ C hC=>?_
 obtain⟨y1,h2,h⟩:=Aw h
 refine ws Mt 25 [] [⟨.call 147 [.agg (d29 x0.An),.agg [.os 0,.os 1,.os 2,.os 3]] (zp x0.Ao []) (.tup [.agg [.os 4,.os 5,.os 6,.os 7],dI y1.2]) (zp x0.Ao (zp y1.1 [])) [1,2,3,4],⟨A7n,((A6z x0.An x0.Ao _ h2).lend (by kernel_rfl) (by kernel_rfl) (by kernel_rfl) ⟨Bf (λ _=>rfl),Bf (λ _=>rfl),Bf (λ _=>rfl),Bf (λ _=>rfl),trivial⟩ (by kernel_rfl) (by kernel_rfl))⟩⟩,pl q87 y1.1.Ac] [] 5 n9_ (N6 y1 (0,y1.1.Ac)) (Se x0 y1 (0,y1.1.Ac)) hC [] ?_
 obtain⟨w0,hm0,hret0,hnext0⟩:=Av h
 clear h
 refine wc w0 (Abh) (Acs x0 y1) ?_ λ z0 hs0=>?_
 ·refine wb ?_
  refine ww (N6 y1) (Se x0 y1) hm0 λ z0 w0b h hb0 hr0=>?_
  unfold Oy at h
  rcases cB h with⟨h3,h⟩ | ⟨h3,h⟩
  ·obtain⟨y4,h5,y6,h7,y8,h9,h⟩:=Bw h
   refine wn Mt 34 [true] [pr q87 h5,pn q87 h5,pv Ahs (λ hg=>Ag4 (⟨x0.An,(⟨y1.1.Ae,z0.2,y1.1.Al,y1.1.Ah⟩:Ab),x0.time⟩:A0) z0.1 _ (A1 h7 hg)),⟨.when [(((y4.State==1)&&y6),true)] (.row (z0.2.map q87) (((Int.toNat z0.1):Nat):Int) (q87 y4)),λ hg=>Ki h5⟩,pR q98 h9] [] 5 n9_ [0,3,24,25,66] hC [pq h3] ?_
   rcases cB h with⟨h10,h⟩ | ⟨h10,h⟩
   ·obtain⟨y11,h12,h⟩:=Aw h
    exact wx w0b (N6 y1) (Se x0 y1) Mt 25 [true] [pu q87 h5 h12] [] 5 n9_ _ hC [pq h10] (sI h).symm
   ·exact wx w0b (N6 y1) (Se x0 y1) Mt 25 [false] [] [] 5 n9_ _ hC [pq h10] (sI h).symm
  ·exact wx w0 (Abh) (Acs x0 y1) Mt 26 [false] [] [] 5 n9_ (z0.1,z0.2) hC [pq h3] (hb0 _ (sI h).symm)
 ·have h:=hnext0 _ hs0
  replace h:=sI h
  subst h
  exact wf Mt 20 [] [] [.frz 1,.frz 2,.frz 3,.frz 4] 5 n9_ hC []
theorem A4m:EN 115:=en Tryz.func115
def An6:List Nat:=[0,1,2,3,4,5,6,11]
theorem A66 (x0:Aa) (x1:Ab) (r:Ab×Int) (h:Aaf x0 x1=some r):CO 119 [.agg (d29 x0),.agg (d34 x1)] [] (.tup [.agg [.os 0,.os 1,.os 2,.os 3],.d (I r.2)]) (zp r.1 []):=by
 unfold Aaf at h
 refine co 17 Tryz.func119 λ C hC=>?_
 obtain⟨y1,h2,h⟩:=Aw h
 refine wn An6 28 [] [pc e11 (k11 x0 x1 _ h2) []] [.ownb 2 0 4 1,.ownb 2 1 87 4,.ownb 2 2 3 1,.ownb 2 3 92 2] 0 n7_ [2,3,4,5,6,11] hC [] ?_
 rcases cB h with⟨h3,h⟩ | ⟨h3,h⟩
 ·replace h:=sI h
  subst h
  exact wr An6 24 [true] [] [.ownb 2 0 4 1,.ownb 2 1 87 4,.ownb 2 2 3 1,.ownb 2 3 92 2] 0 [7,8,9,10] hC [pq h3]
 ·obtain⟨y4,h5,h⟩:=Aw h
  replace h:=sI h
  subst h
  exact wr An6 25 [false] [pc A7m (A6y x0 x1 _ h5) []] [] 0 [7,8,9,10] hC [pq h3]
theorem A7u:EN 119:=en Tryz.func119
theorem k58 (x0:Aa) (x1:Ab) (x2:Int) (r:Bool) (h:F58 x0 x1 x2=some r):CO 58 [.agg (d29 x0),.agg (d34 x1),.d (I x2)] [] (.d (Bo r)) []:=by
 unfold F58 at h
 refine co 20 Tryz.func58 λ C hC=>?_
 obtain⟨y1,h2,h⟩:=Aw h
 replace h:=sI h
 subst h
 exact wr [0,1,2,3,4,6,7] 27 [] [pc yZ (yN x0 x1 x2 _ h2) [],pl pI y1.1.Ac] [] 0 [] hC []
theorem e58:EN 58:=en Tryz.func58
def Agt:List Nat:=[0,1,2,3,4,6,7,9,11,20,21,22,23,29]
def Zo (y1:Aj×Bool) (n0:Nat) (z0:Int):St:=[(4,dO 0 0),(6,dI 0),(7,dO 1 0),(9,dI z0),(20,.d (DS pI y1.1.Af)),(21,dI (ln y1.1.Af)),(22,dI (cnt 0 n0))]
def Adu (x1:Ab) (y1:Aj×Bool) (n0:Nat) (z0:Int):List Res:=[.box 34 (d34 x1),.box 62 (d62 y1.1)]
def Arq  (z0:Int):St:=[(6,dI 0),(9,dI z0)]
def Avd  (z0:Int):List Res:=[]
theorem k87 (x0:Aa) (x1:Ab) (x2:Int) (r:Int) (h:F87 x0 x1 x2=some r):CO 87 [.agg (d29 x0),.agg (d34 x1),.d (I x2)] [] (.d (I r)) []:=by
 unfold F87 at h
 refine co 39 Tryz.func87 λ C hC=>?_
 obtain⟨y1,h2,h⟩:=Aw h
 refine ws Agt 30 [] [pc yZ (yN x0 x1 x2 _ h2) [],pl pI y1.1.Af] [] 0 [1,2] (Zo y1 0 0) (Adu x1 y1 0 0) hC [] ?_
 obtain⟨w0,hm0,hret0,hnext0⟩:=Av h
 clear h
 refine wc w0 (Arq) (Avd) ?_ λ z0 hs0=>?_
 ·refine wb ?_
  refine Bq 20 rfl λ hl0=>?_
  refine wl (Zo y1) (Adu x1 y1) hm0 (λ z0 hn0=>?_) λ n0 a0 z0 w0b hi0 hx0 h hb0 hr0=>?_
  ·clear hm0
   exact wx w0 (Arq) (Avd) Agt 26 [false] [] [] 0 [] _ hC [pq (A5 hl0)] hn0
  ·unfold uJ at h
   rcases cB h with⟨h3,h⟩ | ⟨h3,h⟩
   ·obtain⟨y4,h5,h⟩:=Aw h
    exact wx w0b (Zo y1 (n0+1)) (Adu x1 y1 (n0+1)) Agt 36 [true,true] [pt hx0 hl0,pl pI y1.1.Ac,pr pI h5] [] 0 [0,1] _ hC [pq (A4 hi0 hl0),pq h3] (sI h).symm
   ·exact wx w0b (Zo y1 (n0+1)) (Adu x1 y1 (n0+1)) Agt 36 [true,false] [pt hx0 hl0,pl pI y1.1.Ac] [] 0 [0,1] _ hC [pq (A4 hi0 hl0),pq h3] (sI h).symm
 ·have h:=hnext0 _ hs0
  replace h:=sI h
  subst h
  exact wr Agt 23 [] [] [] 0 [] hC []
theorem e87:EN 87:=en Tryz.func87
def An0:List Nat:=[0,1,2,3,4,6,7,9,11,20,21,22,23]
def Aet (y1:Aj×Bool) (n0:Nat) (z0:Int):St:=[(3,dO 0 0),(6,dI 0),(9,dI z0),(20,.d (DS pI y1.1.Ac)),(21,dI (ln y1.1.Ac)),(22,dI (cnt 0 n0))]
def Api (x0:Aa) (n0:Nat) (z0:Int):List Res:=[.box 29 (d29 x0)]
def Arp  (z0:Int):St:=[(6,dI 0),(9,dI z0)]
def Avc  (z0:Int):List Res:=[]
theorem k88 (x0:Aa) (x1:Ab) (x2:Int) (r:Int) (h:F88 x0 x1 x2=some r):CO 88 [.agg (d29 x0),.agg (d34 x1),.d (I x2)] [] (.d (I r)) []:=by
 unfold F88 at h
 refine co 36 Tryz.func88 λ C hC=>?_
 obtain⟨y1,h2,h⟩:=Aw h
 refine ws An0 30 [] [pc yZ (yN x0 x1 x2 _ h2) [],pl pI y1.1.Ac] [] 0 [0] (Aet y1 0 0) (Api x0 0 0) hC [] ?_
 obtain⟨w0,hm0,hret0,hnext0⟩:=Av h
 clear h
 refine wc w0 (Arp) (Avc) ?_ λ z0 hs0=>?_
 ·refine wb ?_
  refine Bq 20 rfl λ hl0=>?_
  refine wl (Aet y1) (Api x0) hm0 (λ z0 hn0=>?_) λ n0 a0 z0 w0b hi0 hx0 h hb0 hr0=>?_
  ·clear hm0
   exact wx w0 (Arp) (Avc) An0 26 [false] [] [] 0 [] _ hC [pq (A5 hl0)] hn0
  ·unfold Ajk at h
   obtain⟨y3,h4,h⟩:=Aw h
   exact wx w0b (Aet y1 (n0+1)) (Api x0 (n0+1)) An0 33 [true] [pt hx0 hl0,pr q98 h4] [] 0 [0] _ hC [pq (A4 hi0 hl0)] (sI h).symm
 ·have h:=hnext0 _ hs0
  replace h:=sI h
  subst h
  exact wr An0 23 [] [] [] 0 [] hC []
theorem e88:EN 88:=en Tryz.func88
def An5:List Nat:=[0,1,2,3,4,6,7,8,20]
theorem Axw (x0:Aa) (x1:Ab) (x2:Int) (r:Int×Bool) (h:L9 x0 x1 x2=some r):CO 143 [.agg (d29 x0),.agg (d34 x1),.d (I x2)] [] (.tup [.d (I r.1),.d (Bo r.2)]) []:=by
 unfold L9 at h
 refine co 25 Tryz.func143 λ C hC=>?_
 obtain⟨y1,h2,h⟩:=Aw h
 refine wn An5 28 [] [pc yZ (yN x0 x1 x2 _ h2) [],pl pI y1.1.Ac] [] 0 [2] [6,7,8,20] hC [] ?_
 rcases cB h with⟨h3,h⟩ | ⟨h3,h⟩
 ·replace h:=sI h
  subst h
  exact wr An5 24 [true] [] [] 0 [] hC [pq h3]
 ·obtain⟨y4,h5,h⟩:=Aw h
  replace h:=sI h
  subst h
  exact wr An5 25 [false] [pr pI h5] [] 0 [] hC [pq h3]
theorem Aye:EN 143:=en Tryz.func143
end Go.Proofs.YtcigbocngfaopaaGreat
