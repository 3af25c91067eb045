import Derived.Test.YtpdbkiafikdgpaaGreatDoorSlP
namespace Go.SL
section
variable {P:Program} {C:Ctx} {S S':Nat->Prop} {w w':World} {ρ ρ':List Value} {R R':List Res} {L L':List Ent} {a:Act}
structure Ac5 (P:Program) (n:Nat) (ops:Array Oper) (r:Rec):Prop where
 op:ops[r.i]? = some r.o
 guard:Kp ops r.need r.o=some r.cur
 cs:E5 r.need r.cur=some r.cs
 ev:r.fl=none->H8 P r.need r.cur r.Rin r.c r.o=some r.out
 flo:∀ i,r.fl=some i->jF P r.need r.cur r.Rin r.c i r.o=some r.out
 dst:∀ d,r.o.dst=some d->d<n/\r.cur.all (λ g=>!(Nat.beq g.1 d))=true
 nodst:r.o.dst=none->r.cur.isEmpty=true
 ok:∀ x,r.out.c=some x->(I4 r.cur r.r r.cs x).ok P
 gb:Mu r.need r.cur r.r r.c r.o=true
 eff:r.eff=(r.fl.isNone && !E7 r.c r.o)
def An2 (L:List Ent) (r:Rec):List Ent:=match r.o.dst with | some d=>Sv L d r.cur r.out.v | none=>L
def Ii (P:Program) (n:Nat) (ops:Array Oper):List Ent->List Res->List Rec->List Ent->List Res->Prop
 | L,R,[],L',R'=>L=L'/\R=R'
 | L,R,r::rs,L',R'=>Ac5 P n ops r/\r.Rin=R/\(∀ e,e∈r.need->e∈L)/\Ii P n ops (An2 L r) r.out.R rs L' R'
theorem Le:∀ {ts:List Nat} {e:Ent},e∈Ja L ts->e∈L
 | [],e,h=>by simp [Ja] at h
 | t :: ts, e, h => by
  simp only [Ja] at h
  split at h
  ·rename_i x hx
   rcases ah.1 h with rfl | h
   ·exact (Cq hx).1
   ·rcases az.1 h with h | h
    ·rw [List.mem_filterMap] at h
     obtain⟨g,_,hg⟩:=h
     exact (Cq hg).1
    ·exact Le h
  ·exact Le h
theorem P8 {n : Nat} {ops : Array Oper} : ∀ {is : List Nat} {L : List Ent} {R : List Res} {cls : List Cl} {rs : List Rec} {L' : List Ent} {R' : List Res} {ks : List Cl},
  Ss P n ops is L R cls=some (rs,L',R',ks)->Di P ks->Ii P n ops L R rs L' R'/\rs.map (·.i)=is
 | [],L,R,cls,rs,L',R',ks,h,_=>by
  simp [Ss] at h
  obtain⟨rfl,rfl,rfl,rfl⟩:=h
  exact⟨⟨rfl,rfl⟩,rfl⟩
 | i :: is, L, R, cls, rs, L', R', ks, h, hok => by
  simp only [Ss] at h
  split at h
  ·cases h
  ·rename_i o ho
   split at h
   ·cases h
   ·rename_i cur hcur
    split at h
    ·rename_i out cs e1 e2
     cases hb:(Aov n o cur&&Mu (Ja L (Vh ops o)) cur (isR (cls.headD .nop)) (E4 (cls.headD .nop)) o) with
     | false=>rw [hb] at h;simp at h
     | true=>
      rw [hb] at h
      simp only [ae] at hb
      obtain⟨hb,hgb⟩:=hb
      unfold Aov at hb
      simp only [cond_true] at h
      have hev1:Qp o (E4 (cls.headD .nop))=none->H8 P (Ja L (Vh ops o)) cur R (E4 (cls.headD .nop)) o=some out:=by
       intro hf
       unfold Aoq at e1
       rw [hf] at e1
       exact e1
      have hev2:∀ j,Qp o (E4 (cls.headD .nop))=some j->jF P (Ja L (Vh ops o)) cur R (E4 (cls.headD .nop)) j o=some out:=by
       intro j hf
       unfold Aoq at e1
       rw [hf] at e1
       exact e1
      have hdst:∀ d,o.dst=some d->d<n/\cur.all (λ g=>!(Nat.beq g.1 d))=true:=by
       intro d hd
       rw [hd] at hb
       simp only [ae] at hb
       exact⟨by have:=hb.1;simpa [Nat.blt_eq] using this,hb.2⟩
      have hnod:o.dst=none->cur.isEmpty=true:=by
       intro hd
       rw [hd] at hb
       exact hb
      split at h
      ·rename_i x hx
       split at h
       ·rename_i rs2 L2 R2 ks2 e3
        simp only [al,aQ] at h
        obtain⟨rfl,rfl,rfl,rfl⟩:=h
        obtain⟨g1,g2⟩:=P8 e3 hok.2
        exact⟨⟨⟨ho,hcur,e2,hev1,hev2,hdst,hnod,λ y hy=>(by rw [hx] at hy;cases hy;exact hok.1),hgb,rfl⟩,rfl,λ e he=>Le he,g1⟩,by simp [g2]⟩
       ·cases h
      ·rename_i hx
       split at h
       ·rename_i rs2 L2 R2 ks2 e3
        simp only [al,aQ] at h
        obtain⟨rfl,rfl,rfl,rfl⟩:=h
        obtain⟨g1,g2⟩:=P8 e3 hok
        exact⟨⟨⟨ho,hcur,e2,hev1,hev2,hdst,hnod,λ y hy=>(by rw [hx] at hy;cases hy),hgb,rfl⟩,rfl,λ e he=>Le he,g1⟩,by simp [g2]⟩
       ·cases h
    ·cases h
theorem Qq {L:List Ent} {cur:Ci} {c:Cl} {i:Nat} {o:Oper} {out:Out} (h:jF P L cur R c i o=some out) :
  (∃ t z cells r',o.op = .alloc t/\Dk P t=some z/\Ej z.cells.toList=some cells/\R[i]? = some r'/\out=⟨.d (.o i 0),R,some (.flt i (.box t cells) r')⟩) \/
  (∃ t l c0 o1 r1 r' c1,o.op = .makeSlice t l l/\R[i]? = some r'/\Kr P [] c0 t ((B0 L cur l).bind Cp)=some o1/\o1.R=[r1]/\o1.c=some c1/\out=⟨.d (.os i),R,some (.fltm i c1 r1 r')⟩):=by
 unfold jF at h
 split at h
 ·rename_i t l k ht
  split at h
  ·rename_i i0 c0 q1 q2 r' e1
   split at h
   ·rename_i o1 hs e2
    have hlk:l=k:=by
     unfold Jr at hs
     split at hs
     ·rw [ak hs]
     ·rw [eq_of_beq hs]
     ·cases hs
    subst hlk
    split at h
    ·rename_i r1 c1 e3 e4
     simp only [al] at h
     exact .inr ⟨t,l,c0,o1,r1,r',c1,ht,e1,e2,e3,e4,h.symm⟩
    ·cases h
   ·cases h
  ·cases h
 ·rename_i t ht
  split at h
  ·rename_i cells r' e1 e2
   simp at h
   cases hz:Dk P t with
   | none=>rw [hz] at e1;simp at e1
   | some z=>rw [hz] at e1;exact .inl ⟨t,z,cells,r',ht,hz,e1,e2,h.symm⟩
  ·cases h
 ·cases h
def Dd (X:Nat->Bool):List Res->List Rec->List Res
 | R,[]=>R
 | R,r::rs=>bif r.eff&&X r.i then Dd X r.out.R rs else Dd X R rs
theorem Gt {n:Nat} {ops:Array Oper} {r:Rec} (h:Ac5 P n ops r) (he:r.eff=false):r.out.R=r.Rin:=by
 have:=h.eff
 rw [he] at this
 cases hf:r.fl with
 | none=>
  rw [hf] at this
  exact (Wx (R':=r.Rin) (by simpa using this.symm) (λ _ _=>rfl) (h.ev hf)).1
 | some i=>
  rcases Qq (h.flo i hf) with⟨t,z,cells,r',_,_,_,_,e⟩ | ⟨t,l,c0,o1,r1,r',c1,_,_,_,_,_,e⟩ <;>
  rw [e]
def PC (X:Nat->Bool) (rs:List Rec):Prop:=∀ r q,r∈rs->q∈rs->r.eff=true->q.eff=true->r.i<q.i->X q.i=true->X r.i=true
def Gl (rs:List Rec):Prop:=rs.Pairwise λ r q=>r.i<q.i
theorem PC.tail {X:Nat->Bool} {r:Rec} {rs:List Rec} (h:PC X (r::rs)):PC X rs:=
 λ a b ha hb=>h a b (ai _ ha) (ai _ hb)
theorem Eu {X:Nat->Bool}:∀ {rs:List Rec} {R:List Res},(∀ r,r∈rs->r.eff=true->X r.i=false)->Dd X R rs=R
 | [],R,_=>rfl
 | r::rs,R,h=>by
  have ih:=Eu (R:=R) (λ q hq=>h q (ai _ hq))
  simp only [Dd]
  cases he:r.eff with
  | false=>simpa using ih
  | true=>rw [h r aj he];simpa using ih
theorem Jf {X:Nat->Bool} {r:Rec} {rs:List Rec} (hp:PC X (r::rs)) (hs:Gl (r::rs)) (he:r.eff=true) (hx:X r.i=false):∀ q,q∈rs->q.eff=true->X q.i=false:=by
 intro q hq hqe
 cases hxq:X q.i with
 | false=>rfl
 | true=>
  have:=hp r q aj (ai _ hq) he hqe ((bl.1 hs).1 q hq) hxq
  rw [hx] at this;cases this
theorem Aqw {r r':Rec} (h1:r.o=r'.o) (h2:r.need=r'.need) (h3:r.cur=r'.cur) (h4:r.c=r'.c) (h5:r.Rin=r'.Rin):C3 r=C3 r':=by
 unfold C3;rw [h1,h2,h3,h4,h5]
theorem Su {n:Nat} {ops:Array Oper} {r:Rec} (h:Ac5 P n ops r) {i:Nat} (hw:i∉C3 r) (hl:i<r.Rin.length):r.out.R[i]? = r.Rin[i]?:=by
 cases hf:r.fl with
 | none=>
  exact At0 (cs:=r.cs) (h.ev hf) hl (λ hm=>hw (by
   have e:C3 ⟨0,r.o,r.need,r.cur,r.cs,r.c,r.Rin,r.out,true,false,none⟩=C3 r:=Aqw rfl rfl rfl rfl rfl
   rw [←e];exact hm))
 | some j=>
  rcases Qq (h.flo j hf) with⟨t,z,cells,r',_,_,_,_,e⟩ | ⟨t,l,c0,o1,r1,r',c1,_,_,_,_,_,e⟩ <;>
  rw [e]
theorem N0 {n:Nat} {ops:Array Oper} {X:Nat->Bool} {i:Nat}:∀ {rs:List Rec} {L:List Ent} {R:List Res},Ii P n ops L R rs L' R'->Gl rs->PC X rs ->
  (∀ r,r∈rs->r.eff=true->X r.i=true->i∉C3 r/\i<r.Rin.length)->(Dd X R rs)[i]? = R[i]?
 | [],L,R,_,_,_,_=>rfl
 | r::rs,L,R,hc,hs,hp,h=>by
  obtain⟨hr,hR,_,hc'⟩:=hc
  simp only [Dd]
  cases he:r.eff with
  | false=>
   have hq:=Gt hr he
   rw [hq,hR] at hc'
   simpa using N0 hc' (bl.1 hs).2 hp.tail (λ q hq=>h q (ai _ hq))
  | true=>
   cases hx:X r.i with
   | false=>
    simp only [Bool.and_false,cond_false]
    rw [Eu (Jf hp hs he hx)]
   | true=>
    simp only [cy,cond_true]
    rw [N0 hc' (bl.1 hs).2 hp.tail (λ q hq=>h q (ai _ hq))]
    obtain⟨g1,g2⟩:=h r aj he hx
    rw [Su hr g1 g2,hR]
theorem X_ {n:Nat} {ops:Array Oper} {X Y:Nat->Bool} {i:Nat}:∀ {rs:List Rec} {L:List Ent} {R:List Res},Ii P n ops L R rs L' R'->Gl rs->PC X rs->PC Y rs ->
  (∀ r,r∈rs->r.eff=true->X r.i≠Y r.i->i∉C3 r/\i<r.Rin.length)->(Dd X R rs)[i]? = (Dd Y R rs)[i]?
 | [],L,R,_,_,_,_,_=>rfl
 | r :: rs, L, R, hc, hs, hp, hq, h => by
  obtain⟨hr,hR,_,hc'⟩:=hc
  have hs':=(bl.1 hs).2
  simp only [Dd]
  cases he:r.eff with
  | false=>
   have hq':=Gt hr he
   rw [hq',hR] at hc'
   simpa using X_ hc' hs' hp.tail hq.tail (λ q hq=>h q (ai _ hq))
  | true=>
   cases hx:X r.i with
   | false=>
    cases hy:Y r.i with
    | false=>
     simp only [Bool.and_false,cond_false]
     rw [Eu (Jf hp hs he hx),Eu (Jf hq hs he hy)]
    | true=>
     simp only [Bool.and_false,cond_false,cy,cond_true]
     have hl:=Jf hp hs he hx
     rw [Eu hl,N0 hc' hs' hq.tail λ q hq2 hqe hqy=>h q (ai _ hq2) hqe (by rw [hl q hq2 hqe,hqy];simp)]
     obtain⟨g1,g2⟩:=h r aj he (by rw [hx,hy];simp)
     rw [Su hr g1 g2,hR]
   | true=>
    cases hy:Y r.i with
    | true=>
     simp only [cy,cond_true]
     exact X_ hc' hs' hp.tail hq.tail (λ q hq=>h q (ai _ hq))
    | false=>
     simp only [Bool.and_false,cond_false,cy,cond_true]
     have hl:=Jf hq hs he hy
     rw [Eu hl,N0 hc' hs' hp.tail λ q hq2 hqe hqx=>h q (ai _ hq2) hqe (by rw [hl q hq2 hqe,hqx];simp)]
     obtain⟨g1,g2⟩:=h r aj he (by rw [hx,hy];simp)
     rw [Su hr g1 g2,hR]
theorem Jk {X Y:Nat->Bool}:∀ {rs:List Rec} {R:List Res},(∀ r,r∈rs->r.eff=true->X r.i=Y r.i)->Dd X R rs=Dd Y R rs
 | [],_,_=>rfl
 | r::rs,R,h=>by
  simp only [Dd]
  cases he:r.eff with
  | false=>simpa using Jk (λ q hq=>h q (ai _ hq))
  | true=>
   rw [h r aj he]
   cases Y r.i <;> simpa using Jk (λ q hq=>h q (ai _ hq))
theorem V3 {n:Nat} {ops:Array Oper} {q:Rec}:∀ {rs:List Rec} {L:List Ent} {R:List Res},Ii P n ops L R rs L' R'->Gl rs->q∈rs->Dd (λ i=>Nat.blt i q.i) R rs=q.Rin
 | [],L,R,_,_,h=>by cases h
 | r::rs,L,R,hc,hs,hq=>by
  obtain⟨hr,hR,_,hc'⟩:=hc
  have hs':=(bl.1 hs).2
  have hlt:=(bl.1 hs).1
  rcases ah.1 hq with rfl | hq
  ·rw [hR]
   refine Eu λ x hx _=>?_
   rcases ah.1 hx with rfl | hx
   ·cases hb:Nat.blt x.i x.i with
    | false=>rfl
    | true=>rw [bt] at hb;omega
   ·have:=hlt x hx
    cases hb:Nat.blt x.i q.i with
    | false=>rfl
    | true=>rw [bt] at hb;omega
  ·have h1:Nat.blt r.i q.i=true:=by rw [bt];exact hlt q hq
   simp only [Dd,h1,bK]
   cases he:r.eff with
   | false=>
    have hq':=Gt hr he
    rw [hq',hR] at hc'
    exact V3 hc' hs' hq
   | true=>exact V3 hc' hs' hq
theorem Oi {n:Nat} {ops:Array Oper} {q:Rec}:∀ {rs:List Rec} {L:List Ent} {R:List Res},Ii P n ops L R rs L' R'->Gl rs->q∈rs->Dd (λ i=>Nat.ble i q.i) R rs=q.out.R
 | [],L,R,_,_,h=>by cases h
 | r::rs,L,R,hc,hs,hq=>by
  obtain⟨hr,hR,_,hc'⟩:=hc
  have hs':=(bl.1 hs).2
  have hlt:=(bl.1 hs).1
  rcases ah.1 hq with rfl | hq
  ·have h1:Nat.ble q.i q.i=true:=by simp
   have hno:∀ x,x∈rs->x.eff=true->Nat.ble x.i q.i=false:=by
    intro x hx _
    have:=hlt x hx
    cases hb:Nat.ble x.i q.i with
    | false=>rfl
    | true=>have:=bm hb;omega
   simp only [Dd,h1,bK]
   cases he:q.eff with
   | false=>simp only [cond_false];rw [Eu hno,Gt hr he,hR]
   | true=>simp only [cond_true];rw [Eu hno]
  ·have h1:Nat.ble r.i q.i=true:=by have:=hlt q hq;exact Nat.ble_eq_true_of_le (by omega)
   simp only [Dd,h1,bK]
   cases he:r.eff with
   | false=>
    have hq':=Gt hr he
    rw [hq',hR] at hc'
    exact Oi hc' hs' hq
   | true=>exact Oi hc' hs' hq
theorem Ya {n:Nat} {ops:Array Oper} {X:Nat->Bool}:∀ {rs:List Rec} {L:List Ent} {R:List Res},Ii P n ops L R rs L' R'->(∀ r,r∈rs->X r.i=true)->Dd X R rs=R'
 | [],L,R,hc,_=>hc.2
 | r::rs,L,R,hc,h=>by
  obtain⟨hr,hR,_,hc'⟩:=hc
  simp only [Dd,h r aj,bK]
  cases he:r.eff with
  | false=>
   have hq':=Gt hr he
   rw [hq',hR] at hc'
   exact Ya hc' (λ q hq=>h q (ai _ hq))
  | true=>exact Ya hc' (λ q hq=>h q (ai _ hq))
theorem N1 {n:Nat} {ops:Array Oper} {q:Rec}:∀ {rs:List Rec} {L:List Ent} {R:List Res},Ii P n ops L R rs L' R'->q∈rs->Ac5 P n ops q
 | [],L,R,_,h=>by cases h
 | r::rs,L,R,hc,hq=>by
  rcases ah.1 hq with rfl | hq
  ·exact hc.1
  ·exact N1 hc.2.2.2 hq
def I3 (q:Rec) (e:Ent):Prop:=∀ d,q.o.dst=some d->d≠e.t/\∀ g,g∈e.p->g.1≠d
def Aqs (rs:List Rec) (L0:List Ent) (X:Nat->Bool) (e:Ent):Prop:=
 (e∈L0/\∀ q,q∈rs->X q.i=true->I3 q e) \/
 (∃ r,r∈rs/\X r.i=true/\r.o.dst=some e.t/\e.p=r.cur/\e.v=r.out.v/\∀ q,q∈rs->r.i<q.i->X q.i=true->I3 q e)
theorem jU {n:Nat} {ops:Array Oper}:∀ {rs:List Rec} {L:List Ent} {R:List Res},Ii P n ops L R rs L' R'->Gl rs->∀ e,e∈L' ->
  (e∈L/\∀ q,q∈rs->I3 q e)\/(∃ r,r∈rs/\r.o.dst=some e.t/\e.p=r.cur/\e.v=r.out.v/\∀ q,q∈rs->r.i<q.i->I3 q e)
 | [],L,R,hc,_,e,he=>by
  have:=hc.1;subst this
  exact .inl ⟨he,λ q hq=>by cases hq⟩
 | r :: rs, L, R, hc, hs, e, he => by
  obtain⟨hr,hR,_,hc'⟩:=hc
  have hs':=(bl.1 hs).2
  have hlt:=(bl.1 hs).1
  rcases jU hc' hs' e he with⟨h1,h2⟩ | ⟨x,h1,h2,h3,h4,h5⟩
  ·unfold An2 at h1
   cases hd:r.o.dst with
   | none=>
    rw [hd] at h1
    refine .inl ⟨h1,λ q hq=>?_⟩
    rcases ah.1 hq with rfl | hq
    ·intro d hd';rw [hd] at hd';cases hd'
    ·exact h2 q hq
   | some d=>
    rw [hd] at h1
    unfold Sv at h1
    rcases ah.1 h1 with rfl | h1
    ·refine .inr ⟨r,aj,hd,rfl,rfl,λ q hq hlt'=>?_⟩
     rcases ah.1 hq with rfl | hq
     ·omega
     ·exact h2 q hq
    ·rw [aF] at h1
     obtain⟨h1,hf⟩:=h1
     simp only [ae] at hf
     refine .inl ⟨h1,λ q hq=>?_⟩
     rcases ah.1 hq with rfl | hq
     ·intro d' hd'
      rw [hd] at hd';cases hd'
      refine⟨λ e'=>?_,λ g hg e'=>?_⟩
      ·subst e';simp at hf
      ·have:=(aT.1 hf.2) g hg
       subst e';simp at this
     ·exact h2 q hq
  ·refine .inr ⟨x,ai _ h1,h2,h3,h4,λ q hq hlt'=>?_⟩
   rcases ah.1 hq with rfl | hq
   ·have:=hlt x h1;omega
   ·exact h5 q hq hlt'
theorem jT {n : Nat} {ops : Array Oper} {q : Rec} : ∀ {rs : List Rec} {L : List Ent} {R : List Res}, Ii P n ops L R rs L' R' -> Gl rs -> q ∈ rs -> ∀ e, e ∈ q.need ->
  (e∈L/\∀ x,x∈rs->x.i<q.i->I3 x e)\/(∃ r,r∈rs/\r.i<q.i/\r.o.dst=some e.t/\e.p=r.cur/\e.v=r.out.v/\∀ x,x∈rs->r.i<x.i->x.i<q.i->I3 x e)
 | [],L,R,_,_,h,_,_=>by cases h
 | r :: rs, L, R, hc, hs, hq, e, he => by
  obtain⟨hr,hR,hn,hc'⟩:=hc
  have hs':=(bl.1 hs).2
  have hlt:=(bl.1 hs).1
  rcases ah.1 hq with rfl | hq
  ·refine .inl ⟨hn e he,λ x hx hlt'=>?_⟩
   rcases ah.1 hx with rfl | hx
   ·omega
   ·have:=hlt x hx;omega
  ·rcases jT hc' hs' hq e he with⟨h1,h2⟩ | ⟨x,h1,h1',h2,h3,h4,h5⟩
   ·unfold An2 at h1
    cases hd:r.o.dst with
    | none=>
     rw [hd] at h1
     refine .inl ⟨h1,λ q' hq' hl=>?_⟩
     rcases ah.1 hq' with rfl | hq'
     ·intro d hd';rw [hd] at hd';cases hd'
     ·exact h2 q' hq' hl
    | some d=>
     rw [hd] at h1
     unfold Sv at h1
     rcases ah.1 h1 with rfl | h1
     ·refine .inr ⟨r,aj,hlt q hq,hd,rfl,rfl,λ q' hq' hlt' hl=>?_⟩
      rcases ah.1 hq' with rfl | hq'
      ·omega
      ·exact h2 q' hq' hl
     ·rw [aF] at h1
      obtain⟨h1,hf⟩:=h1
      simp only [ae] at hf
      refine .inl ⟨h1,λ q' hq' hl=>?_⟩
      rcases ah.1 hq' with rfl | hq'
      ·intro d' hd'
       rw [hd] at hd';cases hd'
       refine⟨λ e'=>?_,λ g hg e'=>?_⟩
       ·subst e';simp at hf
       ·have:=(aT.1 hf.2) g hg
        subst e';simp at this
      ·exact h2 q' hq' hl
   ·refine .inr ⟨x,ai _ h1,h1',h2,h3,h4,λ q' hq' hlt' hl=>?_⟩
    rcases ah.1 hq' with rfl | hq'
    ·have:=hlt x h1;omega
    ·exact h5 q' hq' hlt' hl
end
end Go.SL
