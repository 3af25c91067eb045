import Derived.Test.YtaplakgdkkmpfaaGreatDoorSlP
namespace Go.SL
section
variable {P:Program} {C:Ctx} {S S':Nat->Prop} {w w':World} {ρ ρ':List Value} {R R':List Res} {L L':List Ent} {a:Act}
structure Pt (P:Program) (n:Nat) (ops:Array Oper) (r:Rec):Prop where
 op:ops[r.i]? = some r.o
 guard:Fj ops r.need r.o=some r.cur
 cs:Cq r.need r.cur=some r.cs
 ev:r.fl=none->Dw P r.need r.cur r.Rin r.c r.o=some r.out
 flo:∀ i,r.fl=some i->Nc P r.need r.cur r.Rin r.c i r.o=some r.out
 dst:∀ d,r.o.dst=some d->d<n/\r.cur.all (λ g=>!(Nat.beq g.1 d))=true
 nodst:r.o.dst=none->r.cur.isEmpty=true
 ok:∀ x,r.out.c=some x->(El r.cur r.r r.cs x).ok P
 gb:Gv r.need r.cur r.r r.c r.o=true
 eff:r.eff=(r.fl.isNone && !Ck r.c r.o)
def Ua (L:List Ent) (r:Rec):List Ent:=match r.o.dst with | some d=>Jt L d r.cur r.out.v | none=>L
def D7 (P:Program) (n:Nat) (ops:Array Oper):List Ent->List Res->List Rec->List Ent->List Res->Prop
 | L,R,[],L',R'=>L=L'/\R=R'
 | L,R,r::rs,L',R'=>Pt P n ops r/\r.Rin=R/\(∀ e,e∈r.need->e∈L)/\D7 P n ops (Ua L r) r.out.R rs L' R'
theorem F1:∀ {ts:List Nat} {e:Ent},e∈Es L ts->e∈L
 | [],e,h=>by simp [Es] at h
 | t :: ts, e, h => by
  simp only [Es] at h
  split at h
  ·rename_i x hx
   rcases ag.1 h with rfl | h
   ·exact (Bi hx).1
   ·rcases az.1 h with h | h
    ·rw [List.mem_filterMap] at h
     obtain⟨g,_,hg⟩:=h
     exact (Bi hg).1
    ·exact F1 h
  ·exact F1 h
theorem Is {n : Nat} {ops : Array Oper} : ∀ {is : List Nat} {L : List Ent} {R : List Res} {cls : List Cl} {rs : List Rec} {L' : List Ent} {R' : List Res} {ks : List Cl},
  Jr P n ops is L R cls=some (rs,L',R',ks)->B1 P ks->D7 P n ops L R rs L' R'/\rs.map (·.i)=is
 | [],L,R,cls,rs,L',R',ks,h,_=>by
  simp [Jr] at h
  obtain⟨rfl,rfl,rfl,rfl⟩:=h
  exact⟨⟨rfl,rfl⟩,rfl⟩
 | i :: is, L, R, cls, rs, L', R', ks, h, hok => by
  simp only [Jr] at h
  split at h
  ·cases h
  ·rename_i o ho
   split at h
   ·cases h
   ·rename_i cur hcur
    split at h
    ·rename_i out cs e1 e2
     cases hb:(Uu n o cur&&Gv (Es L (Ku ops o)) cur (isR (cls.headD .nop)) (Cp (cls.headD .nop)) o) with
     | false=>rw [hb] at h;simp at h
     | true=>
      rw [hb] at h
      simp only [af] at hb
      obtain⟨hb,hgb⟩:=hb
      unfold Uu at hb
      simp only [cond_true] at h
      have hev1:I3 o (Cp (cls.headD .nop))=none->Dw P (Es L (Ku ops o)) cur R (Cp (cls.headD .nop)) o=some out:=by
       intro hf
       unfold Us at e1
       rw [hf] at e1
       exact e1
      have hev2:∀ j,I3 o (Cp (cls.headD .nop))=some j->Nc P (Es L (Ku ops o)) cur R (Cp (cls.headD .nop)) j o=some out:=by
       intro j hf
       unfold Us at e1
       rw [hf] at e1
       exact e1
      have hdst:∀ d,o.dst=some d->d<n/\cur.all (λ g=>!(Nat.beq g.1 d))=true:=by
       intro d hd
       rw [hd] at hb
       simp only [af] at hb
       exact⟨by have:=hb.1;simpa [Nat.blt_eq] using this,hb.2⟩
      have hnod:o.dst=none->cur.isEmpty=true:=by
       intro hd
       rw [hd] at hb
       exact hb
      split at h
      ·rename_i x hx
       split at h
       ·rename_i rs2 L2 R2 ks2 e3
        simp only [ah,aw] at h
        obtain⟨rfl,rfl,rfl,rfl⟩:=h
        obtain⟨g1,g2⟩:=Is e3 hok.2
        exact⟨⟨⟨ho,hcur,e2,hev1,hev2,hdst,hnod,λ y hy=>(by rw [hx] at hy;cases hy;exact hok.1),hgb,rfl⟩,rfl,λ e he=>F1 he,g1⟩,by simp [g2]⟩
       ·cases h
      ·rename_i hx
       split at h
       ·rename_i rs2 L2 R2 ks2 e3
        simp only [ah,aw] at h
        obtain⟨rfl,rfl,rfl,rfl⟩:=h
        obtain⟨g1,g2⟩:=Is e3 hok
        exact⟨⟨⟨ho,hcur,e2,hev1,hev2,hdst,hnod,λ y hy=>(by rw [hx] at hy;cases hy),hgb,rfl⟩,rfl,λ e he=>F1 he,g1⟩,by simp [g2]⟩
       ·cases h
    ·cases h
theorem I6 {L:List Ent} {cur:A6} {c:Cl} {i:Nat} {o:Oper} {out:Out} (h:Nc P L cur R c i o=some out) :
  (∃ t z cells r',o.op = .alloc t/\By P t=some z/\Cc z.cells.toList=some cells/\R[i]? = some r'/\out=⟨.d (.o i 0),R,some (.flt i (.box t cells) r')⟩) \/
  (∃ t l c0 o1 r1 r' c1,o.op = .makeSlice t l l/\R[i]? = some r'/\Fo P [] c0 t ((Am L cur l).bind A0)=some o1/\o1.R=[r1]/\o1.c=some c1/\out=⟨.d (.os i),R,some (.fltm i c1 r1 r')⟩):=by
 unfold Nc at h
 split at h
 ·rename_i t l k ht
  split at h
  ·rename_i i0 c0 q1 q2 r' e1
   split at h
   ·rename_i o1 hs e2
    have hlk:l=k:=by
     unfold E5 at hs
     split at hs
     ·rw [ac hs]
     ·rw [eq_of_beq hs]
     ·cases hs
    subst hlk
    split at h
    ·rename_i r1 c1 e3 e4
     simp only [ah] at h
     exact .inr ⟨t,l,c0,o1,r1,r',c1,ht,e1,e2,e3,e4,h.symm⟩
    ·cases h
   ·cases h
  ·cases h
 ·rename_i t ht
  split at h
  ·rename_i cells r' e1 e2
   simp at h
   cases hz:By P t with
   | none=>rw [hz] at e1;simp at e1
   | some z=>rw [hz] at e1;exact .inl ⟨t,z,cells,r',ht,hz,e1,e2,h.symm⟩
  ·cases h
 ·cases h
def Bs (X:Nat->Bool):List Res->List Rec->List Res
 | R,[]=>R
 | R,r::rs=>bif r.eff&&X r.i then Bs X r.out.R rs else Bs X R rs
theorem Dc {n:Nat} {ops:Array Oper} {r:Rec} (h:Pt P n ops r) (he:r.eff=false):r.out.R=r.Rin:=by
 have:=h.eff
 rw [he] at this
 cases hf:r.fl with
 | none=>
  rw [hf] at this
  exact (Li (R':=r.Rin) (by simpa using this.symm) (λ _ _=>rfl) (h.ev hf)).1
 | some i=>
  rcases I6 (h.flo i hf) with⟨t,z,cells,r',_,_,_,_,e⟩ | ⟨t,l,c0,o1,r1,r',c1,_,_,_,_,_,e⟩ <;>
  rw [e]
def PC (X:Nat->Bool) (rs:List Rec):Prop:=∀ r q,r∈rs->q∈rs->r.eff=true->q.eff=true->r.i<q.i->X q.i=true->X r.i=true
def E0 (rs:List Rec):Prop:=rs.Pairwise λ r q=>r.i<q.i
theorem PC.tail {X:Nat->Bool} {r:Rec} {rs:List Rec} (h:PC X (r::rs)):PC X rs:=
 λ a b ha hb=>h a b (ai _ ha) (ai _ hb)
theorem Ci {X:Nat->Bool}:∀ {rs:List Rec} {R:List Res},(∀ r,r∈rs->r.eff=true->X r.i=false)->Bs X R rs=R
 | [],R,_=>rfl
 | r::rs,R,h=>by
  have ih:=Ci (R:=R) (λ q hq=>h q (ai _ hq))
  simp only [Bs]
  cases he:r.eff with
  | false=>simpa using ih
  | true=>rw [h r ak he];simpa using ih
theorem Eu {X:Nat->Bool} {r:Rec} {rs:List Rec} (hp:PC X (r::rs)) (hs:E0 (r::rs)) (he:r.eff=true) (hx:X r.i=false):∀ q,q∈rs->q.eff=true->X q.i=false:=by
 intro q hq hqe
 cases hxq:X q.i with
 | false=>rfl
 | true=>
  have:=hp r q ak (ai _ hq) he hqe ((aU.1 hs).1 q hq) hxq
  rw [hx] at this;cases this
theorem Vv {r r':Rec} (h1:r.o=r'.o) (h2:r.need=r'.need) (h3:r.cur=r'.cur) (h4:r.c=r'.c) (h5:r.Rin=r'.Rin):Bg r=Bg r':=by
 unfold Bg;rw [h1,h2,h3,h4,h5]
theorem Js {n:Nat} {ops:Array Oper} {r:Rec} (h:Pt P n ops r) {i:Nat} (hw:i∉Bg r) (hl:i<r.Rin.length):r.out.R[i]? = r.Rin[i]?:=by
 cases hf:r.fl with
 | none=>
  exact Xa (cs:=r.cs) (h.ev hf) hl (λ hm=>hw (by
   have e:Bg ⟨0,r.o,r.need,r.cur,r.cs,r.c,r.Rin,r.out,true,false,none⟩=Bg r:=Vv rfl rfl rfl rfl rfl
   rw [←e];exact hm))
 | some j=>
  rcases I6 (h.flo j hf) with⟨t,z,cells,r',_,_,_,_,e⟩ | ⟨t,l,c0,o1,r1,r',c1,_,_,_,_,_,e⟩ <;>
  rw [e]
theorem Hb {n:Nat} {ops:Array Oper} {X:Nat->Bool} {i:Nat}:∀ {rs:List Rec} {L:List Ent} {R:List Res},D7 P n ops L R rs L' R'->E0 rs->PC X rs ->
  (∀ r,r∈rs->r.eff=true->X r.i=true->i∉Bg r/\i<r.Rin.length)->(Bs X R rs)[i]? = R[i]?
 | [],L,R,_,_,_,_=>rfl
 | r::rs,L,R,hc,hs,hp,h=>by
  obtain⟨hr,hR,_,hc'⟩:=hc
  simp only [Bs]
  cases he:r.eff with
  | false=>
   have hq:=Dc hr he
   rw [hq,hR] at hc'
   simpa using Hb hc' (aU.1 hs).2 hp.tail (λ q hq=>h q (ai _ hq))
  | true=>
   cases hx:X r.i with
   | false=>
    simp only [Bool.and_false,cond_false]
    rw [Ci (Eu hp hs he hx)]
   | true=>
    simp only [Bool.and_self,cond_true]
    rw [Hb hc' (aU.1 hs).2 hp.tail (λ q hq=>h q (ai _ hq))]
    obtain⟨g1,g2⟩:=h r ak he hx
    rw [Js hr g1 g2,hR]
theorem Me {n:Nat} {ops:Array Oper} {X Y:Nat->Bool} {i:Nat}:∀ {rs:List Rec} {L:List Ent} {R:List Res},D7 P n ops L R rs L' R'->E0 rs->PC X rs->PC Y rs ->
  (∀ r,r∈rs->r.eff=true->X r.i≠Y r.i->i∉Bg r/\i<r.Rin.length)->(Bs X R rs)[i]? = (Bs Y R rs)[i]?
 | [],L,R,_,_,_,_,_=>rfl
 | r :: rs, L, R, hc, hs, hp, hq, h => by
  obtain⟨hr,hR,_,hc'⟩:=hc
  have hs':=(aU.1 hs).2
  simp only [Bs]
  cases he:r.eff with
  | false=>
   have hq':=Dc hr he
   rw [hq',hR] at hc'
   simpa using Me hc' hs' hp.tail hq.tail (λ q hq=>h q (ai _ hq))
  | true=>
   cases hx:X r.i with
   | false=>
    cases hy:Y r.i with
    | false=>
     simp only [Bool.and_false,cond_false]
     rw [Ci (Eu hp hs he hx),Ci (Eu hq hs he hy)]
    | true=>
     simp only [Bool.and_false,cond_false,Bool.and_self,cond_true]
     have hl:=Eu hp hs he hx
     rw [Ci hl,Hb hc' hs' hq.tail λ q hq2 hqe hqy=>h q (ai _ hq2) hqe (by rw [hl q hq2 hqe,hqy];simp)]
     obtain⟨g1,g2⟩:=h r ak he (by rw [hx,hy];simp)
     rw [Js hr g1 g2,hR]
   | true=>
    cases hy:Y r.i with
    | true=>
     simp only [Bool.and_self,cond_true]
     exact Me hc' hs' hp.tail hq.tail (λ q hq=>h q (ai _ hq))
    | false=>
     simp only [Bool.and_false,cond_false,Bool.and_self,cond_true]
     have hl:=Eu hq hs he hy
     rw [Ci hl,Hb hc' hs' hp.tail λ q hq2 hqe hqx=>h q (ai _ hq2) hqe (by rw [hl q hq2 hqe,hqx];simp)]
     obtain⟨g1,g2⟩:=h r ak he (by rw [hx,hy];simp)
     rw [Js hr g1 g2,hR]
theorem Ey {X Y:Nat->Bool}:∀ {rs:List Rec} {R:List Res},(∀ r,r∈rs->r.eff=true->X r.i=Y r.i)->Bs X R rs=Bs Y R rs
 | [],_,_=>rfl
 | r::rs,R,h=>by
  simp only [Bs]
  cases he:r.eff with
  | false=>simpa using Ey (λ q hq=>h q (ai _ hq))
  | true=>
   rw [h r ak he]
   cases Y r.i <;> simpa using Ey (λ q hq=>h q (ai _ hq))
theorem K3 {n:Nat} {ops:Array Oper} {q:Rec}:∀ {rs:List Rec} {L:List Ent} {R:List Res},D7 P n ops L R rs L' R'->E0 rs->q∈rs->Bs (λ i=>Nat.blt i q.i) R rs=q.Rin
 | [],L,R,_,_,h=>by cases h
 | r::rs,L,R,hc,hs,hq=>by
  obtain⟨hr,hR,_,hc'⟩:=hc
  have hs':=(aU.1 hs).2
  have hlt:=(aU.1 hs).1
  rcases ag.1 hq with rfl | hq
  ·rw [hR]
   refine Ci λ x hx _=>?_
   rcases ag.1 hx with rfl | hx
   ·cases hb:Nat.blt x.i x.i with
    | false=>rfl
    | true=>rw [bc] at hb;omega
   ·have:=hlt x hx
    cases hb:Nat.blt x.i q.i with
    | false=>rfl
    | true=>rw [bc] at hb;omega
  ·have h1:Nat.blt r.i q.i=true:=by rw [bc];exact hlt q hq
   simp only [Bs,h1,aS]
   cases he:r.eff with
   | false=>
    have hq':=Dc hr he
    rw [hq',hR] at hc'
    exact K3 hc' hs' hq
   | true=>exact K3 hc' hs' hq
theorem Hn {n:Nat} {ops:Array Oper} {q:Rec}:∀ {rs:List Rec} {L:List Ent} {R:List Res},D7 P n ops L R rs L' R'->E0 rs->q∈rs->Bs (λ i=>Nat.ble i q.i) R rs=q.out.R
 | [],L,R,_,_,h=>by cases h
 | r::rs,L,R,hc,hs,hq=>by
  obtain⟨hr,hR,_,hc'⟩:=hc
  have hs':=(aU.1 hs).2
  have hlt:=(aU.1 hs).1
  rcases ag.1 hq with rfl | hq
  ·have h1:Nat.ble q.i q.i=true:=by simp
   have hno:∀ x,x∈rs->x.eff=true->Nat.ble x.i q.i=false:=by
    intro x hx _
    have:=hlt x hx
    cases hb:Nat.ble x.i q.i with
    | false=>rfl
    | true=>have:=aT hb;omega
   simp only [Bs,h1,aS]
   cases he:q.eff with
   | false=>simp only [cond_false];rw [Ci hno,Dc hr he,hR]
   | true=>simp only [cond_true];rw [Ci hno]
  ·have h1:Nat.ble r.i q.i=true:=by have:=hlt q hq;exact Nat.ble_eq_true_of_le (by omega)
   simp only [Bs,h1,aS]
   cases he:r.eff with
   | false=>
    have hq':=Dc hr he
    rw [hq',hR] at hc'
    exact Hn hc' hs' hq
   | true=>exact Hn hc' hs' hq
theorem Mf {n:Nat} {ops:Array Oper} {X:Nat->Bool}:∀ {rs:List Rec} {L:List Ent} {R:List Res},D7 P n ops L R rs L' R'->(∀ r,r∈rs->X r.i=true)->Bs X R rs=R'
 | [],L,R,hc,_=>hc.2
 | r::rs,L,R,hc,h=>by
  obtain⟨hr,hR,_,hc'⟩:=hc
  simp only [Bs,h r ak,aS]
  cases he:r.eff with
  | false=>
   have hq':=Dc hr he
   rw [hq',hR] at hc'
   exact Mf hc' (λ q hq=>h q (ai _ hq))
  | true=>exact Mf hc' (λ q hq=>h q (ai _ hq))
theorem Hc {n:Nat} {ops:Array Oper} {q:Rec}:∀ {rs:List Rec} {L:List Ent} {R:List Res},D7 P n ops L R rs L' R'->q∈rs->Pt P n ops q
 | [],L,R,_,h=>by cases h
 | r::rs,L,R,hc,hq=>by
  rcases ag.1 hq with rfl | hq
  ·exact hc.1
  ·exact Hc hc.2.2.2 hq
def Ek (q:Rec) (e:Ent):Prop:=∀ d,q.o.dst=some d->d≠e.t/\∀ g,g∈e.p->g.1≠d
def Vt (rs:List Rec) (L0:List Ent) (X:Nat->Bool) (e:Ent):Prop:=
 (e∈L0/\∀ q,q∈rs->X q.i=true->Ek q e) \/
 (∃ r,r∈rs/\X r.i=true/\r.o.dst=some e.t/\e.p=r.cur/\e.v=r.out.v/\∀ q,q∈rs->r.i<q.i->X q.i=true->Ek q e)
theorem Nr {n:Nat} {ops:Array Oper}:∀ {rs:List Rec} {L:List Ent} {R:List Res},D7 P n ops L R rs L' R'->E0 rs->∀ e,e∈L' ->
  (e∈L/\∀ q,q∈rs->Ek q e)\/(∃ r,r∈rs/\r.o.dst=some e.t/\e.p=r.cur/\e.v=r.out.v/\∀ q,q∈rs->r.i<q.i->Ek q e)
 | [],L,R,hc,_,e,he=>by
  have:=hc.1;subst this
  exact .inl ⟨he,λ q hq=>by cases hq⟩
 | r :: rs, L, R, hc, hs, e, he => by
  obtain⟨hr,hR,_,hc'⟩:=hc
  have hs':=(aU.1 hs).2
  have hlt:=(aU.1 hs).1
  rcases Nr hc' hs' e he with⟨h1,h2⟩ | ⟨x,h1,h2,h3,h4,h5⟩
  ·unfold Ua at h1
   cases hd:r.o.dst with
   | none=>
    rw [hd] at h1
    refine .inl ⟨h1,λ q hq=>?_⟩
    rcases ag.1 hq with rfl | hq
    ·intro d hd';rw [hd] at hd';cases hd'
    ·exact h2 q hq
   | some d=>
    rw [hd] at h1
    unfold Jt at h1
    rcases ag.1 h1 with rfl | h1
    ·refine .inr ⟨r,ak,hd,rfl,rfl,λ q hq hlt'=>?_⟩
     rcases ag.1 hq with rfl | hq
     ·omega
     ·exact h2 q hq
    ·rw [List.mem_filter] at h1
     obtain⟨h1,hf⟩:=h1
     simp only [af] at hf
     refine .inl ⟨h1,λ q hq=>?_⟩
     rcases ag.1 hq with rfl | hq
     ·intro d' hd'
      rw [hd] at hd';cases hd'
      refine⟨λ e'=>?_,λ g hg e'=>?_⟩
      ·subst e';simp at hf
      ·have:=(aM.1 hf.2) g hg
       subst e';simp at this
     ·exact h2 q hq
  ·refine .inr ⟨x,ai _ h1,h2,h3,h4,λ q hq hlt'=>?_⟩
   rcases ag.1 hq with rfl | hq
   ·have:=hlt x h1;omega
   ·exact h5 q hq hlt'
theorem Nq {n : Nat} {ops : Array Oper} {q : Rec} : ∀ {rs : List Rec} {L : List Ent} {R : List Res}, D7 P n ops L R rs L' R' -> E0 rs -> q ∈ rs -> ∀ e, e ∈ q.need ->
  (e∈L/\∀ x,x∈rs->x.i<q.i->Ek x e)\/(∃ r,r∈rs/\r.i<q.i/\r.o.dst=some e.t/\e.p=r.cur/\e.v=r.out.v/\∀ x,x∈rs->r.i<x.i->x.i<q.i->Ek x e)
 | [],L,R,_,_,h,_,_=>by cases h
 | r :: rs, L, R, hc, hs, hq, e, he => by
  obtain⟨hr,hR,hn,hc'⟩:=hc
  have hs':=(aU.1 hs).2
  have hlt:=(aU.1 hs).1
  rcases ag.1 hq with rfl | hq
  ·refine .inl ⟨hn e he,λ x hx hlt'=>?_⟩
   rcases ag.1 hx with rfl | hx
   ·omega
   ·have:=hlt x hx;omega
  ·rcases Nq hc' hs' hq e he with⟨h1,h2⟩ | ⟨x,h1,h1',h2,h3,h4,h5⟩
   ·unfold Ua at h1
    cases hd:r.o.dst with
    | none=>
     rw [hd] at h1
     refine .inl ⟨h1,λ q' hq' hl=>?_⟩
     rcases ag.1 hq' with rfl | hq'
     ·intro d hd';rw [hd] at hd';cases hd'
     ·exact h2 q' hq' hl
    | some d=>
     rw [hd] at h1
     unfold Jt at h1
     rcases ag.1 h1 with rfl | h1
     ·refine .inr ⟨r,ak,hlt q hq,hd,rfl,rfl,λ q' hq' hlt' hl=>?_⟩
      rcases ag.1 hq' with rfl | hq'
      ·omega
      ·exact h2 q' hq' hl
     ·rw [List.mem_filter] at h1
      obtain⟨h1,hf⟩:=h1
      simp only [af] at hf
      refine .inl ⟨h1,λ q' hq' hl=>?_⟩
      rcases ag.1 hq' with rfl | hq'
      ·intro d' hd'
       rw [hd] at hd';cases hd'
       refine⟨λ e'=>?_,λ g hg e'=>?_⟩
       ·subst e';simp at hf
       ·have:=(aM.1 hf.2) g hg
        subst e';simp at this
      ·exact h2 q' hq' hl
   ·refine .inr ⟨x,ai _ h1,h1',h2,h3,h4,λ q' hq' hlt' hl=>?_⟩
    rcases ag.1 hq' with rfl | hq'
    ·have:=hlt x h1;omega
    ·exact h5 q' hq' hlt' hl
end
end Go.SL
