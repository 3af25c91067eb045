import Derived.Test.YtaplakgdkkmpfaaDoorSlP
namespace Go.SL
section
variable {P:Program} {C:Ctx} {S S':Nat->Prop} {w w':World} {ρ ρ':List Value} {R R':List Res} {L L':List Ent} {a:Act}
structure Ni (P:Program) (n:Nat) (ops:Array Oper) (r:Rec):Prop where
 op:ops[r.i]? = some r.o
 guard:Ev ops r.need r.o=some r.cur
 cs:Ce r.need r.cur=some r.cs
 ev:r.fl=none->Dh P r.need r.cur r.Rin r.c r.o=some r.out
 flo:∀ i,r.fl=some i->La P r.need r.cur r.Rin r.c i r.o=some r.out
 dst:∀ d,r.o.dst=some d->d<n/\r.cur.all (λ g=>!(Nat.beq g.1 d))=true
 nodst:r.o.dst=none->r.cur.isEmpty=true
 ok:∀ x,r.out.c=some x->(D4 r.cur r.r r.cs x).ok P
 gb:Fu r.need r.cur r.r r.c r.o=true
 eff:r.eff=(r.fl.isNone && !Ci r.c r.o)
def Qw (L:List Ent) (r:Rec):List Ent:=match r.o.dst with | some d=>H_ L d r.cur r.out.v | none=>L
def Dq (P:Program) (n:Nat) (ops:Array Oper):List Ent->List Res->List Rec->List Ent->List Res->Prop
 | L,R,[],L',R'=>L=L'/\R=R'
 | L,R,r::rs,L',R'=>Ni P n ops r/\r.Rin=R/\(∀ e,e∈r.need->e∈L)/\Dq P n ops (Qw L r) r.out.R rs L' R'
theorem E9:∀ {ts:List Nat} {e:Ent},e∈D8 L ts->e∈L
 | [],e,h=>by simp [D8] at h
 | t :: ts, e, h => by
  simp only [D8] at h
  split at h
  ·rename_i x hx
   rcases af.1 h with rfl | h
   ·exact (Bc hx).1
   ·rcases ax.1 h with h | h
    ·rw [List.mem_filterMap] at h
     obtain⟨g,_,hg⟩:=h
     exact (Bc hg).1
    ·exact E9 h
  ·exact E9 h
theorem He {n : Nat} {ops : Array Oper} : ∀ {is : List Nat} {L : List Ent} {R : List Res} {cls : List Cl} {rs : List Rec} {L' : List Ent} {R' : List Res} {ks : List Cl},
  H8 P n ops is L R cls=some (rs,L',R',ks)->Bm P ks->Dq P n ops L R rs L' R'/\rs.map (·.i)=is
 | [],L,R,cls,rs,L',R',ks,h,_=>by
  simp [H8] at h
  obtain⟨rfl,rfl,rfl,rfl⟩:=h
  exact⟨⟨rfl,rfl⟩,rfl⟩
 | i :: is, L, R, cls, rs, L', R', ks, h, hok => by
  simp only [H8] at h
  split at h
  ·cases h
  ·rename_i o ho
   split at h
   ·cases h
   ·rename_i cur hcur
    split at h
    ·rename_i out cs e1 e2
     cases hb:(Ra n o cur&&Fu (D8 L (I7 ops o)) cur (isR (cls.headD .nop)) (Cd (cls.headD .nop)) o) with
     | false=>rw [hb] at h;simp at h
     | true=>
      rw [hb] at h
      simp only [aa] at hb
      obtain⟨hb,hgb⟩:=hb
      unfold Ra at hb
      simp only [cond_true] at h
      have hev1:Hl o (Cd (cls.headD .nop))=none->Dh P (D8 L (I7 ops o)) cur R (Cd (cls.headD .nop)) o=some out:=by
       intro hf
       unfold Q_ at e1
       rw [hf] at e1
       exact e1
      have hev2:∀ j,Hl o (Cd (cls.headD .nop))=some j->La P (D8 L (I7 ops o)) cur R (Cd (cls.headD .nop)) j o=some out:=by
       intro j hf
       unfold Q_ at e1
       rw [hf] at e1
       exact e1
      have hdst:∀ d,o.dst=some d->d<n/\cur.all (λ g=>!(Nat.beq g.1 d))=true:=by
       intro d hd
       rw [hd] at hb
       simp only [aa] at hb
       exact⟨by have:=hb.1;simpa [Nat.blt_eq] using this,hb.2⟩
      have hnod:o.dst=none->cur.isEmpty=true:=by
       intro hd
       rw [hd] at hb
       exact hb
      split at h
      ·rename_i x hx
       split at h
       ·rename_i rs2 L2 R2 ks2 e3
        simp only [ag,au] at h
        obtain⟨rfl,rfl,rfl,rfl⟩:=h
        obtain⟨g1,g2⟩:=He e3 hok.2
        exact⟨⟨⟨ho,hcur,e2,hev1,hev2,hdst,hnod,λ y hy=>(by rw [hx] at hy;cases hy;exact hok.1),hgb,rfl⟩,rfl,λ e he=>E9 he,g1⟩,by simp [g2]⟩
       ·cases h
      ·rename_i hx
       split at h
       ·rename_i rs2 L2 R2 ks2 e3
        simp only [ag,au] at h
        obtain⟨rfl,rfl,rfl,rfl⟩:=h
        obtain⟨g1,g2⟩:=He e3 hok
        exact⟨⟨⟨ho,hcur,e2,hev1,hev2,hdst,hnod,λ y hy=>(by rw [hx] at hy;cases hy),hgb,rfl⟩,rfl,λ e he=>E9 he,g1⟩,by simp [g2]⟩
       ·cases h
    ·cases h
theorem Hm {L:List Ent} {cur:Az} {c:Cl} {i:Nat} {o:Oper} {out:Out} (h:La P L cur R c i o=some out) :
  (∃ t z cells r',o.op = .alloc t/\Bh P t=some z/\B0 z.cells.toList=some cells/\R[i]? = some r'/\out=⟨.d (.o i 0),R,some (.flt i (.box t cells) r')⟩) \/
  (∃ t l c0 o1 r1 r' c1,o.op = .makeSlice t l l/\R[i]? = some r'/\Ey P [] c0 t ((Ak L cur l).bind Aw)=some o1/\o1.R=[r1]/\o1.c=some c1/\out=⟨.d (.os i),R,some (.fltm i c1 r1 r')⟩):=by
 unfold La at h
 split at h
 ·rename_i t l k ht
  split at h
  ·rename_i i0 c0 q1 q2 r' e1
   split at h
   ·rename_i o1 hs e2
    have hlk:l=k:=by
     unfold Eh at hs
     split at hs
     ·rw [ae hs]
     ·rw [eq_of_beq hs]
     ·cases hs
    subst hlk
    split at h
    ·rename_i r1 c1 e3 e4
     simp only [ag] at h
     exact .inr ⟨t,l,c0,o1,r1,r',c1,ht,e1,e2,e3,e4,h.symm⟩
    ·cases h
   ·cases h
  ·cases h
 ·rename_i t ht
  split at h
  ·rename_i cells r' e1 e2
   simp at h
   cases hz:Bh P t with
   | none=>rw [hz] at e1;simp at e1
   | some z=>rw [hz] at e1;exact .inl ⟨t,z,cells,r',ht,hz,e1,e2,h.symm⟩
  ·cases h
 ·cases h
def Bd (X:Nat->Bool):List Res->List Rec->List Res
 | R,[]=>R
 | R,r::rs=>bif r.eff&&X r.i then Bd X r.out.R rs else Bd X R rs
theorem C3 {n:Nat} {ops:Array Oper} {r:Rec} (h:Ni P n ops r) (he:r.eff=false):r.out.R=r.Rin:=by
 have:=h.eff
 rw [he] at this
 cases hf:r.fl with
 | none=>
  rw [hf] at this
  exact (Jr (R':=r.Rin) (by simpa using this.symm) (λ _ _=>rfl) (h.ev hf)).1
 | some i=>
  rcases Hm (h.flo i hf) with⟨t,z,cells,r',_,_,_,_,e⟩ | ⟨t,l,c0,o1,r1,r',c1,_,_,_,_,_,e⟩ <;>
  rw [e]
def PC (X:Nat->Bool) (rs:List Rec):Prop:=∀ r q,r∈rs->q∈rs->r.eff=true->q.eff=true->r.i<q.i->X q.i=true->X r.i=true
def Ee (rs:List Rec):Prop:=rs.Pairwise λ r q=>r.i<q.i
theorem PC.tail {X:Nat->Bool} {r:Rec} {rs:List Rec} (h:PC X (r::rs)):PC X rs:=
 λ a b ha hb=>h a b (ah _ ha) (ah _ hb)
theorem B7 {X:Nat->Bool}:∀ {rs:List Rec} {R:List Res},(∀ r,r∈rs->r.eff=true->X r.i=false)->Bd X R rs=R
 | [],R,_=>rfl
 | r::rs,R,h=>by
  have ih:=B7 (R:=R) (λ q hq=>h q (ah _ hq))
  simp only [Bd]
  cases he:r.eff with
  | false=>simpa using ih
  | true=>rw [h r aj he];simpa using ih
theorem D_ {X:Nat->Bool} {r:Rec} {rs:List Rec} (hp:PC X (r::rs)) (hs:Ee (r::rs)) (he:r.eff=true) (hx:X r.i=false):∀ q,q∈rs->q.eff=true->X q.i=false:=by
 intro q hq hqe
 cases hxq:X q.i with
 | false=>rfl
 | true=>
  have:=hp r q aj (ah _ hq) he hqe ((aT.1 hs).1 q hq) hxq
  rw [hx] at this;cases this
theorem Sd {r r':Rec} (h1:r.o=r'.o) (h2:r.need=r'.need) (h3:r.cur=r'.cur) (h4:r.c=r'.c) (h5:r.Rin=r'.Rin):A8 r=A8 r':=by
 unfold A8;rw [h1,h2,h3,h4,h5]
theorem H9 {n:Nat} {ops:Array Oper} {r:Rec} (h:Ni P n ops r) {i:Nat} (hw:i∉A8 r) (hl:i<r.Rin.length):r.out.R[i]? = r.Rin[i]?:=by
 cases hf:r.fl with
 | none=>
  exact Ti (cs:=r.cs) (h.ev hf) hl (λ hm=>hw (by
   have e:A8 ⟨0,r.o,r.need,r.cur,r.cs,r.c,r.Rin,r.out,true,false,none⟩=A8 r:=Sd rfl rfl rfl rfl rfl
   rw [←e];exact hm))
 | some j=>
  rcases Hm (h.flo j hf) with⟨t,z,cells,r',_,_,_,_,e⟩ | ⟨t,l,c0,o1,r1,r',c1,_,_,_,_,_,e⟩ <;>
  rw [e]
theorem Ga {n:Nat} {ops:Array Oper} {X:Nat->Bool} {i:Nat}:∀ {rs:List Rec} {L:List Ent} {R:List Res},Dq P n ops L R rs L' R'->Ee rs->PC X rs ->
  (∀ r,r∈rs->r.eff=true->X r.i=true->i∉A8 r/\i<r.Rin.length)->(Bd X R rs)[i]? = R[i]?
 | [],L,R,_,_,_,_=>rfl
 | r::rs,L,R,hc,hs,hp,h=>by
  obtain⟨hr,hR,_,hc'⟩:=hc
  simp only [Bd]
  cases he:r.eff with
  | false=>
   have hq:=C3 hr he
   rw [hq,hR] at hc'
   simpa using Ga hc' (aT.1 hs).2 hp.tail (λ q hq=>h q (ah _ hq))
  | true=>
   cases hx:X r.i with
   | false=>
    simp only [Bool.and_false,cond_false]
    rw [B7 (D_ hp hs he hx)]
   | true=>
    simp only [Bool.and_self,cond_true]
    rw [Ga hc' (aT.1 hs).2 hp.tail (λ q hq=>h q (ah _ hq))]
    obtain⟨g1,g2⟩:=h r aj he hx
    rw [H9 hr g1 g2,hR]
theorem Kg {n:Nat} {ops:Array Oper} {X Y:Nat->Bool} {i:Nat}:∀ {rs:List Rec} {L:List Ent} {R:List Res},Dq P n ops L R rs L' R'->Ee rs->PC X rs->PC Y rs ->
  (∀ r,r∈rs->r.eff=true->X r.i≠Y r.i->i∉A8 r/\i<r.Rin.length)->(Bd X R rs)[i]? = (Bd Y R rs)[i]?
 | [],L,R,_,_,_,_,_=>rfl
 | r :: rs, L, R, hc, hs, hp, hq, h => by
  obtain⟨hr,hR,_,hc'⟩:=hc
  have hs':=(aT.1 hs).2
  simp only [Bd]
  cases he:r.eff with
  | false=>
   have hq':=C3 hr he
   rw [hq',hR] at hc'
   simpa using Kg hc' hs' hp.tail hq.tail (λ q hq=>h q (ah _ hq))
  | true=>
   cases hx:X r.i with
   | false=>
    cases hy:Y r.i with
    | false=>
     simp only [Bool.and_false,cond_false]
     rw [B7 (D_ hp hs he hx),B7 (D_ hq hs he hy)]
    | true=>
     simp only [Bool.and_false,cond_false,Bool.and_self,cond_true]
     have hl:=D_ hp hs he hx
     rw [B7 hl,Ga hc' hs' hq.tail λ q hq2 hqe hqy=>h q (ah _ hq2) hqe (by rw [hl q hq2 hqe,hqy];simp)]
     obtain⟨g1,g2⟩:=h r aj he (by rw [hx,hy];simp)
     rw [H9 hr g1 g2,hR]
   | true=>
    cases hy:Y r.i with
    | true=>
     simp only [Bool.and_self,cond_true]
     exact Kg hc' hs' hp.tail hq.tail (λ q hq=>h q (ah _ hq))
    | false=>
     simp only [Bool.and_false,cond_false,Bool.and_self,cond_true]
     have hl:=D_ hq hs he hy
     rw [B7 hl,Ga hc' hs' hp.tail λ q hq2 hqe hqx=>h q (ah _ hq2) hqe (by rw [hl q hq2 hqe,hqx];simp)]
     obtain⟨g1,g2⟩:=h r aj he (by rw [hx,hy];simp)
     rw [H9 hr g1 g2,hR]
theorem Eb {X Y:Nat->Bool}:∀ {rs:List Rec} {R:List Res},(∀ r,r∈rs->r.eff=true->X r.i=Y r.i)->Bd X R rs=Bd Y R rs
 | [],_,_=>rfl
 | r::rs,R,h=>by
  simp only [Bd]
  cases he:r.eff with
  | false=>simpa using Eb (λ q hq=>h q (ah _ hq))
  | true=>
   rw [h r aj he]
   cases Y r.i <;> simpa using Eb (λ q hq=>h q (ah _ hq))
theorem Jf {n:Nat} {ops:Array Oper} {q:Rec}:∀ {rs:List Rec} {L:List Ent} {R:List Res},Dq P n ops L R rs L' R'->Ee rs->q∈rs->Bd (λ i=>Nat.blt i q.i) R rs=q.Rin
 | [],L,R,_,_,h=>by cases h
 | r::rs,L,R,hc,hs,hq=>by
  obtain⟨hr,hR,_,hc'⟩:=hc
  have hs':=(aT.1 hs).2
  have hlt:=(aT.1 hs).1
  rcases af.1 hq with rfl | hq
  ·rw [hR]
   refine B7 λ x hx _=>?_
   rcases af.1 hx with rfl | hx
   ·cases hb:Nat.blt x.i x.i with
    | false=>rfl
    | true=>rw [aV] at hb;omega
   ·have:=hlt x hx
    cases hb:Nat.blt x.i q.i with
    | false=>rfl
    | true=>rw [aV] at hb;omega
  ·have h1:Nat.blt r.i q.i=true:=by rw [aV];exact hlt q hq
   simp only [Bd,h1,bI]
   cases he:r.eff with
   | false=>
    have hq':=C3 hr he
    rw [hq',hR] at hc'
    exact Jf hc' hs' hq
   | true=>exact Jf hc' hs' hq
theorem Gl {n:Nat} {ops:Array Oper} {q:Rec}:∀ {rs:List Rec} {L:List Ent} {R:List Res},Dq P n ops L R rs L' R'->Ee rs->q∈rs->Bd (λ i=>Nat.ble i q.i) R rs=q.out.R
 | [],L,R,_,_,h=>by cases h
 | r::rs,L,R,hc,hs,hq=>by
  obtain⟨hr,hR,_,hc'⟩:=hc
  have hs':=(aT.1 hs).2
  have hlt:=(aT.1 hs).1
  rcases af.1 hq with rfl | hq
  ·have h1:Nat.ble q.i q.i=true:=by simp
   have hno:∀ x,x∈rs->x.eff=true->Nat.ble x.i q.i=false:=by
    intro x hx _
    have:=hlt x hx
    cases hb:Nat.ble x.i q.i with
    | false=>rfl
    | true=>have:=aU hb;omega
   simp only [Bd,h1,bI]
   cases he:q.eff with
   | false=>simp only [cond_false];rw [B7 hno,C3 hr he,hR]
   | true=>simp only [cond_true];rw [B7 hno]
  ·have h1:Nat.ble r.i q.i=true:=by have:=hlt q hq;exact Nat.ble_eq_true_of_le (by omega)
   simp only [Bd,h1,bI]
   cases he:r.eff with
   | false=>
    have hq':=C3 hr he
    rw [hq',hR] at hc'
    exact Gl hc' hs' hq
   | true=>exact Gl hc' hs' hq
theorem Kh {n:Nat} {ops:Array Oper} {X:Nat->Bool}:∀ {rs:List Rec} {L:List Ent} {R:List Res},Dq P n ops L R rs L' R'->(∀ r,r∈rs->X r.i=true)->Bd X R rs=R'
 | [],L,R,hc,_=>hc.2
 | r::rs,L,R,hc,h=>by
  obtain⟨hr,hR,_,hc'⟩:=hc
  simp only [Bd,h r aj,bI]
  cases he:r.eff with
  | false=>
   have hq':=C3 hr he
   rw [hq',hR] at hc'
   exact Kh hc' (λ q hq=>h q (ah _ hq))
  | true=>exact Kh hc' (λ q hq=>h q (ah _ hq))
theorem Gb {n:Nat} {ops:Array Oper} {q:Rec}:∀ {rs:List Rec} {L:List Ent} {R:List Res},Dq P n ops L R rs L' R'->q∈rs->Ni P n ops q
 | [],L,R,_,h=>by cases h
 | r::rs,L,R,hc,hq=>by
  rcases af.1 hq with rfl | hq
  ·exact hc.1
  ·exact Gb hc.2.2.2 hq
def D3 (q:Rec) (e:Ent):Prop:=∀ d,q.o.dst=some d->d≠e.t/\∀ g,g∈e.p->g.1≠d
def Sb (rs:List Rec) (L0:List Ent) (X:Nat->Bool) (e:Ent):Prop:=
 (e∈L0/\∀ q,q∈rs->X q.i=true->D3 q e) \/
 (∃ r,r∈rs/\X r.i=true/\r.o.dst=some e.t/\e.p=r.cur/\e.v=r.out.v/\∀ q,q∈rs->r.i<q.i->X q.i=true->D3 q e)
theorem Ll {n:Nat} {ops:Array Oper}:∀ {rs:List Rec} {L:List Ent} {R:List Res},Dq P n ops L R rs L' R'->Ee rs->∀ e,e∈L' ->
  (e∈L/\∀ q,q∈rs->D3 q e)\/(∃ r,r∈rs/\r.o.dst=some e.t/\e.p=r.cur/\e.v=r.out.v/\∀ q,q∈rs->r.i<q.i->D3 q e)
 | [],L,R,hc,_,e,he=>by
  have:=hc.1;subst this
  exact .inl ⟨he,λ q hq=>by cases hq⟩
 | r :: rs, L, R, hc, hs, e, he => by
  obtain⟨hr,hR,_,hc'⟩:=hc
  have hs':=(aT.1 hs).2
  have hlt:=(aT.1 hs).1
  rcases Ll hc' hs' e he with⟨h1,h2⟩ | ⟨x,h1,h2,h3,h4,h5⟩
  ·unfold Qw at h1
   cases hd:r.o.dst with
   | none=>
    rw [hd] at h1
    refine .inl ⟨h1,λ q hq=>?_⟩
    rcases af.1 hq with rfl | hq
    ·intro d hd';rw [hd] at hd';cases hd'
    ·exact h2 q hq
   | some d=>
    rw [hd] at h1
    unfold H_ at h1
    rcases af.1 h1 with rfl | h1
    ·refine .inr ⟨r,aj,hd,rfl,rfl,λ q hq hlt'=>?_⟩
     rcases af.1 hq with rfl | hq
     ·omega
     ·exact h2 q hq
    ·rw [List.mem_filter] at h1
     obtain⟨h1,hf⟩:=h1
     simp only [aa] at hf
     refine .inl ⟨h1,λ q hq=>?_⟩
     rcases af.1 hq with rfl | hq
     ·intro d' hd'
      rw [hd] at hd';cases hd'
      refine⟨λ e'=>?_,λ g hg e'=>?_⟩
      ·subst e';simp at hf
      ·have:=(aE.1 hf.2) g hg
       subst e';simp at this
     ·exact h2 q hq
  ·refine .inr ⟨x,ah _ h1,h2,h3,h4,λ q hq hlt'=>?_⟩
   rcases af.1 hq with rfl | hq
   ·have:=hlt x h1;omega
   ·exact h5 q hq hlt'
theorem Lk {n : Nat} {ops : Array Oper} {q : Rec} : ∀ {rs : List Rec} {L : List Ent} {R : List Res}, Dq P n ops L R rs L' R' -> Ee rs -> q ∈ rs -> ∀ e, e ∈ q.need ->
  (e∈L/\∀ x,x∈rs->x.i<q.i->D3 x e)\/(∃ r,r∈rs/\r.i<q.i/\r.o.dst=some e.t/\e.p=r.cur/\e.v=r.out.v/\∀ x,x∈rs->r.i<x.i->x.i<q.i->D3 x e)
 | [],L,R,_,_,h,_,_=>by cases h
 | r :: rs, L, R, hc, hs, hq, e, he => by
  obtain⟨hr,hR,hn,hc'⟩:=hc
  have hs':=(aT.1 hs).2
  have hlt:=(aT.1 hs).1
  rcases af.1 hq with rfl | hq
  ·refine .inl ⟨hn e he,λ x hx hlt'=>?_⟩
   rcases af.1 hx with rfl | hx
   ·omega
   ·have:=hlt x hx;omega
  ·rcases Lk hc' hs' hq e he with⟨h1,h2⟩ | ⟨x,h1,h1',h2,h3,h4,h5⟩
   ·unfold Qw at h1
    cases hd:r.o.dst with
    | none=>
     rw [hd] at h1
     refine .inl ⟨h1,λ q' hq' hl=>?_⟩
     rcases af.1 hq' with rfl | hq'
     ·intro d hd';rw [hd] at hd';cases hd'
     ·exact h2 q' hq' hl
    | some d=>
     rw [hd] at h1
     unfold H_ at h1
     rcases af.1 h1 with rfl | h1
     ·refine .inr ⟨r,aj,hlt q hq,hd,rfl,rfl,λ q' hq' hlt' hl=>?_⟩
      rcases af.1 hq' with rfl | hq'
      ·omega
      ·exact h2 q' hq' hl
     ·rw [List.mem_filter] at h1
      obtain⟨h1,hf⟩:=h1
      simp only [aa] at hf
      refine .inl ⟨h1,λ q' hq' hl=>?_⟩
      rcases af.1 hq' with rfl | hq'
      ·intro d' hd'
       rw [hd] at hd';cases hd'
       refine⟨λ e'=>?_,λ g hg e'=>?_⟩
       ·subst e';simp at hf
       ·have:=(aE.1 hf.2) g hg
        subst e';simp at this
      ·exact h2 q' hq' hl
   ·refine .inr ⟨x,ah _ h1,h1',h2,h3,h4,λ q' hq' hlt' hl=>?_⟩
    rcases af.1 hq' with rfl | hq'
    ·have:=hlt x h1;omega
    ·exact h5 q' hq' hlt' hl
end
end Go.SL
