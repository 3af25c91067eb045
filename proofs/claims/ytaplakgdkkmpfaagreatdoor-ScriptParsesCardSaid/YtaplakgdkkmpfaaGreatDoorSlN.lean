import Derived.Test.YtaplakgdkkmpfaaGreatDoorSlM
namespace Go.SL
section
variable {P:Program} {C:Ctx} {S S':Nat->Prop} {w w':World} {ρ ρ':List Value} {R:List Res} {L:List Ent} {cur:A6} {a:Act}
theorem Ba:pt a []:=λ g hg=>by cases hg
theorem I7 (hL:Az S w ρ a L) {t:Nat} {e:Ent} {c:Bool} (he:Ct L t=some e) (hb:Ez e.v=some c) :
  (pt a e.p->a.tmps[t]? = some (.bool c))/\(¬pt a e.p->a.tmps[t]? = some undef):=by
 obtain⟨hm,ht⟩:=Bi he
 obtain⟨h1,h2⟩:=hL e hm
 rw [ht] at h1 h2
 refine⟨λ hp=>?_,h2⟩
 obtain⟨v,hv,hr⟩:=h1 hp
 unfold Ez at hb
 split at hb
 ·rename_i b heq
  simp at hb;subst hb
  rw [heq] at hr
  rw [hv,hr.exact_inv]
 ·cases hb
theorem Q6 (hL:Az S w ρ a L) {ops:Array Oper} {o:Oper} (h:Fj ops L o=some cur):(Region.wanted o (yielded ops a.tmps)=true↔pt a cur)/\(cur.isEmpty=true->Region.wanted o (yielded ops a.tmps)=true):=by
 unfold Fj at h
 split at h
 ·rename_i hg
  simp at h;subst h
  simp [Region.wanted,hg,Ba]
 ·rename_i j want hg
  split at h
  ·cases h
  ·rename_i t ht
   split at h
   ·rename_i e he
    split at h
    ·rename_i c hb
     simp at h;subst h
     obtain⟨h1,h2⟩:=I7 hL he hb
     refine⟨?_,by simp⟩
     have hy:yielded ops a.tmps j=match a.tmps[t]? with | some (.bool b)=>some b | _=>none:=by
      unfold yielded;rw [ht];rfl
     unfold Region.wanted
     rw [hg]
     simp only [beq_iff_eq]
     constructor
     ·intro hw
      rw [hy] at hw
      by_cases hp:pt a e.p
      ·rw [h1 hp] at hw
       simp at hw;subst hw
       intro g hg'
       rcases az.1 hg' with h | h
       ·exact hp g h
       ·simp at h;subst h;exact h1 hp
      ·rw [h2 hp] at hw
       simp [undef] at hw
     ·intro hp
      have:=hp (t,want) (by simp)
      rw [hy,this]
    ·cases h
   ·cases h
theorem Mg (hL:Az S w ρ a L):∀ {p:A6} {cs:List (Bool×Bool)},Cq L p=some cs->pt a p->Cs cs
 | [],cs,h,_=>by simp [Cq] at h;subst h;trivial
 | (t, want) :: p, cs, h, hp => by
  simp only [Cq] at h
  split at h
  ·rename_i e he
   split at h
   ·rename_i c l hb hl
    simp at h;subst h
    obtain⟨h1,h2⟩:=I7 hL he hb
    have ht:=hp (t,want) ak
    simp only at ht
    refine⟨?_,Mg hL hl λ g hg=>hp g (ai _ hg)⟩
    by_cases hpe:pt a e.p
    ·rw [h1 hpe] at ht
     simp at ht;exact ht
    ·rw [h2 hpe] at ht
     simp [undef] at ht
   ·cases h
  ·cases h
theorem Gd {d t:Nat} {v:Value} (h:d≠t):(a.put (some d) v).tmps[t]? = a.tmps[t]?:=by
 simp [Act.put,Array.getElem?_setIfInBounds_ne h]
theorem Iu {d:Nat} {v:Value} (h:d<a.tmps.size):(a.put (some d) v).tmps[d]? = some v:=by
 simp [Act.put,h]
theorem Fg {p:A6} {d:Nat} {v:Value} (h:p.all (λ g=>!(Nat.beq g.1 d))=true):pt (a.put (some d) v) p↔pt a p:=by
 have hne:∀ g,g∈p->d≠g.1:=by
  intro g hg e
  have:=(aM.1 h) g hg
  subst e
  simp at this
 constructor
 ·intro hp g hg
  rw [←hp g hg,Gd (hne g hg)]
 ·intro hp g hg
  rw [Gd (hne g hg)];exact hp g hg
theorem Ox (hL:Az S w ρ a L) (hS:∀ b,S b->S' b) (hw:∀ b,S b->w'.heap[b]? = w.heap[b]?) (hρ:Pre ρ ρ') {d:Nat} {p:A6} {v:Value} {av:AV} (hd:d<a.tmps.size)
  (hp:p.all (λ g=>!(Nat.beq g.1 d))=true) (h1:pt a p->RdA S' w' ρ' v av) (h2:¬pt a p->v=undef):Az S' w' ρ' (a.put (some d) v) (Jt L d p av):=by
 intro e he
 unfold Jt at he
 rcases ag.1 he with rfl | he
 ·refine⟨λ hpt=>⟨v,Iu hd,h1 ((Fg hp).1 hpt)⟩,λ hpt=>?_⟩
  have:=h2 (λ h=>hpt ((Fg hp).2 h))
  subst this
  exact Iu hd
 ·rw [List.mem_filter] at he
  obtain⟨hm,hf⟩:=he
  simp only [af] at hf
  obtain⟨f1,f2⟩:=hf
  have hne:d≠e.t:=by
   intro e';subst e';simp at f1
  obtain⟨g1,g2⟩:=hL e hm
  refine⟨λ hpt=>?_,λ hpt=>?_⟩
  ·obtain⟨x,hx,hr⟩:=g1 ((Fg f2).1 hpt)
   exact⟨x,by rw [Gd hne];exact hx,hr.mono hS hw hρ⟩
  ·rw [Gd hne];exact g2 λ h=>hpt ((Fg f2).2 h)
def G7 (P:Program) (ops:Array Oper) (i:Nat) (K:Act->World->Prop) (a:Act) (w:World):Prop:=
 match ops[i]? with
 | none=>K a w
 | some o=>if Region.wanted o (yielded ops a.tmps) then T_ o/\wpv P o a w K else K (a.put o.dst undef) w
def Mm (P:Program) (ops:Array Oper) (K:Act->World->Prop):List Nat->Act->World->Prop
 | [],a,w=>K a w
 | i::rest,a,w=>G7 P ops i (Mm P ops K rest) a w
theorem X_ {o:Oper} {K K':Act->World->Prop} (hk:∀ a w,K a w->K' a w) (h:wpv P o a w K):wpv P o a w K':=by
 unfold wpv at *
 generalize (execOp a.eval o).run P w=r at *
 match r,h with
 | .ok (.value v) w',h=>exact hk _ _ h
 | .ok .skip w',h=>exact hk _ _ h
 | .ok (.enter f args) w',h=>exact Calls.mono h λ e w'' hp=>by obtain⟨v,e,hp⟩:=hp;exact⟨v,e,hk _ _ hp⟩
theorem P4 {ro:Option Nat} {ops:Array Oper} {i:Nat} {K K':Act->World->Prop} {Q:Exit->Act->World->Prop} (hk:∀ a w,K a w->K' a w) (h:G7 P ops i K a w):wpOpIn (FR ro) 0 P ops Q i K' a w:=by
 unfold G7 at h
 unfold wpOpIn
 split at h
 ·rename_i ho
  rw [ho];exact hk _ _ h
 ·rename_i o ho
  rw [ho]
  simp only
  split at h
  ·rename_i hw
   rw [if_pos hw]
   exact qJ h.1 (X_ hk h.2)
  ·rename_i hw
   rw [if_neg hw]
   exact⟨λ _ _=>trivial,hk _ _ h⟩
theorem Oo {ro:Option Nat} {ops:Array Oper} {Q:Exit->Act->World->Prop}:∀ {is:List Nat} {a:Act} {w:World},Mm P ops (λ a w=>Q .normal a w) is a w->wpOpsIn (FR ro) 0 P ops Q is a w
 | [],a,w,h=>h
 | i::is,a,w,h=>by
  rw [wpOpsIn_cons]
  exact P4 (λ _ _ h=>Oo h) h
theorem Zi (hL:Az S w ρ a L):∀ {p acc:A6} {cs:List (Bool×Bool)},Jj L acc p=true->Cq L p=some cs->pt a acc->Cs cs->pt a p
 | [],_,_,_,_,_,_=>Ba
 | (t, want) :: p, acc, cs, hwf, hc, hacc, hall => by
  simp only [Jj] at hwf
  simp only [Cq] at hc
  split at hwf
  ·rename_i e he
   rw [he] at hc
   simp only [af] at hwf
   simp only at hc
   split at hc
   ·rename_i c l hb hl
    simp at hc;subst hc
    obtain⟨h1,h2⟩:=I7 hL he hb
    have ht:=h1 (Iv hwf.1 hacc)
    have hcw:c=want:=hall.1
    subst hcw
    have hacc':pt a (acc++[(t,c)]):=by
     intro g hg
     rcases az.1 hg with hg | hg
     ·exact hacc g hg
     ·simp at hg;subst hg;exact ht
    have:=Zi hL hwf.2 hl hacc' hall.2
    intro g hg
    rcases ag.1 hg with rfl | hg
    ·exact ht
    ·exact this g hg
   ·cases hc
  ·cases hwf
theorem Ks {r:Bool} {cs:List (Bool×Bool)} {x:Cl} (hL:Az S w ρ a L) (hcs:Cq L cur=some cs) (h:(El cur r cs x).ok P):(pt a cur->x.ok P):=by
 intro hp
 unfold El at h
 cases hc:cur.isEmpty with
 | true=>rw [hc] at h;exact h
 | false=>
  rw [hc] at h
  cases r with
  | true=>exact h.1 (Mg hL hcs hp)
  | false=>exact h (Mg hL hcs hp)
theorem On {r:Bool} {cs:List (Bool×Bool)} {x:Cl} (hL:Az S w ρ a L) (hcs:Cq L cur=some cs) (hr:r=true) (hc:cur.isEmpty=false) (hwf:Jj L [] cur=true) (h:(El cur r cs x).ok P) (hn:¬pt a cur):x.keeps:=by
 unfold El at h
 subst hr
 rw [hc] at h
 exact h.2 λ hall=>hn (Zi hL hwf hcs Ba hall)
theorem O6 {n:Nat} {ops:Array Oper} {c:Cl} {i:Nat} {o:Oper} {L':List Ent} {R':List Res} {k:Option Cl} (ho:ops[i]? = some o) (h:Rc P n ops L R c o=some (L',R',k))
  (hk:∀ x,k=some x->x.ok P) (hs:Sat n C L R a w) {K:Act->World->Prop} (hK:∀ a' w',Sat n C L' R' a' w'->K a' w'):G7 P ops i K a w:=by
 obtain⟨hdef,hsize,S,ρ,hI,hL⟩:=hs
 unfold Rc at h
 split at h
 ·cases h
 ·rename_i cur hcur
  obtain⟨hw1,hw2⟩:=Q6 hL hcur
  simp only at h
  split at h
  ·rename_i out cs e1 e2
   cases hg:Gv L cur (isR c) (Cp c) o with
   | false=>rw [hg] at h;simp at h
   | true=>
    rw [hg] at h
    simp only [cond_true] at h
    have hall:k=out.c.map (El cur (isR c) cs)/\R'=out.R/\(∀ d,o.dst=some d->d<n/\cur.all (λ g=>!(Nat.beq g.1 d))=true/\L'=Jt L d cur out.v)/\(o.dst=none->cur.isEmpty=true/\L'=L):=by
     split at h
     ·rename_i d hd
      cases hb:(Nat.blt d n&&cur.all (λ g=>!(Nat.beq g.1 d))) with
      | false=>rw [hb] at h;simp at h
      | true=>
       rw [hb] at h
       simp only [cond_true,ah,aw] at h
       obtain⟨h1,h2,h3⟩:=h
       simp only [af] at hb
       refine⟨h3.symm,h2.symm,λ d' hd'=>?_,λ hn=>by rw [hd] at hn;cases hn⟩
       rw [hd] at hd';cases hd'
       exact⟨by have:=hb.1;simpa [Nat.blt_eq] using this,hb.2,h1.symm⟩
     ·rename_i hd
      cases hc:cur.isEmpty with
      | false=>rw [hc] at h;simp at h
      | true=>
       rw [hc] at h
       simp only [cond_true,ah,aw] at h
       obtain⟨h1,h2,h3⟩:=h
       exact⟨h3.symm,h2.symm,λ d hd'=>by rw [hd] at hd';(cases hd'),λ _=>⟨rfl,h1.symm⟩⟩
    obtain⟨hk',rfl,hd1,hd2⟩:=hall
    have hk2:∀ x,out.c=some x->(El cur (isR c) cs x).ok P:=λ x hx=>hk _ (by rw [hk',hx];rfl)
    unfold G7
    simp only [ho]
    by_cases hpt:pt a cur
    ·rw [if_pos (hw1.2 hpt)]
     refine⟨Na e1,Ts hI hL hpt e1 (λ x hx=>Ks hL e2 (hk2 x hx) hpt) λ v w' S' ρ' hA=>?_⟩
     cases hd:o.dst with
     | some d=>
      obtain⟨g1,g2,rfl⟩:=hd1 d hd
      exact hK _ _ ⟨hdef,by simp [Act.put,hsize],S',ρ',hA.inv,Ox hL hA.sub hA.same hA.pre (by rw [hsize];exact g1) g2 (λ _=>hA.rd) (λ h=>absurd hpt h)⟩
     | none=>
      obtain⟨g1,rfl⟩:=hd2 hd
      refine hK _ _ ⟨hdef,hsize,S',ρ',hA.inv,λ e he=>?_⟩
      obtain⟨g1,g2⟩:=hL e he
      refine⟨λ hp=>?_,g2⟩
      obtain⟨x,hx,hr⟩:=g1 hp
      exact⟨x,hx,hr.mono hA.sub hA.same hA.pre⟩
    ·have hne:cur.isEmpty=false:=by
      cases hc:cur.isEmpty with
      | false=>rfl
      | true=>simp at hc;subst hc;exact absurd Ba hpt
     have hnw:¬(Region.wanted o (yielded ops a.tmps)=true):=λ h=>hpt (hw1.1 h)
     rw [if_neg hnw]
     unfold Gv at hg
     rw [hne] at hg
     simp only [bn,af,aR,br] at hg
     obtain⟨ρ',hI',hpre⟩:=hI.skip (O7 e1 hg.1 λ hr x hx=>On hL e2 hr hne (hg.2.resolve_left (by rw [hr];simp)) (hk2 x hx) hpt)
     cases hd:o.dst with
     | some d=>
      obtain⟨g1,g2,rfl⟩:=hd1 d hd
      exact hK _ _ ⟨hdef,by simp [Act.put,hsize],S,ρ',hI',Ox hL (λ _ h=>h) (λ _ _=>rfl) hpre (by rw [hsize];exact g1) g2 (λ h=>absurd h hpt) (λ _=>rfl)⟩
     | none=>
      have:=(hd2 hd).1
      rw [hne] at this;cases this
  ·cases h
theorem Mc {n:Nat} {ops:Array Oper} {K:Act->World->Prop}:∀ {is:List Nat} {L:List Ent} {R:List Res} {cls:List Cl} {L':List Ent} {R':List Res} {cs:List Cl} {a:Act} {w:World},
  K1 P n ops is L R cls=some (L',R',cs)->B1 P cs->Sat n C L R a w->(∀ a' w',Sat n C L' R' a' w'->K a' w')->Mm P ops K is a w
 | [],L,R,cls,L',R',cs,a,w,h,_,hs,hK=>by
  simp [K1] at h
  obtain⟨rfl,rfl,rfl⟩:=h
  exact hK a w hs
 | i :: is, L, R, cls, L', R', cs, a, w, h, hok, hs, hK => by
  simp only [K1] at h
  split at h
  ·cases h
  ·rename_i o ho
   show G7 P ops i (Mm P ops K is) a w
   split at h
   ·cases h
   ·rename_i L1 R1 c1 e1
    split at h
    ·rename_i L2 R2 cs2 e2
     simp at h
     obtain⟨rfl,rfl,rfl⟩:=h
     exact O6 ho e1 (λ x hx=>by cases hx;exact hok.1) hs λ a' w' hs'=>Mc e2 hok.2 hs' hK
    ·cases h
   ·rename_i L1 R1 e1
    exact O6 ho e1 (λ x hx=>by cases hx) hs λ a' w' hs'=>Mc h hok hs' hK
end
end Go.SL
