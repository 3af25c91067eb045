import Derived.Test.YtpdbkiafikdgpaaGreatDoorSlM
namespace Go.SL
section
variable {P:Program} {C:Ctx} {S S':Nat->Prop} {w w':World} {ρ ρ':List Value} {R:List Res} {L:List Ent} {cur:Ci} {a:Act}
theorem Cg:pt a []:=λ g hg=>by cases hg
theorem Qr (hL:Cc S w ρ a L) {t:Nat} {e:Ent} {c:Bool} (he:D_ L t=some e) (hb:Jl e.v=some c) :
  (pt a e.p->a.tmps[t]? = some (.bool c))/\(¬pt a e.p->a.tmps[t]? = some undef):=by
 obtain⟨hm,ht⟩:=Cq he
 obtain⟨h1,h2⟩:=hL e hm
 rw [ht] at h1 h2
 refine⟨λ hp=>?_,h2⟩
 obtain⟨v,hv,hr⟩:=h1 hp
 unfold Jl at hb
 split at hb
 ·rename_i b heq
  simp at hb;subst hb
  rw [heq] at hr
  rw [hv,hr.exact_inv]
 ·cases hb
theorem Age (hL:Cc S w ρ a L) {ops:Array Oper} {o:Oper} (h:Kp ops L o=some cur):(Region.wanted o (yielded ops a.tmps)=true↔pt a cur)/\(cur.isEmpty=true->Region.wanted o (yielded ops a.tmps)=true):=by
 unfold Kp at h
 split at h
 ·rename_i hg
  simp at h;subst h
  simp [Region.wanted,hg,Cg]
 ·rename_i j want hg
  split at h
  ·cases h
  ·rename_i t ht
   split at h
   ·rename_i e he
    split at h
    ·rename_i c hb
     simp at h;subst h
     obtain⟨h1,h2⟩:=Qr hL he hb
     refine⟨?_,by simp⟩
     have hy:yielded ops a.tmps j=match a.tmps[t]? with | some (.bool b)=>some b | _=>none:=by
      unfold yielded;rw [ht];rfl
     unfold Region.wanted
     rw [hg]
     simp only [dH]
     constructor
     ·intro hw
      rw [hy] at hw
      by_cases hp:pt a e.p
      ·rw [h1 hp] at hw
       simp at hw;subst hw
       intro g hg'
       rcases az.1 hg' with h | h
       ·exact hp g h
       ·simp at h;subst h;exact h1 hp
      ·rw [h2 hp] at hw
       simp [undef] at hw
     ·intro hp
      have:=hp (t,want) (by simp)
      rw [hy,this]
    ·cases h
   ·cases h
theorem Yb (hL:Cc S w ρ a L):∀ {p:Ci} {cs:List (Bool×Bool)},E5 L p=some cs->pt a p->Da cs
 | [],cs,h,_=>by simp [E5] at h;subst h;trivial
 | (t, want) :: p, cs, h, hp => by
  simp only [E5] at h
  split at h
  ·rename_i e he
   split at h
   ·rename_i c l hb hl
    simp at h;subst h
    obtain⟨h1,h2⟩:=Qr hL he hb
    have ht:=hp (t,want) aj
    simp only at ht
    refine⟨?_,Yb hL hl λ g hg=>hp g (ai _ hg)⟩
    by_cases hpe:pt a e.p
    ·rw [h1 hpe] at ht
     simp at ht;exact ht
    ·rw [h2 hpe] at ht
     simp [undef] at ht
   ·cases h
  ·cases h
theorem Jv {d t:Nat} {v:Value} (h:d≠t):(a.put (some d) v).tmps[t]? = a.tmps[t]?:=by
 simp [Act.put,Array.getElem?_setIfInBounds_ne h]
theorem Mh {d:Nat} {v:Value} (h:d<a.tmps.size):(a.put (some d) v).tmps[d]? = some v:=by
 simp [Act.put,h]
theorem Km {p:Ci} {d:Nat} {v:Value} (h:p.all (λ g=>!(Nat.beq g.1 d))=true):pt (a.put (some d) v) p↔pt a p:=by
 have hne:∀ g,g∈p->d≠g.1:=by
  intro g hg e
  have:=(aT.1 h) g hg
  subst e
  simp at this
 constructor
 ·intro hp g hg
  rw [←hp g hg,Jv (hne g hg)]
 ·intro hp g hg
  rw [Jv (hne g hg)];exact hp g hg
theorem Aaj (hL:Cc S w ρ a L) (hS:∀ b,S b->S' b) (hw:∀ b,S b->w'.heap[b]? = w.heap[b]?) (hρ:Pre ρ ρ') {d:Nat} {p:Ci} {v:Value} {av:AV} (hd:d<a.tmps.size)
  (hp:p.all (λ g=>!(Nat.beq g.1 d))=true) (h1:pt a p->RdA S' w' ρ' v av) (h2:¬pt a p->v=undef):Cc S' w' ρ' (a.put (some d) v) (Sv L d p av):=by
 intro e he
 unfold Sv at he
 rcases ah.1 he with rfl | he
 ·refine⟨λ hpt=>⟨v,Mh hd,h1 ((Km hp).1 hpt)⟩,λ hpt=>?_⟩
  have:=h2 (λ h=>hpt ((Km hp).2 h))
  subst this
  exact Mh hd
 ·rw [aF] at he
  obtain⟨hm,hf⟩:=he
  simp only [ae] at hf
  obtain⟨f1,f2⟩:=hf
  have hne:d≠e.t:=by
   intro e';subst e';simp at f1
  obtain⟨g1,g2⟩:=hL e hm
  refine⟨λ hpt=>?_,λ hpt=>?_⟩
  ·obtain⟨x,hx,hr⟩:=g1 ((Km f2).1 hpt)
   exact⟨x,by rw [Jv hne];exact hx,hr.mono hS hw hρ⟩
  ·rw [Jv hne];exact g2 λ h=>hpt ((Km f2).2 h)
def J8 (P:Program) (ops:Array Oper) (i:Nat) (K:Act->World->Prop) (a:Act) (w:World):Prop:=
 match ops[i]? with
 | none=>K a w
 | some o=>if Region.wanted o (yielded ops a.tmps) then An1 o/\wpv P o a w K else K (a.put o.dst undef) w
def Rw (P:Program) (ops:Array Oper) (K:Act->World->Prop):List Nat->Act->World->Prop
 | [],a,w=>K a w
 | i::rest,a,w=>J8 P ops i (Rw P ops K rest) a w
theorem Awu {o:Oper} {K K':Act->World->Prop} (hk:∀ a w,K a w->K' a w) (h:wpv P o a w K):wpv P o a w K':=by
 unfold wpv at *
 generalize (execOp a.eval o).run P w=r at *
 match r,h with
 | .ok (.value v) w',h=>exact hk _ _ h
 | .ok .skip w',h=>exact hk _ _ h
 | .ok (.enter f args) w',h=>exact Calls.mono h λ e w'' hp=>by obtain⟨v,e,hp⟩:=hp;exact⟨v,e,hk _ _ hp⟩
theorem Adn {ro:Option Nat} {ops:Array Oper} {i:Nat} {K K':Act->World->Prop} {Q:Exit->Act->World->Prop} (hk:∀ a w,K a w->K' a w) (h:J8 P ops i K a w):wpOpIn (FR ro) 0 P ops Q i K' a w:=by
 unfold J8 at h
 unfold wpOpIn
 split at h
 ·rename_i ho
  rw [ho];exact hk _ _ h
 ·rename_i o ho
  rw [ho]
  simp only
  split at h
  ·rename_i hw
   rw [if_pos hw]
   exact A2q h.1 (Awu hk h.2)
  ·rename_i hw
   rw [if_neg hw]
   exact⟨λ _ _=>trivial,hk _ _ h⟩
theorem Rv {ro:Option Nat} {ops:Array Oper} {Q:Exit->Act->World->Prop}:∀ {is:List Nat} {a:Act} {w:World},Rw P ops (λ a w=>Q .normal a w) is a w->wpOpsIn (FR ro) 0 P ops Q is a w
 | [],a,w,h=>h
 | i::is,a,w,h=>by
  rw [wpOpsIn_cons]
  exact Adn (λ _ _ h=>Rv h) h
theorem Azd (hL:Cc S w ρ a L):∀ {p acc:Ci} {cs:List (Bool×Bool)},Rx L acc p=true->E5 L p=some cs->pt a acc->Da cs->pt a p
 | [],_,_,_,_,_,_=>Cg
 | (t, want) :: p, acc, cs, hwf, hc, hacc, hall => by
  simp only [Rx] at hwf
  simp only [E5] at hc
  split at hwf
  ·rename_i e he
   rw [he] at hc
   simp only [ae] at hwf
   simp only at hc
   split at hc
   ·rename_i c l hb hl
    simp at hc;subst hc
    obtain⟨h1,h2⟩:=Qr hL he hb
    have ht:=h1 (P9 hwf.1 hacc)
    have hcw:c=want:=hall.1
    subst hcw
    have hacc':pt a (acc++[(t,c)]):=by
     intro g hg
     rcases az.1 hg with hg | hg
     ·exact hacc g hg
     ·simp at hg;subst hg;exact ht
    have:=Azd hL hwf.2 hl hacc' hall.2
    intro g hg
    rcases ah.1 hg with rfl | hg
    ·exact ht
    ·exact this g hg
   ·cases hc
  ·cases hwf
theorem U_ {r:Bool} {cs:List (Bool×Bool)} {x:Cl} (hL:Cc S w ρ a L) (hcs:E5 L cur=some cs) (h:(I4 cur r cs x).ok P):(pt a cur->x.ok P):=by
 intro hp
 unfold I4 at h
 cases hc:cur.isEmpty with
 | true=>rw [hc] at h;exact h
 | false=>
  rw [hc] at h
  cases r with
  | true=>exact h.1 (Yb hL hcs hp)
  | false=>exact h (Yb hL hcs hp)
theorem Aab {r:Bool} {cs:List (Bool×Bool)} {x:Cl} (hL:Cc S w ρ a L) (hcs:E5 L cur=some cs) (hr:r=true) (hc:cur.isEmpty=false) (hwf:Rx L [] cur=true) (h:(I4 cur r cs x).ok P) (hn:¬pt a cur):x.keeps:=by
 unfold I4 at h
 subst hr
 rw [hc] at h
 exact h.2 λ hall=>hn (Azd hL hwf hcs Cg hall)
theorem Abf {n:Nat} {ops:Array Oper} {c:Cl} {i:Nat} {o:Oper} {L':List Ent} {R':List Res} {k:Option Cl} (ho:ops[i]? = some o) (h:Agr P n ops L R c o=some (L',R',k))
  (hk:∀ x,k=some x->x.ok P) (hs:Sat n C L R a w) {K:Act->World->Prop} (hK:∀ a' w',Sat n C L' R' a' w'->K a' w'):J8 P ops i K a w:=by
 obtain⟨hdef,hsize,S,ρ,hI,hL⟩:=hs
 unfold Agr at h
 split at h
 ·cases h
 ·rename_i cur hcur
  obtain⟨hw1,hw2⟩:=Age hL hcur
  simp only at h
  split at h
  ·rename_i out cs e1 e2
   cases hg:Mu L cur (isR c) (E4 c) o with
   | false=>rw [hg] at h;simp at h
   | true=>
    rw [hg] at h
    simp only [cond_true] at h
    have hall:k=out.c.map (I4 cur (isR c) cs)/\R'=out.R/\(∀ d,o.dst=some d->d<n/\cur.all (λ g=>!(Nat.beq g.1 d))=true/\L'=Sv L d cur out.v)/\(o.dst=none->cur.isEmpty=true/\L'=L):=by
     split at h
     ·rename_i d hd
      cases hb:(Nat.blt d n&&cur.all (λ g=>!(Nat.beq g.1 d))) with
      | false=>rw [hb] at h;simp at h
      | true=>
       rw [hb] at h
       simp only [cond_true,al,aQ] at h
       obtain⟨h1,h2,h3⟩:=h
       simp only [ae] at hb
       refine⟨h3.symm,h2.symm,λ d' hd'=>?_,λ hn=>by rw [hd] at hn;cases hn⟩
       rw [hd] at hd';cases hd'
       exact⟨by have:=hb.1;simpa [Nat.blt_eq] using this,hb.2,h1.symm⟩
     ·rename_i hd
      cases hc:cur.isEmpty with
      | false=>rw [hc] at h;simp at h
      | true=>
       rw [hc] at h
       simp only [cond_true,al,aQ] at h
       obtain⟨h1,h2,h3⟩:=h
       exact⟨h3.symm,h2.symm,λ d hd'=>by rw [hd] at hd';(cases hd'),λ _=>⟨rfl,h1.symm⟩⟩
    obtain⟨hk',rfl,hd1,hd2⟩:=hall
    have hk2:∀ x,out.c=some x->(I4 cur (isR c) cs x).ok P:=λ x hx=>hk _ (by rw [hk',hx];rfl)
    unfold J8
    simp only [ho]
    by_cases hpt:pt a cur
    ·rw [if_pos (hw1.2 hpt)]
     refine⟨jD e1,Al9 hI hL hpt e1 (λ x hx=>U_ hL e2 (hk2 x hx) hpt) λ v w' S' ρ' hA=>?_⟩
     cases hd:o.dst with
     | some d=>
      obtain⟨g1,g2,rfl⟩:=hd1 d hd
      exact hK _ _ ⟨hdef,by simp [Act.put,hsize],S',ρ',hA.inv,Aaj hL hA.sub hA.same hA.pre (by rw [hsize];exact g1) g2 (λ _=>hA.rd) (λ h=>absurd hpt h)⟩
     | none=>
      obtain⟨g1,rfl⟩:=hd2 hd
      refine hK _ _ ⟨hdef,hsize,S',ρ',hA.inv,λ e he=>?_⟩
      obtain⟨g1,g2⟩:=hL e he
      refine⟨λ hp=>?_,g2⟩
      obtain⟨x,hx,hr⟩:=g1 hp
      exact⟨x,hx,hr.mono hA.sub hA.same hA.pre⟩
    ·have hne:cur.isEmpty=false:=by
      cases hc:cur.isEmpty with
      | false=>rfl
      | true=>simp at hc;subst hc;exact absurd Cg hpt
     have hnw:¬(Region.wanted o (yielded ops a.tmps)=true):=λ h=>hpt (hw1.1 h)
     rw [if_neg hnw]
     unfold Mu at hg
     rw [hne] at hg
     simp only [bk,ae,aO,bn] at hg
     obtain⟨ρ',hI',hpre⟩:=hI.skip (Abg e1 hg.1 λ hr x hx=>Aab hL e2 hr hne (hg.2.resolve_left (by rw [hr];simp)) (hk2 x hx) hpt)
     cases hd:o.dst with
     | some d=>
      obtain⟨g1,g2,rfl⟩:=hd1 d hd
      exact hK _ _ ⟨hdef,by simp [Act.put,hsize],S,ρ',hI',Aaj hL (λ _ h=>h) (λ _ _=>rfl) hpre (by rw [hsize];exact g1) g2 (λ h=>absurd h hpt) (λ _=>rfl)⟩
     | none=>
      have:=(hd2 hd).1
      rw [hne] at this;cases this
  ·cases h
theorem X5 {n:Nat} {ops:Array Oper} {K:Act->World->Prop}:∀ {is:List Nat} {L:List Ent} {R:List Res} {cls:List Cl} {L':List Ent} {R':List Res} {cs:List Cl} {a:Act} {w:World},
  V0 P n ops is L R cls=some (L',R',cs)->Di P cs->Sat n C L R a w->(∀ a' w',Sat n C L' R' a' w'->K a' w')->Rw P ops K is a w
 | [],L,R,cls,L',R',cs,a,w,h,_,hs,hK=>by
  simp [V0] at h
  obtain⟨rfl,rfl,rfl⟩:=h
  exact hK a w hs
 | i :: is, L, R, cls, L', R', cs, a, w, h, hok, hs, hK => by
  simp only [V0] at h
  split at h
  ·cases h
  ·rename_i o ho
   show J8 P ops i (Rw P ops K is) a w
   split at h
   ·cases h
   ·rename_i L1 R1 c1 e1
    split at h
    ·rename_i L2 R2 cs2 e2
     simp at h
     obtain⟨rfl,rfl,rfl⟩:=h
     exact Abf ho e1 (λ x hx=>by cases hx;exact hok.1) hs λ a' w' hs'=>X5 e2 hok.2 hs' hK
    ·cases h
   ·rename_i L1 R1 e1
    exact Abf ho e1 (λ x hx=>by cases hx) hs λ a' w' hs'=>X5 h hok hs' hK
end
end Go.SL
