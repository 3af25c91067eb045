import Derived.Test.YtaplakgdkkmpfaaGreatDoorSlR
namespace Go.SL
abbrev St:=List (Nat×AV)
def mkL:St->List Ent
 | []=>[]
 | (t,v)::r=>⟨t,[],v⟩::mkL r
def sel (L:List Ent):List Nat->Option St
 | []=>some []
 | t::ts=>match Ct L t,sel L ts with
  | some e,some r=>bif e.p.isEmpty then some ((t,e.v)::r) else none
  | _,_=>none
def Ma:St->List Nat
 | []=>[]
 | (t,_)::r=>t::Ma r
def W (ro:Option Nat) (P:Program) (n:Nat) (C:Ctx) (Q:Exit->Act->World->Prop) (c:Code) (st:St) (R:List Res):Prop:=
 ∀ a w,Sat n C (mkL st) R a w->c.wpIn (FR ro) 0 P Q a w
section
variable {ro:Option Nat} {P:Program} {n:Nat} {C:Ctx} {Q:Exit->Act->World->Prop} {st st':St} {R R':List Res} {S S':Nat->Prop} {w w':World} {ρ ρ':List Value} {a:Act}
theorem Dh:∀ {st:St} {e:Ent},e∈mkL st->e.p=[]
 | [],e,h=>by cases h
 | (t,v)::r,e,h=>by
  rcases ag.1 h with rfl | h
  ·rfl
  ·exact Dh h
theorem Ti:∀ {ts:List Nat} {L:List Ent} {st:St},sel L ts=some st->∀ e,e∈mkL st->e∈L
 | [],L,st,h,e,he=>by simp [sel] at h;subst h;cases he
 | t :: ts, L, st, h, e, he => by
  simp only [sel] at h
  split at h
  ·rename_i x r h1 h2
   cases hp:x.p.isEmpty with
   | false=>rw [hp] at h;simp at h
   | true=>
    rw [hp] at h
    simp at h;subst h
    obtain⟨g1,g2⟩:=Bi h1
    rcases ag.1 he with rfl | he
    ·have:(⟨t,[],x.v⟩:Ent)=x:=by
      obtain⟨xt,xp,xv⟩:=x
      simp at hp g2 ⊢
      exact⟨g2.symm,hp⟩
     rw [this];exact g1
    ·exact Ti h2 e he
  ·cases h
theorem Sat.sub {L L':List Ent} (h:Sat n C L R a w) (hs:∀ e,e∈L'->e∈L):Sat n C L' R a w:=by
 obtain⟨h1,h2,S,ρ,h3,h4⟩:=h
 exact⟨h1,h2,S,ρ,h3,λ e he=>h4 e (hs e he)⟩
def yV (st:St) (c:Operand):Option Bool:=
 match c with
 | .tmp t=>match Ct (mkL st) t with
  | some e=>Ez e.v
  | none=>none
 | _=>none
def Ex {σ:Type} (n:Nat) (C:Ctx) (φ:σ->Prop) (st:σ->St) (R:σ->List Res) (a:Act) (w:World):Prop:=∃ s,φ s/\Sat n C (mkL (st s)) (R s) a w
theorem Inv.pick (hI:Inv C S w ρ R) {pi:List Nat} {Rp R2:List Res} (hn:Cf pi=true) (hp:Er R pi=some Rp) (hr:Dr (idxOf pi) Rp=some R2) (hh:Pre C.h (A8 ρ pi)) :
  Inv C S w (A8 ρ pi) R2:=by
 obtain⟨st,hid,foots⟩:=hI.start hn hp hr
 refine⟨st.len,st.ok,st.dis,λ j r h b h1 h2 h3=>?_,hI.sub,hI.sup,hI.frm,hI.size,hI.os,hI.tape,hI.output,hh,hI.gl⟩
 obtain⟨i,r0,k1,k2,k3,k4⟩:=foots j r h h1 h2
 exact hI.own i r0 h b k2 k3 (by rw [←k4];exact h3)
def M0 (f:Nat->Option Nat):St->Option St
 | []=>some []
 | (t,v)::r=>match v.norm.ren f,M0 f r with
  | some v',some r'=>some ((t,v')::r')
  | _,_=>none
theorem Oy {f:Nat->Option Nat}:∀ {st st':St},M0 f st=some st'->∀ e,e∈mkL st'->∃ e0,e0∈mkL st/\e0.t=e.t/\e.p=[]/\e0.v.norm.ren f=some e.v
 | [],st',h,e,he=>by simp [M0] at h;subst h;cases he
 | (t, v) :: r, st', h, e, he => by
  simp only [M0] at h
  split at h
  ·rename_i v' r' h1 h2
   simp at h;subst h
   rcases ag.1 he with rfl | he
   ·exact⟨⟨t,[],v⟩,ak,rfl,rfl,h1⟩
   ·obtain⟨e0,g1,g2,g3,g4⟩:=Oy h2 e he
    exact⟨e0,ai _ g1,g2,g3,g4⟩
  ·cases h
def Fi:Nat->List Nat->Nat->Bool
 | 0,_,_=>true
 | k+1,i::r,j=>Nat.beq i j&&Fi k r (j+1)
 | _+1,[],_=>false
theorem I1:∀ {k:Nat} {l:List Nat} {j:Nat},Fi k l j=true->∀ i,i<k->l[i]? = some (j+i)
 | 0,_,_,_,i,h=>by omega
 | k+1,[],_,h,_,_=>by simp [Fi] at h
 | k+1,a::r,j,h,i,hi=>by
  simp only [Fi,af] at h
  cases i with
  | zero=>simp;exact ac h.1
  | succ i=>simp;rw [I1 h.2 i (by omega)];congr 1;omega
def T5 (k:Nat) (pi ts:List Nat) (st:St) (R:List Res):Option (St×List Res):=
 bif Cf pi&&Fi k pi 0 then
  match sel (mkL st) ts,Er R pi with
  | some st1,some Rp=>match M0 (idxOf pi) st1,Dr (idxOf pi) Rp with
   | some st',some R'=>some (st',R')
   | _,_=>none
  | _,_=>none
 else none
theorem Sat.re {k:Nat} {pi ts:List Nat} (hk:C.h.length<=k) (h:T5 k pi ts st R=some (st',R')) (hs:Sat n C (mkL st) R a w):Sat n C (mkL st') R' a w:=by
 unfold T5 at h
 cases hb:(Cf pi&&Fi k pi 0) with
 | false=>rw [hb] at h;simp at h
 | true=>
  rw [hb] at h
  simp only [cond_true] at h
  simp only [af] at hb
  split at h
  ·rename_i st1 Rp e1 e2
   split at h
   ·rename_i st2 R2 e3 e4
    simp at h
    obtain⟨rfl,rfl⟩:=h
    obtain⟨h1,h2,S,ρ,h3,h4⟩:=hs.sub (Ti e1)
    have hid:∀ (i j:Nat) x,idxOf pi i=some j->ρ[i]? = some x->(A8 ρ pi)[j]? = some x:=(h3.start hb.1 e2 e4).2.1
    refine⟨h1,h2,S,A8 ρ pi,h3.pick hb.1 e2 e4 λ i v hv=>?_,λ e he=>?_⟩
    ·have hi:i<C.h.length:=(aa.1 hv).1
     have:=I1 hb.2 i (by omega)
     simp only [aQ] at this
     have hp:=h3.pre i v hv
     simp [A8,this,List.getD_eq_getElem?_getD,hp]
    ·obtain⟨e0,g1,g2,g3,g4⟩:=Oy e3 e he
     have hp0:=Dh g1
     obtain⟨k1,_⟩:=h4 e0 g1
     obtain⟨v,hv,hr⟩:=k1 (by rw [hp0];exact Ba)
     refine⟨λ _=>⟨v,by rw [←g2];exact hv,hr.norm.ren hid _ g4⟩,λ hn=>absurd (by rw [g3];exact Ba) hn⟩
   ·cases h
  ·cases h
def D.frz (i:Nat) (sz:Nat) (rows:List (List Pd)):D->D
 | .os j=>bif Nat.beq i j then .p (.s rows) else .os j
 | .osb j lo n s=>bif Nat.beq i j&&Nat.beq s sz then .p (.s ((rows.drop lo).take n)) else .osb j lo n s
 | d=>d
def AV.frz (i:Nat) (sz:Nat) (rows:List (List Pd)):AV->AV
 | .d x=>.d (x.frz i sz rows)
 | .agg ds=>.agg (ds.map (D.frz i sz rows))
 | .tup l=>.tup l
def Res.frz (i:Nat) (sz:Nat) (rows:List (List Pd)):Res->Res
 | .box t cells=>.box t (cells.map (D.frz i sz rows))
 | r=>r
def Ul (i:Nat) (st:St) (R:List Res):Option (St×List Res):=
 match R[i]? with
 | some (.sl _ sz rows)=>some (st.map λ x=>(x.1,x.2.frz i sz rows),(R.set i .non).map (Res.frz i sz rows))
 | _=>none
theorem N4 {f:AV->AV}:∀ {st:St} {e:Ent},e∈mkL (st.map λ x=>(x.1,f x.2))->∃ e0,e0∈mkL st/\e0.t=e.t/\e.p=[]/\e.v=f e0.v
 | [],e,h=>by cases h
 | (t,v)::r,e,h=>by
  rcases ag.1 h with rfl | h
  ·exact⟨⟨t,[],v⟩,ak,rfl,rfl,rfl⟩
  ·obtain⟨e0,g1,g2⟩:=N4 h
   exact⟨e0,ai _ g1,g2⟩
theorem Inv.frz {i e size:Nat} {rows:List (List Pd)} (h3:Inv C S w ρ R) (hi:R[i]? = some (.sl e size rows)) :
  ∃ S',(∀ b,S b->S' b)/\Inv C S' w ρ ((R.set i .non).map (Res.frz i size rows))/\∀ v d,RdA S w ρ v d->RdA S' w ρ v (d.frz i size rows):=by
 have hil:i<ρ.length:=by rw [h3.len];exact (aa.1 hi).1
 have hρ:ρ[i]? = some ρ[i]:=am hil
 have hF:=h3.freeze hi hρ
 have hrow:ρ[i].oneCell'=true->RdP (λ b=>S b\/(Res.sl e size rows).foot ρ[i] b) w ρ[i] (.s rows):=λ h1=>Res.ok0.frozen ((h3.ok i _ _ hi hρ).live h1)
 have hd : ∀ v d, Rd S w ρ v d -> Rd (λ b => S b \/ (Res.sl e size rows).foot ρ[i] b) w ρ v (d.frz i size rows) := by
  intro v d hr
  have hm:=hr.mono (S':=λ b=>S b\/(Res.sl e size rows).foot ρ[i] b) (w':=w) (ρ':=ρ) (λ _ h=>.inl h) (λ _ _=>rfl) (Pre.refl _)
  cases d with
  | os j=>
   simp only [D.frz]
   cases hb:Nat.beq i j with
   | false=>simpa using hm
   | true=>
    have:=ac hb
    subst this
    have h1:=hr.one
    have:=hr.os_inv
    rw [hρ] at this;cases this
    exact .p (hrow h1)
  | osb j lo m sz=>
   simp only [D.frz]
   cases hb:Nat.beq i j&&Nat.beq sz size with
   | false=>simpa using hm
   | true=>
    simp only [af] at hb
    have:=ac hb.1
    subst this
    have:=ac hb.2
    subst this
    cases hr with
    | @osb _ _ _ _ q ad len cap g1 hl hc hq hq2=>
     rw [hρ] at g1
     have g3:ρ[i] = .slice ad len cap:=by simpa using g1
     have hF:=hrow (by rw [g3];rfl)
     have hkk:=(h3.ok i _ _ hi hρ).live (by rw [g3];rfl)
     have hz:∀ row,row∈rows->row.length=sz:=by
      rcases hkk with⟨_,h0⟩ | ⟨b,o,cp,vs,_,_,_,_,_,h0,_⟩
      ·subst h0;simp
      ·exact h0
     have g2:ρ[i] = .slice ad len cap:=by simpa using g1
     rw [g2] at hF
     have hcut:=RdP.cut hF (l:=lo) (h:=lo+m) (by omega) hl hz
     rw [show (lo+m)-lo=m from by omega,List.drop_take,show (lo+m)-lo=m from by omega] at hcut
     have hF0:=hF
     rw [g2]
     simp only [cond_true]
     by_cases hlc:lo<cap
     ·rw [if_neg (by omega)] at hcut
      rw [hq2 hlc]
      exact .p hcut
     ·have hlc:cap=lo:=by omega
      subst hlc
      have hn0:m=0:=by
       obtain⟨_,_,hsf,hle,_⟩:=hF0.slice_form
       cases hsf;omega
      subst hn0
      simp only [List.take_zero]
      exact .p (.s _ ⟨0,0,none⟩ _ 0 [] (λ _ _=>undef) (ba _) (by simp) (λ _=>by simp) (by simp) (by simp) (by simp))
  | _=>exact hm
 have ha:∀ v d,RdA S w ρ v d->RdA (λ b=>S b\/(Res.sl e size rows).foot ρ[i] b) w ρ v (d.frz i size rows):=by
  intro v d hr
  cases hr with
  | d h=>exact .d (hd _ _ h)
  | agg h=>exact .agg (h.map_right λ _ _ h=>hd _ _ h)
  | tup hl h=>exact .tup hl λ j x a hx ha=>(h j x a hx ha).mono (λ _ h=>.inl h) (λ _ _=>rfl) (Pre.refl _)
 have hget:∀ (j:Nat) r,((R.set i .non).map (Res.frz i size rows))[j]? = some r->∃ r0,(R.set i .non)[j]? = some r0/\r=r0.frz i size rows:=by
  intro j r hj
  rw [al] at hj
  obtain⟨r0,g1,g2⟩:=A5 hj
  exact⟨r0,g1,g2.symm⟩
 have hfoot:∀ (r0:Res) v,(r0.frz i size rows).foot v=r0.foot v:=by intro r0 v;cases r0 <;> rfl
 refine⟨_,λ _ h=>.inl h,⟨by rw [aL];exact hF.len,λ j r v hj hv=>?_,λ j k r r2 v v2 b hjk hj hk hv hv2 hf hf2=>?_,λ j r v b hj hv hf=>?_,hF.sub,hF.sup,hF.frm,hF.size,hF.os,hF.tape,hF.output,hF.pre,hF.gl⟩,ha⟩
 ·obtain⟨r0,g1,rfl⟩:=hget j r hj
  have hok:=hF.ok j r0 v g1 hv
  rw [ax] at g1
  split at g1
  ·split at g1
   ·cases g1;exact .inr trivial
   ·cases g1
  ·have hok0:=h3.ok j r0 v g1 hv
   cases r0 with
   | box t cells=>
    rcases hok0 with h0 | ⟨b,vs,rfl,hb,hc⟩
    ·exact .inl h0
    ·exact .inr ⟨b,vs,rfl,hb,hc.map_right λ _ _ h=>hd _ _ h⟩
   | _=>exact hok
 ·obtain⟨r0,g1,rfl⟩:=hget j r hj
  obtain⟨r1,g2,rfl⟩:=hget k r2 hk
  rw [hfoot] at hf hf2
  exact hF.dis j k r0 r1 v v2 b hjk g1 g2 hv hv2 hf hf2
 ·obtain⟨r0,g1,rfl⟩:=hget j r hj
  rw [hfoot] at hf
  exact hF.own j r0 v b g1 hv hf
theorem Sat.frz {i:Nat} (h:Ul i st R=some (st',R')) (hs:Sat n C (mkL st) R a w):Sat n C (mkL st') R' a w:=by
 unfold Ul at h
 split at h
 ·rename_i e size rows hi
  simp only [ah,aw] at h
  obtain⟨rfl,rfl⟩:=h
  obtain⟨h1,h2,S,ρ,h3,h4⟩:=hs
  obtain⟨S',_,hI,ha⟩:=h3.frz hi
  refine⟨h1,h2,S',ρ,hI,λ e he=>?_⟩
  obtain⟨e0,g1,g2,g3,g4⟩:=N4 he
  have hp0:=Dh g1
  obtain⟨k1,_⟩:=h4 e0 g1
  obtain⟨v,hv,hr⟩:=k1 (by rw [hp0];exact Ba)
  refine⟨λ _=>⟨v,by rw [←g2];exact hv,by rw [g4];exact ha _ _ hr⟩,λ hn=>absurd (by rw [g3];exact Ba) hn⟩
 ·cases h
def G8 (t:Nat) (v:AV):St->St
 | []=>[]
 | (u,x)::r=>bif Nat.beq u t then (u,v)::G8 t v r else (u,x)::G8 t v r
def E8 (t:Nat):St->Bool
 | []=>true
 | (u,x)::r=>(!(Nat.beq u t) || match x with | .d (.p (.v (.slice none 0 0)))=>true | _=>false)&&E8 t r
def T7 (t e size:Nat) (st:St) (R:List Res):Option (St×List Res):=
 bif E8 t st then some (G8 t (.d (.os R.length)) st,R++[.sl e size []]) else none
theorem Jo {t:Nat} {v:AV}:∀ {st:St} {e:Ent},e∈mkL (G8 t v st)->(e.t=t/\e.p=[]/\e.v=v/\∃ x,⟨t,[],x⟩∈mkL st/\(E8 t st=true->∃ y,x=y/\(match y with | .d (.p (.v (.slice none 0 0)))=>true | _=>false)=true))\/e∈mkL st
 | [],e,h=>by cases h
 | (u, x) :: r, e, h => by
  simp only [G8] at h
  cases hb:Nat.beq u t with
  | true=>
   rw [hb] at h
   simp only [cond_true] at h
   have:=ac hb
   subst this
   rcases ag.1 h with rfl | h
   ·refine .inl ⟨rfl,rfl,rfl,x,ak,λ hn=>⟨x,rfl,?_⟩⟩
    simp only [E8,hb,bv,bn,af] at hn
    exact hn.1
   ·rcases Jo h with⟨g1,g2,g3,y,g4,g5⟩ | h
    ·refine .inl ⟨g1,g2,g3,y,ai _ g4,λ hn=>g5 ?_⟩
     simp only [E8,af] at hn
     exact hn.2
    ·exact .inr (ai _ h)
  | false=>
   rw [hb] at h
   simp only [cond_false] at h
   rcases ag.1 h with rfl | h
   ·exact .inr ak
   ·rcases Jo h with⟨g1,g2,g3,y,g4,g5⟩ | h
    ·refine .inl ⟨g1,g2,g3,y,ai _ g4,λ hn=>g5 ?_⟩
     simp only [E8,af] at hn
     exact hn.2
    ·exact .inr (ai _ h)
theorem Sat.own {t e size:Nat} (h:T7 t e size st R=some (st',R')) (hs:Sat n C (mkL st) R a w):Sat n C (mkL st') R' a w:=by
 unfold T7 at h
 cases hb:E8 t st with
 | false=>rw [hb] at h;simp at h
 | true=>
  rw [hb] at h
  simp at h
  obtain⟨rfl,rfl⟩:=h
  obtain⟨h1,h2,S,ρ,h3,h4⟩:=hs
  refine⟨h1,h2,S,ρ++[.slice none 0 0],h3.push (.sl e size []) (.slice none 0 0) (λ _ _=>rfl) (ae _) rfl rfl rfl (.inr (.inl ⟨rfl,rfl⟩)) (by simp [Res.foot]),λ x hx=>?_⟩
  rcases Jo hx with⟨g1,g2,g3,y,g4,g5⟩ | hx
  ·obtain⟨z,rfl,hz⟩:=g5 hb
   obtain⟨v,hv,hr⟩:=(h4 _ g4).1 Ba
   split at hz
   ·have:=hr.exact_inv
    subst this
    refine⟨λ _=>⟨.slice none 0 0,by rw [g1];exact hv,by rw [g3];exact .d (.os (by rw [←h3.len];simp) rfl)⟩,λ hn=>absurd (by rw [g2];exact Ba) hn⟩
   ·cases hz
  ·obtain⟨k1,k2⟩:=h4 x hx
   refine⟨λ hp=>?_,k2⟩
   obtain⟨v,hv,hr⟩:=k1 hp
   exact⟨v,hv,hr.mono (λ _ h=>h) (λ _ _=>rfl) (Pre.append _ _)⟩
def AV.mapD (f:D->D):AV->AV
 | .d x=>.d (f x)
 | .agg ds=>.agg (ds.map f)
 | .tup l=>.tup l
def Res.mapD (f:D->D):Res->Res
 | .box t cells=>.box t (cells.map f)
 | r=>r
theorem cu (f:D->D) (r:Res) (v:Value):(r.mapD f).foot v=r.foot v:=by cases r <;> rfl
theorem Inv.mapD (h:Inv C S w ρ R) {f:D->D} (hf:∀ v d,Rd S w ρ v d->Rd S w ρ v (f d)):Inv C S w ρ (R.map (Res.mapD f)):=by
 have hget:∀ (j:Nat) r,(R.map (Res.mapD f))[j]? = some r->∃ r0,R[j]? = some r0/\r=r0.mapD f:=by
  intro j r hj
  rw [al] at hj
  obtain⟨r0,g1,g2⟩:=A5 hj
  exact⟨r0,g1,g2.symm⟩
 refine⟨by rw [aL];exact h.len,λ j r v hj hv=>?_,λ j k r r2 v v2 b hjk hj hk hv hv2 hf hf2=>?_,λ j r v b hj hv hf=>?_,h.sub,h.sup,h.frm,h.size,h.os,h.tape,h.output,h.pre,h.gl⟩
 ·obtain⟨r0,g1,rfl⟩:=hget j r hj
  have hok:=h.ok j r0 v g1 hv
  cases r0 with
  | box t cells=>
   rcases hok with h0 | ⟨b,vs,rfl,hb,hc⟩
   ·exact .inl h0
   ·exact .inr ⟨b,vs,rfl,hb,hc.map_right λ _ _ h=>hf _ _ h⟩
  | _=>exact hok
 ·obtain⟨r0,g1,rfl⟩:=hget j r hj
  obtain⟨r1,g2,rfl⟩:=hget k r2 hk
  rw [cu] at hf hf2
  exact h.dis j k r0 r1 v v2 b hjk g1 g2 hv hv2 hf hf2
 ·obtain⟨r0,g1,rfl⟩:=hget j r hj
  rw [cu] at hf
  exact h.own j r0 v b g1 hv hf
theorem RdA.mapD {f:D->D} (hf:∀ v d,Rd S w ρ v d->Rd S w ρ v (f d)) {v:Value} {x:AV} (h:RdA S w ρ v x):RdA S w ρ v (x.mapD f):=by
 cases h with
 | d h=>exact .d (hf _ _ h)
 | agg h=>exact .agg (h.map_right λ _ _ h=>hf _ _ h)
 | tup hl h=>exact .tup hl h
def D.mv (i j:Nat):D->D
 | .os k=>bif Nat.beq i k then .os j else .os k
 | d=>d
def Yp (i:Nat) (st:St) (R:List Res):Option (St×List Res):=
 match R[i]? with
 | some (.sl e size rows)=>some (st.map λ x=>(x.1,x.2.mapD (D.mv i R.length)),(R.set i .non++[Res.sl e size rows]).map (Res.mapD (D.mv i R.length)))
 | _=>none
theorem Sat.mv {i:Nat} (h:Yp i st R=some (st',R')) (hs:Sat n C (mkL st) R a w):Sat n C (mkL st') R' a w:=by
 unfold Yp at h
 split at h
 ·rename_i e size rows hi
  simp only [ah,aw] at h
  obtain⟨rfl,rfl⟩:=h
  obtain⟨h1,h2,S,ρ,h3,h4⟩:=hs
  obtain⟨v,hv⟩:=h3.rho hi
  have hM:Inv C S w (ρ++[v]) (R.set i .non++[Res.sl e size rows]):=h3.move (r':=.sl e size rows) (v':=v) hi hv (λ _ _ _=>rfl) (ae _) rfl rfl rfl (λ k hk=>.inl hk)
   ((h3.ok i _ v hi hv).mono (λ _ h=>h) (λ _ _=>rfl) (Pre.append _ _) (λ _ _=>rfl))
  have hd:∀ x d,Rd S w (ρ++[v]) x d->Rd S w (ρ++[v]) x (d.mv i R.length):=by
   intro x d hr
   cases d with
   | os k=>
    simp only [D.mv]
    cases hb:Nat.beq i k with
    | false=>exact hr
    | true=>
     have:=ac hb
     subst this
     cases hr with
     | os g1 g2=>
      have:(ρ++[v])[i]? = some v:=Pre.append _ _ _ _ hv
      rw [this] at g1;cases g1
      exact .os (by rw [←h3.len];simp) g2
   | _=>exact hr
  refine⟨h1,h2,S,ρ++[v],hM.mapD hd,λ x hx=>?_⟩
  obtain⟨e0,g1,g2,g3,g4⟩:=N4 hx
  have hp0:=Dh g1
  obtain⟨k1,_⟩:=h4 e0 g1
  obtain⟨y,hy,hr⟩:=k1 (by rw [hp0];exact Ba)
  refine⟨λ _=>⟨y,by rw [←g2];exact hy,by rw [g4];exact (hr.mono (λ _ h=>h) (λ _ _=>rfl) (Pre.append _ _)).mapD hd⟩,λ hn=>absurd (by rw [g3];exact Ba) hn⟩
 ·cases h
def Hz:D->Bool
 | .p (.v (.slice none 0 0))=>true
 | _=>false
def Qt (i j e size:Nat) (st:St) (R:List Res):Option (St×List Res):=
 match R[i]? with
 | some (.box t cells)=>match cells[j]? with
  | some d=>bif Hz d then some (st,R.set i (.box t (cells.set j (.os R.length)))++[.sl e size []]) else none
  | none=>none
 | _=>none
theorem Inv.swap {r r':Res} {i:Nat} (h:Inv C S w ρ R) (hi:R[i]? = some r) (hok:∀ v,r.ok S w ρ v->r'.ok S w ρ v) (hf:∀ v,r'.foot v=r.foot v):Inv C S w ρ (R.set i r'):=by
 have key:∀ (j:Nat) r1,(R.set i r')[j]? = some r1->∃ r0,R[j]? = some r0/\(∀ v,r0.ok S w ρ v->r1.ok S w ρ v)/\∀ v,r1.foot v=r0.foot v:=by
  intro j r1 h1
  rw [ax] at h1
  split at h1
  ·rename_i e
   subst e
   split at h1
   ·cases h1;exact⟨r,hi,hok,hf⟩
   ·cases h1
  ·exact⟨r1,h1,λ _ h=>h,λ _=>rfl⟩
 refine⟨by rw [bR];exact h.len,λ j r1 v hj hv=>?_,λ j k r1 r2 v v2 b hjk hj hk hv hv2 hf hf2=>?_,λ j r1 v b hj hv hf=>?_,h.sub,h.sup,h.frm,h.size,h.os,h.tape,h.output,h.pre,h.gl⟩
 ·obtain⟨r0,g1,g2,_⟩:=key j r1 hj
  exact g2 v (h.ok j r0 v g1 hv)
 ·obtain⟨r0,g1,_,g3⟩:=key j r1 hj
  obtain⟨q0,m1,_,m3⟩:=key k r2 hk
  rw [g3] at hf;rw [m3] at hf2
  exact h.dis j k r0 q0 v v2 b hjk g1 m1 hv hv2 hf hf2
 ·obtain⟨r0,g1,_,g3⟩:=key j r1 hj
  rw [g3] at hf
  exact h.own j r0 v b g1 hv hf
theorem T6 {d:D} {x:Value} (hn:Hz d=true) (h:Rd S w ρ x d) (hl:ρ.length=R.length):Rd S w (ρ++[.slice none 0 0]) x (.os R.length):=by
 unfold Hz at hn
 split at hn
 ·cases h with
  | p h=>
   cases h
   exact .os (by rw [←hl];simp) rfl
 ·cases hn
theorem Sat.ownb {i j e size : Nat} (h : Qt i j e size st R = some (st', R')) (hs : Sat n C (mkL st) R a w) : Sat n C (mkL st') R' a w := by
 unfold Qt at h
 split at h
 ·rename_i t cells hi
  split at h
  ·rename_i d hj
   cases hb:Hz d with
   | false=>rw [hb] at h;simp at h
   | true=>
    rw [hb] at h
    simp at h
    obtain⟨rfl,rfl⟩:=h
    obtain⟨h1,h2,S,ρ,h3,h4⟩:=hs
    have hP:=h3.push (w':=w) (.sl e size []) (.slice none 0 0) (λ _ _=>rfl) (ae _) rfl rfl rfl (.inr (.inl ⟨rfl,rfl⟩)) (by simp [Res.foot])
    have hil:i<R.length:=(aa.1 hi).1
    have hi':(R++[Res.sl e size []])[i]? = some (.box t cells):=by rw [an hil];exact hi
    have hlen:=h3.len
    have hQ := hP.swap (r' := .box t (cells.set j (.os R.length))) hi' (λ v hv => by
     rcases hv with h0 | ⟨b,vs,rfl,hb',hc⟩
     ·exact .inl h0
     ·refine .inr ⟨b,vs,rfl,hb',c7 (by rw [bR];exact hc.length) λ k x d' hx hd=>?_⟩
      rw [ax] at hd
      split at hd
      ·rename_i e'
       subst e'
       split at hd
       ·cases hd
        have hr:=hc.both hx hj
        unfold Hz at hb
        split at hb
        ·cases hr with
         | p hr=>cases hr;exact .os (by rw [←hlen];simp) rfl
        ·cases hb
       ·cases hd
      ·exact hc.both hx hd) (λ _=>rfl)
    refine⟨h1,h2,S,ρ++[.slice none 0 0],by rw [List.set_append_left _ _ hil] at hQ;exact hQ,λ x hx=>?_⟩
    obtain⟨k1,k2⟩:=h4 x hx
    refine⟨λ hp=>?_,k2⟩
    obtain⟨v,hv,hr⟩:=k1 hp
    exact⟨v,hv,hr.mono (λ _ h=>h) (λ _ _=>rfl) (Pre.append _ _)⟩
  ·cases h
 ·cases h
def Pp (j:Nat):AV->Bool
 | .agg ds=>match ds[j]? with
  | some d=>Hz d
  | none=>false
 | _=>false
def T2 (j:Nat) (d:D):AV->AV
 | .agg ds=>.agg (ds.set j d)
 | v=>v
def Qr (t j e size:Nat) (st:St) (R:List Res):Option (St×List Res):=
 bif st.all (λ x=>!(Nat.beq x.1 t) || Pp j x.2) then some (st.map λ x=>(x.1,bif Nat.beq x.1 t then T2 j (.os R.length) x.2 else x.2),R++[.sl e size []]) else none
theorem Qv {f:Nat×AV->Nat×AV} (hf:∀ x,(f x).1=x.1):∀ {st:St} {e:Ent},e∈mkL (st.map f)->∃ v,(e.t,v)∈st/\(⟨e.t,[],v⟩:Ent)∈mkL st/\e.p=[]/\e.v=(f (e.t,v)).2
 | [],e,h=>by cases h
 | (t,v)::r,e,h=>by
  have h:e∈(⟨(f (t,v)).1,[],(f (t,v)).2⟩:Ent)::mkL (r.map f):=h
  rcases ag.1 h with rfl | h
  ·have:=hf (t,v)
   simp only at this
   refine⟨v,?_,?_,rfl,?_⟩ <;> simp only [this]
   ·exact ak
   ·exact ak
  ·obtain⟨u,g1,g2,g3,g4⟩:=Qv hf h
   exact⟨u,ai _ g1,ai _ g2,g3,g4⟩
theorem Sat.ownt {t j e size:Nat} (h:Qr t j e size st R=some (st',R')) (hs:Sat n C (mkL st) R a w):Sat n C (mkL st') R' a w:=by
 unfold Qr at h
 cases hb:(st.all λ x=>!(Nat.beq x.1 t) || Pp j x.2) with
 | false=>rw [hb] at h;simp at h
 | true=>
  rw [hb] at h
  simp only [cond_true,ah,aw] at h
  obtain⟨rfl,rfl⟩:=h
  obtain⟨h1,h2,S,ρ,h3,h4⟩:=hs
  refine⟨h1,h2,S,ρ++[.slice none 0 0],h3.push (.sl e size []) (.slice none 0 0) (λ _ _=>rfl) (ae _) rfl rfl rfl (.inr (.inl ⟨rfl,rfl⟩)) (by simp [Res.foot]),λ x hx=>?_⟩
  obtain⟨u,g1,g2,g3,g4⟩:=Qv (f:=λ x=>(x.1,bif Nat.beq x.1 t then T2 j (.os R.length) x.2 else x.2)) (λ _=>rfl) hx
  obtain⟨v,hv,hr⟩:=(h4 _ g2).1 Ba
  refine⟨λ _=>⟨v,hv,?_⟩,λ hn=>absurd (by rw [g3];exact Ba) hn⟩
  rw [g4]
  simp only at hr ⊢
  cases hc:Nat.beq x.t t with
  | false=>simp only [cond_false];exact hr.mono (λ _ h=>h) (λ _ _=>rfl) (Pre.append _ _)
  | true=>
   simp only [cond_true]
   have hn:=(aM.1 hb) _ g1
   simp only [hc,bv,bn] at hn
   cases hr with
   | agg hr=>
    rename_i vs ds
    simp only [Pp] at hn
    simp only [T2]
    split at hn
    ·rename_i d hj
     refine .agg (c7 (by rw [bR];exact hr.length) λ k y d' hy hd=>?_)
     rw [ax] at hd
     split at hd
     ·rename_i e'
      subst e'
      split at hd
      ·cases hd
       exact T6 hn (hr.both hy hj) h3.len
      ·cases hd
     ·exact (hr.both hy hd).mono (λ _ h=>h) (λ _ _=>rfl) (Pre.append _ _)
    ·cases hn
   | _=>simp [Pp] at hn
end
end Go.SL
