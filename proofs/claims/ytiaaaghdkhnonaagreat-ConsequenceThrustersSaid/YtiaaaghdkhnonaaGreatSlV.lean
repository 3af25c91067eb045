import Derived.Test.YtiaaaghdkhnonaaGreatSlQ
import Derived.RangeFuncNested
import Derived.RangeFuncLeaves
namespace Go.SL
section
variable {P:Program} {C:Ctx} {S S':Nat->Prop} {w w':World} {ρ ρ':List Value} {R R' R0:List Res} {L L' L0:List Ent} {a:Act} {n:Nat} {ops:Array Oper} {rs:List Rec}
def Ai (ops:Array Oper) (X:Nat->Bool):Prop:=∀ j o,X j=true->ops[j]? = some o->∀ e,e∈o.after->Region.binds .any e=true->X e.on=true
theorem Wh:∀ N,(Mg ops N).length=N
 | 0=>rfl
 | N+1=>by simp [Mg,Wh N]
theorem Aa9 {m i:Nat} (h:Ww m i=true):m.testBit i=true:=by
 have h1:(m >>> i) &&& 1=1:=aj h
 unfold Nat.testBit
 rw [Nat.and_comm,h1];rfl
theorem Alr {l:List Nat} {i:Nat}:∀ {es:List Edge} {m:Nat},(orE l es m).testBit i=true->m.testBit i=true\/∃ e,e∈es/\Region.binds .any e=true/\(e.on=i\/∃ m',l[e.on]? = some m'/\m'.testBit i=true)
 | [],m,h=>.inl h
 | e :: r, m, h => by
  simp only [orE] at h
  rcases Alr h with h | ⟨e',h1,h2⟩
  ·cases hb:(Region.binds .any e&&Nat.blt e.on l.length) with
   | false=>rw [hb] at h;exact .inl h
   | true=>
    rw [hb] at h
    simp only [cond_true] at h
    simp only [ab] at hb
    have h':(m ||| ((1 <<< e.on) ||| (l[e.on]?).getD 0)).testBit i=true:=h
    simp only [Nat.testBit_or,aA] at h'
    rcases h' with h' | h' | h'
    ·exact .inl h'
    ·refine .inr ⟨e,ak,hb.1,.inl ?_⟩
     rw [Nat.testBit_shiftLeft] at h'
     simp only [ab,dE] at h'
     rcases aN e.on i with hlt | hge
     ·have:=Nat.testBit_one_eq_true_iff_self_eq_zero.1 h'.2
      omega
     ·omega
    grind
  grind
theorem Avw {X:Nat->Bool} (hX:Ai ops X) (N:Nat):∀ {j i:Nat} {m:Nat},(Mg ops N)[j]? = some m->m.testBit i=true->X j=true->X i=true:=by
 induction N with
 | zero=>intro j i l h _ _;simp [Mg] at h
 | succ N ih=>
  intro j i m h hi hj
  simp only [Mg] at h
  rcases Du h with h | ⟨e,h⟩
  ·exact ih h hi hj
  ·rw [Wh] at e
   subst e
   cases ho:ops[j]? with
   | none=>rw [ho] at h;subst h;simp at hi
   | some o=>
    rw [ho] at h
    simp only at h
    subst h
    rcases Alr hi with hi | ⟨e,he,hb,hi⟩
    ·simp at hi
    ·have hon:=hX j o hj ho e (Array.mem_toList_iff.1 he) hb
     grind
theorem Ou {X:Nat->Bool} (hX:Ai ops X) {i j:Nat} (h:Ww (((Mg ops ops.size)[j]?).getD 0) i=true) (hj:X j=true):X i=true:=by
 have h:=Aa9 h
 grind [Avw]
structure Aal (ops:Array Oper) (L0:List Ent) (rs:List Rec):Prop where
 flat:∀ e,e∈L0->e.p=[]
 back:∀ r,r∈rs->∀ e,e∈r.o.after->Region.binds .any e=true->e.on<r.i
 pair:∀ r q,r∈rs->q∈rs->r.i<q.i->Ww (((Mg ops ops.size)[q.i]?).getD 0) r.i=true\/Pq r q=true
theorem Yx (h:M3 ops L0 rs=true):Aal ops L0 rs:=by
 unfold M3 at h
 simp only [ab,aH] at h
 obtain⟨⟨h1,h2⟩,h3⟩:=h
 refine⟨λ e he=>by simpa using h1 e he,λ r hr e he hb=>?_,λ r q hr hq hlt=>?_⟩
 ·have:=h2 r hr
  rw [Array.all_eq_true_iff_forall_mem] at this
  have:=this e he
  rw [hb] at this
  simpa [Nat.blt_eq] using this
 ·have:=h3 r hr q hq
  simp only [aA] at this
  rcases this with h | h | h
  ·have:=bq h;omega
  ·exact .inl h
  ·exact .inr h
theorem Yq {need:List Ent} {d:Nat} (h:clear need d=true):∀ e,e∈need->d≠e.t/\∀ g,g∈e.p->g.1≠d:=by
 intro e he
 unfold clear at h
 have:=(aH.1 h) e he
 simp only [ab] at this
 refine⟨λ e'=>?_,λ g hg e'=>?_⟩
 ·subst e';simp at this
 ·have h2:=(aH.1 this.2) g hg
  subst e';simp at h2
structure A0z (r q:Rec):Prop where
 eff:r.eff=false\/q.eff=false
 d1:∀ d,r.o.dst=some d->(∀ e,e∈q.need->d≠e.t/\∀ g,g∈e.p->g.1≠d)/\(∀ g,g∈q.cur->g.1≠d)/\q.o.dst≠some d
 d2:∀ d,q.o.dst=some d->∀ e,e∈r.need->d≠e.t/\∀ g,g∈e.p->g.1≠d
 e1:r.eff=true->∀ i,i∈Na q->i∉D3 r/\i<r.Rin.length
 e2:q.eff=true->∀ i,i∈Na r->i∉D3 q/\i<q.Rin.length
theorem F2 {r q:Rec} (h:Pq r q=true):A0z r q:=by
 unfold Pq at h
 simp only [ab] at h
 obtain⟨⟨⟨⟨h1,h2⟩,h3⟩,h4⟩,h5⟩:=h
 refine⟨?_,λ d hd=>?_,λ d hd=>?_,λ he i hi=>?_,λ he i hi=>?_⟩
 ·simpa using h1
 ·rw [hd] at h2
  simp only [ab] at h2
  obtain⟨⟨g1,g2⟩,g3⟩:=h2
  refine⟨Yq g1,λ g hg e=>?_,λ e=>?_⟩
  ·simp only [aX] at g2
   have:=(ci.1 g2) g hg
   subst e;simp at this
  ·rw [e] at g3;simp at g3
 ·rw [hd] at h3
  exact Yq h3
 ·rw [he] at h4
  simp only [aR,aV] at h4
  have:=(aH.1 h4) i hi
  simp only [ab,aX] at this
  refine⟨λ hm=>?_,by have:=this.2;simpa [Nat.blt_eq] using this⟩
  rw [←Q2] at hm
  rw [hm] at this;simp at this
 ·rw [he] at h5
  simp only [aR,aV] at h5
  have:=(aH.1 h5) i hi
  simp only [ab,aX] at this
  refine⟨λ hm=>?_,by have:=this.2;simpa [Nat.blt_eq] using this⟩
  rw [←Q2] at hm
  rw [hm] at this;simp at this
def J (n:Nat) (C:Ctx) (L0:List Ent) (R0:List Res) (rs:List Rec) (X:Nat->Bool) (a:Act) (w:World):Prop:=
 a.defers=C.df/\a.tmps.size=n/\∃ S ρ,Inv C S w ρ (Eg X R0 rs)/\(∀ e,Akz rs L0 X e->V3 S w ρ a e) /\
  ∀ r i,r∈rs->r.fl=some i->X r.i=false->∃ h,ρ[i]? = some h/\h.oneCell'=false
structure Adf (C:Ctx) (rs:List Rec):Prop where
 inj:∀ r q i,r∈rs->q∈rs->r.fl=some i->q.fl=some i->r=q
 low:∀ r i,r∈rs->r.fl=some i->C.h.length<=i
theorem J3 {r:Rec} {i:Nat}:∀ {rs:List Rec},r∈rs->r.fl=some i->i∈Jh rs
 | [],h,_=>by cases h
 | x::rs,h,hf=>by
  rcases ag.1 h with rfl | h
  ·simp [Jh,hf]
  ·have:=J3 h hf
   unfold Jh
   grind
theorem Afa {l:List Nat} {i:Nat} (h:(Ev l i).isNone=true):i∉l:=by
 induction l with
 | nil=>simp
 | cons a r ih=>
  simp only [Ev] at h
  cases hb:Nat.beq a i with
  | true=>rw [hb] at h;simp at h
  | false=>
   rw [hb] at h
   simp only [cond_false] at h
   intro hm
   rcases ag.1 hm with rfl | hm
   ·simp at hb
   grind
theorem Tn:∀ {rs:List Rec},Fo (Jh rs)=true->∀ r q i,r∈rs->q∈rs->r.fl=some i->q.fl=some i->r=q
 | [],_,r,q,i,h,_,_,_=>by cases h
 | x :: rs, hn, r, q, i, hr, hq, h1, h2 => by
  cases hx:x.fl with
  | none=>
   simp only [Jh,hx] at hn
   rcases ag.1 hr with rfl | hr
   ·rw [hx] at h1;cases h1
   ·rcases ag.1 hq with rfl | hq
    ·rw [hx] at h2;cases h2
    ·exact Tn hn r q i hr hq h1 h2
  | some j=>
   simp only [Jh,hx,Fo,ab] at hn
   have hnot:=Afa hn.1
   rcases ag.1 hr with e1 | hr2
   ·rcases ag.1 hq with e2 | hq2
    ·rw [e1,e2]
    ·rw [e1,hx] at h1;cases h1
     exact absurd (J3 hq2 h2) hnot
   ·rcases ag.1 hq with e2 | hq2
    ·rw [e2,hx] at h2;cases h2
     exact absurd (J3 hr2 h1) hnot
    ·exact Tn hn.2 r q i hr2 hq2 h1 h2
theorem Inv.birth (h:Inv C S w ρ R) {i:Nat} {r:Res} {v d:Value} (hi:R[i]? = some r) (hd:ρ[i]? = some d) (hdd:d.oneCell'=false) (hC:C.h.length<=i)
  (hw:∀ b,b<w.heap.size->w'.heap[b]? = w.heap[b]?) (hsz:w.heap.size<=w'.heap.size) (ho:w'.os=w.os) (ht:Tp w w') (hp:w'.output=w.output)
  (hok:r.ok S w' (ρ.set i v) v) (hf:∀ b,r.foot v b->w.heap.size<=b/\b<w'.heap.size):Inv C S w' (ρ.set i v) R/\Pb ρ (ρ.set i v):=by
 have hil:i<ρ.length:=(aa.1 hd).1
 have hpre:Pb ρ (ρ.set i v):=by
  intro j x hj hx
  grind
 have key:∀ (j:Nat) x,(ρ.set i v)[j]? = some x->(j=i/\x=v)\/(j≠i/\ρ[j]? = some x):=by
  grind
 refine⟨⟨by simp [h.len],λ j r1 v1 h1 h2=>?_,λ j k r1 r2 v1 v2 b hjk h1 h2 h3 h4 h5 h6=>?_,λ j r1 v1 b h1 h2 h3=>?_,h.sub,λ b hb=>⟨aK (h.sup b hb).1 hsz,(h.sup b hb).2⟩,λ b hb hf=>(hw b (aK hb h.size)).trans (h.frm b hb hf),aw h.size hsz,ho.trans h.os,ht.trans h.tape,hp.trans h.output,λ j x hj=>?_,h.gl⟩,hpre⟩
 ·rcases key j v1 h2 with⟨rfl,rfl⟩ | ⟨hj,h2⟩
  ·rw [hi] at h1;cases h1;exact hok
  ·exact (h.ok j r1 v1 h1 h2).monoA (λ _ h=>h) (λ b hb=>hw b (h.sup b hb).1) hpre (λ b hb=>hw b (h.own j r1 v1 b h1 h2 hb).2.1)
 ·rcases key j v1 h3 with⟨rfl,rfl⟩ | ⟨hj,h3'⟩
  ·rcases key k v2 h4 with⟨rfl,_⟩ | ⟨hk,h4'⟩
   ·exact hjk rfl
   ·rw [hi] at h1;cases h1
    have:=(hf b h5).1
    have:=(h.own k r2 v2 b h2 h4' h6).2.1
    omega
  ·rcases key k v2 h4 with⟨rfl,rfl⟩ | ⟨hk,h4'⟩
   ·rw [hi] at h2;cases h2
    have:=(hf b h6).1
    have:=(h.own j r1 v1 b h1 h3' h5).2.1
    omega
   ·exact h.dis j k r1 r2 v1 v2 b hjk h1 h2 h3' h4' h5 h6
 ·rcases key j v1 h2 with⟨rfl,rfl⟩ | ⟨hj,h2⟩
  ·rw [hi] at h1;cases h1
   obtain⟨g1,g2⟩:=hf b h3
   exact⟨λ hb=>by have:=(h.sup b hb).1;omega,g2,.inr (aw h.size g1)⟩
  ·obtain⟨g1,g2,g3⟩:=h.own j r1 v1 b h1 h2 h3
   exact⟨g1,aK g2 hsz,g3⟩
 ·have hjl:j<C.h.length:=(aa.1 hj).1
  rw [bt (by omega)]
  exact h.pre j x hj
theorem Amt {d:Nat} {v:Value} {e:Ent} (h:V3 S w ρ a e) (hS:∀ b,S b->S' b) (hw:∀ b,S b->w'.heap[b]? = w.heap[b]?) (hρ:Pb ρ ρ') (h1:d≠e.t) (h2:∀ g,g∈e.p->g.1≠d):V3 S' w' ρ' (a.put (some d) v) e:=by
 have hp:e.p.all (λ g=>!(Nat.beq g.1 d))=true:=by
  rw [aH]
  intro g hg
  cases hb:Nat.beq g.1 d with
  | false=>rfl
  | true=>exact absurd (aj hb) (h2 g hg)
 refine⟨λ hpt=>?_,λ hpt=>?_⟩
 ·obtain⟨x,hx,hr⟩:=h.1 ((Lt hp).1 hpt)
  exact⟨x,by rw [Gm h1];exact hx,hr.monoA hS hw hρ⟩
 ·rw [Gm h1];exact h.2 λ k=>hpt ((Lt hp).2 k)
theorem Ada (hch:I5 P n ops L0 R0 rs L' R') (hs:Hb rs) (hany:Aal ops L0 rs) (hfl:Adf C rs) {X X':Nat->Bool} (hX:Ai ops X) {q:Rec} (hq:q∈rs) (hqX:X q.i=false)
  (hready:∀ e,e∈q.o.after->Region.binds .any e=true->X e.on=true) (hX':∀ j,X' j=(X j || decide (j=q.i))) (hJ:J n C L0 R0 rs X a w)
  {K:Act->World->Prop} (hK:∀ a' w',J n C L0 R0 rs X' a' w'->K a' w'):Gr P ops q.i K a w:=by
 obtain⟨hdef,hsize,S,ρ,hI,hE,hD⟩:=hJ
 have hrec:=J5 hch hq
 have hXc':Ai ops X':=by
  intro j o hj ho e he hb
  rw [hX'] at hj ⊢
  simp only [aA,dE] at hj ⊢
  rcases hj with hj | rfl
  ·exact .inl (hX j o hj ho e he hb)
  ·rw [hrec.op] at ho;cases ho
   exact .inl (hready e he hb)
 have hq':X' q.i=true:=by rw [hX'];simp
 have ahead:∀ r,r∈rs->r.i<q.i->Ww (((Mg ops ops.size)[q.i]?).getD 0) r.i=true->X r.i=true:=by
  intro r hr hlt hm
  have:=Ou hXc' hm hq'
  rw [hX'] at this
  simp only [aA,dE] at this
  rcases this with h | h
  ·exact h
  ·omega
 have behind:∀ r,r∈rs->q.i<r.i->X r.i=true->Pq q r=true:=by
  intro r hr hlt hx
  rcases hany.pair q r hq hr hlt with h | h
  ·have:=Ou hX h hx
   rw [hqX] at this;cases this
  ·exact h
 have early:∀ r,r∈rs->r.i<q.i->X r.i=false->Pq r q=true:=by
  intro r hr hlt hx
  rcases hany.pair r q hr hq hlt with h | h
  ·have:=ahead r hr hlt h
   rw [hx] at this;cases this
  ·exact h
 have uniq:∀ r,r∈rs->r.i=q.i->r=q:=by
  intro r hr hi
  obtain⟨k,hk,rfl⟩:=cr hr
  obtain⟨m,hm,rfl⟩:=cr hq
  have hp:=bS.1 hs
  rcases bL k m with h | h | h
  ·have:=hp k m hk hm h;omega
  ·subst h;rfl
  ·have:=hp m k hm hk h;omega
 have hPC:PC X rs:=by
  intro r r2 hr hr2 he he2 hlt hx
  rcases hany.pair r r2 hr hr2 hlt with h | h
  ·exact Ou hX h hx
  ·rcases (F2 h).eff with h | h
   ·rw [he] at h;cases h
   ·rw [he2] at h;cases h
 have hPCq:PC (λ i=>Nat.blt i q.i) rs:=by
  intro r r2 _ _ _ _ hlt hx
  rw [bp] at hx ⊢
  omega
 have hneed:Ci S w ρ a q.need:=by
  intro e he
  refine hE e ?_
  have late:∀ x,x∈rs->q.i<x.i->X x.i=true->J8 x e:=λ x hx hlt hxx d hd=>(F2 (behind x hx hlt hxx)).d2 d hd e he
  rcases Yt hch hs hq e he with⟨h1,h2⟩ | ⟨r,h1,h1',h2,h3,h4,h5⟩
  ·refine .inl ⟨h1,λ x hx hxx=>?_⟩
   rcases bL x.i q.i with h | h | h
   ·exact h2 x hx h
   ·rw [uniq x hx h] at hxx;rw [hqX] at hxx;cases hxx
   ·exact late x hx h hxx
  ·refine .inr ⟨r,h1,?_,h2,h3,h4,λ x hx hlt hxx=>?_⟩
   ·cases hxr:X r.i with
    | true=>rfl
    | false=>exact absurd rfl (((F2 (early r h1 h1' hxr)).d1 _ h2).1 e he).1
   ·rcases bL x.i q.i with h | h | h
    ·exact h5 x hx hlt h
    ·rw [uniq x hx h] at hxx;rw [hqX] at hxx;cases hxx
    ·exact late x hx h hxx
 have hown:q.eff=true->Eg X R0 rs=q.Rin/\Eg X' R0 rs=q.out.R:=by
  intro he
  have key:∀ r,r∈rs->r.eff=true->X r.i=Nat.blt r.i q.i:=by
   intro r hr hre
   rcases bL r.i q.i with h | h | h
   ·have hb:Nat.blt r.i q.i=true:=by rw [bp];exact h
    rw [hb]
    rcases hany.pair r q hr hq h with h' | h'
    ·exact ahead r hr h h'
    ·rcases (F2 h').eff with k | k
     ·rw [hre] at k;cases k
     ·rw [he] at k;cases k
   ·rw [uniq r hr h,hqX]
    cases hb:Nat.blt q.i q.i with
    | false=>rfl
    | true=>rw [bp] at hb;omega
   ·have hb:Nat.blt r.i q.i=false:=by
     cases hb:Nat.blt r.i q.i with
     | false=>rfl
     | true=>rw [bp] at hb;omega
    rw [hb]
    cases hx:X r.i with
    | false=>rfl
    | true=>
     rcases (F2 (behind r hr h hx)).eff with k | k
     ·rw [he] at k;cases k
     ·rw [hre] at k;cases k
  refine⟨(Ks key).trans (Vu hch hs hq),(Ks (Y:=λ i=>Nat.ble i q.i) λ r hr hre=>?_).trans (O_ hch hs hq)⟩
  rw [hX',key r hr hre]
  rcases bL r.i q.i with h | h | h
  ·have h1:Nat.blt r.i q.i=true:=by rw [bp];exact h
   have h2:Nat.ble r.i q.i=true:=Nat.ble_eq_true_of_le (by omega)
   rw [h1,h2];rfl
  ·rw [h];simp
  ·have h2:Nat.ble r.i q.i=false:=by
    cases hb:Nat.ble r.i q.i with
    | false=>rfl
    | true=>have:=bq hb;omega
   have h1:Nat.blt r.i q.i=false:=by
    cases hb:Nat.blt r.i q.i with
    | false=>rfl
    | true=>rw [bp] at hb;omega
   rw [h1,h2];simp;omega
 have hquiet:q.eff=false->Eg X' R0 rs=Eg X R0 rs:=by
  intro he
  refine Ks λ r hr hre=>?_
  rw [hX']
  have:¬(r.i=q.i):=λ h=>by rw [uniq r hr h,he] at hre;cases hre
  simp [this]
 have htouch:q.eff=false->∀ i,i∈Na q->q.Rin[i]? = (Eg X R0 rs)[i]?:=by
  intro he i hi
  rw [←Vu hch hs hq]
  refine W9 hch hs hPCq hPC λ r hr hre hne=>?_
  rcases bL r.i q.i with h | h | h
  ·have hb:Nat.blt r.i q.i=true:=by rw [bp];exact h
   have hxr:X r.i=false:=by
    cases hx:X r.i with
    | false=>rfl
    | true=>rw [hb,hx] at hne;exact absurd rfl hne
   exact (F2 (early r hr h hxr)).e1 hre i hi
  ·rw [uniq r hr h,he] at hre;cases hre
  ·have hb:Nat.blt r.i q.i=false:=by
    cases hb:Nat.blt r.i q.i with
    | false=>rfl
    | true=>rw [bp] at hb;omega
   have hxr:X r.i=true:=by
    cases hx:X r.i with
    | true=>rfl
    | false=>rw [hb,hx] at hne;exact absurd rfl hne
   exact (F2 (behind r hr h hxr)).e2 hre i hi
 have hev:q.fl=none->∃ out,I8 P q.need q.cur (Eg X R0 rs) q.c q.o=some out/\out.v=q.out.v/\out.c=q.out.c/\out.R=Eg X' R0 rs:=by
  intro hfn
  cases he:q.eff with
  | true=>
   obtain⟨h1,h2⟩:=hown he
   exact⟨q.out,by rw [h1];exact hrec.ev hfn,rfl,rfl,h2.symm⟩
  | false=>
   have hqq:F3 q.c q.o=true:=by have:=hrec.eff;rw [he,hfn] at this;simpa using this.symm
   have ht:∀ i,i∈deepen q.Rin (Kz q.o.op q.need)++Aq1 q.c q.Rin q.need->q.Rin[i]? = (Eg X R0 rs)[i]?:=λ i hi=>htouch he i (by unfold Na;rw [hfn];exact hi)
   obtain⟨_,h2⟩:=Wb hqq ht (hrec.ev hfn)
   exact⟨_,h2,rfl,rfl,(hquiet he).symm⟩
 have entries:∀ e,Akz rs L0 X' e->(Akz rs L0 X e/\J8 q e)\/(q.o.dst=some e.t/\e.p=q.cur/\e.v=q.out.v):=by
  intro e he
  have mono:∀ x,x∈rs->X x.i=true->X' x.i=true:=λ x _ hx=>by rw [hX',hx];rfl
  rcases he with⟨h1,h2⟩ | ⟨r,h1,h2,h3,h4,h5,h6⟩
  ·exact .inl ⟨.inl ⟨h1,λ x hx hxx=>h2 x hx (mono x hx hxx)⟩,h2 q hq hq'⟩
  ·by_cases hri:r.i=q.i
   ·rw [uniq r h1 hri] at h3 h4 h5
    exact .inr ⟨h3,h4,h5⟩
   ·have hxr:X r.i=true:=by
     rw [hX'] at h2
     simp only [aA,dE] at h2
     exact h2.resolve_right hri
    refine .inl ⟨.inr ⟨r,h1,hxr,h3,h4,h5,λ x hx hlt hxx=>h6 x hx hlt (mono x hx hxx)⟩,?_⟩
    rcases aN r.i q.i with h | h
    ·exact h6 q hq h hq'
    ·have hp:=(F2 (behind r h1 (by omega) hxr))
     intro d hd
     obtain⟨_,g2,g3⟩:=hp.d1 d hd
     refine⟨λ e'=>g3 (by rw [h3,e']),λ g hg=>?_⟩
     rw [h4] at hg
     exact g2 g hg
 have deads:∀ ρ',Pre ρ ρ'->∀ r i,r∈rs->r.fl=some i->X' r.i=false->∃ h,ρ'[i]? = some h/\h.oneCell'=false:=by
  intro ρ' hpre r i hr hfi hx
  rw [hX'] at hx
  simp only [bz] at hx
  obtain⟨h,g1,g2⟩:=hD r i hr hfi hx.1
  exact⟨h,hpre _ _ g1,g2⟩
 have fin:∀ v w' S' ρ',Inv C S' w' ρ' (Eg X' R0 rs)->(∀ b,S b->S' b)->(∀ b,S b->w'.heap[b]? = w.heap[b]?)->Pb ρ ρ' ->
   (∀ r i,r∈rs->r.fl=some i->X' r.i=false->∃ h,ρ'[i]? = some h/\h.oneCell'=false)->(pt a q.cur->RdA S' w' ρ' v q.out.v)->(pt a q.cur\/v=undef)->K (a.put q.o.dst v) w':=by
  intro v w' S' ρ' hinv hsub hsame hpre hdead hrd hv
  refine hK _ _ ⟨?_,?_,S',ρ',hinv,λ e he=>?_,hdead⟩
  ·cases hd:q.o.dst <;> exact hdef
  ·cases hd:q.o.dst <;> simp [Act.put,hsize]
  ·rcases entries e he with⟨h1,h2⟩ | ⟨h1,h2,h3⟩
   ·cases hd:q.o.dst with
    | none=>
     have hee:=hE e h1
     refine⟨λ hp=>?_,hee.2⟩
     obtain⟨x,hx,hr⟩:=hee.1 hp
     exact⟨x,hx,hr.monoA hsub hsame hpre⟩
    | some d=>
     obtain⟨g1,g2⟩:=h2 d hd
     exact Amt (hE e h1) hsub hsame hpre g1 g2
   ·rw [h1]
    obtain⟨d1,d2⟩:=hrec.dst e.t h1
    refine⟨λ hp=>⟨v,H8 (by rw [hsize];exact d1),by rw [h3];exact hrd ((Lt d2).1 (by rw [←h2];exact hp))⟩,λ hp=>?_⟩
    rw [h2] at hp
    have hnp:¬pt a q.cur:=λ k=>hp ((Lt d2).2 k)
    rw [hv.resolve_left hnp]
    exact H8 (by rw [hsize];exact d1)
 obtain⟨hw1,hw2⟩:=Abj hneed hrec.guard
 unfold Gr
 simp only [hrec.op]
 cases hfl':q.fl with
 | none=>
  obtain⟨out,ev1,ev2,ev3,ev4⟩:=hev hfl'
  by_cases hpt:pt a q.cur
  ·rw [if_pos (hw1.2 hpt)]
   refine⟨Yi ev1,Agi hI hneed hpt ev1 (λ x hx=>?_) λ v w' S' ρ' hA=>?_⟩
   ·rw [ev3] at hx
    exact Vg hneed hrec.cs (hrec.ok x hx) hpt
   ·rw [ev4,ev2] at hA
    exact fin v w' S' ρ' hA.inv hA.sub hA.same hA.pre.a (deads ρ' hA.pre) (λ _=>hA.rd) (.inl hpt)
  ·have hnw:¬(Region.wanted q.o (yielded ops a.tmps)=true):=λ h=>hpt (hw1.1 h)
   rw [if_neg hnw]
   have hne:q.cur.isEmpty=false:=by
    cases hc:q.cur.isEmpty with
    | false=>rfl
    | true=>simp at hc;rw [hc] at hpt;exact absurd B6 hpt
   have hg:=hrec.gb
   unfold Nv at hg
   rw [hne] at hg
   simp only [aV,ab,aA,aX] at hg
   obtain⟨ρ',hI',hpre⟩:=hI.skip (yB ev1 hg.1 λ hr x hx=>vE hneed hrec.cs hr hne (hg.2.resolve_left (by rw [hr];simp)) (hrec.ok x (by rw [←ev3];exact hx)) hpt)
   rw [ev4] at hI'
   cases hd:q.o.dst with
   | none=>have:=hrec.nodst hd;rw [hne] at this;cases this
   | some d=>
    have:=fin undef w S ρ' hI' (λ _ h=>h) (λ _ _=>rfl) hpre.a (deads ρ' hpre) (λ h=>absurd h hpt) (.inr rfl)
    rw [hd] at this
    exact this
 | some i=>
  have hspec:=Rj (hrec.flo i hfl')
  have heff:q.eff=false:=by rw [hrec.eff,hfl'];rfl
  have hcR:=hquiet heff
  by_cases hpt:pt a q.cur
  ·rw [if_pos (hw1.2 hpt)]
   obtain⟨dd,k1,k2⟩:=hD q i hq hfl' hqX
   have hil:i<ρ.length:=(aa.1 k1).1
   have htr:∀ {r':Res},q.Rin[i]? = some r'->(Eg X R0 rs)[i]? = some r':=λ g4=>by rw [←htouch heff i (by unfold Na;rw [hfl'];simp)];exact g4
   have hpre0:∀ v,Pb ρ (ρ.set i v):=by
    intro v j x hj hx
    rw [ay]
    split
    ·rename_i e;subst e;rw [k1] at hj;cases hj;rw [k2] at hx;cases hx
    ·exact hj
   have hdeads:∀ v:Value,∀ r j,r∈rs->r.fl=some j->X' r.i=false->∃ h,(ρ.set i v)[j]? = some h/\h.oneCell'=false:=by
    intro v r j hr hfj hx
    rw [hX'] at hx
    simp only [bz,dF] at hx
    obtain⟨h,m1,m2⟩:=hD r j hr hfj hx.1
    refine⟨h,?_,m2⟩
    rw [bt (λ e=>hx.2 (by subst e;rw [hfl.inj r q i hr hq hfj hfl']))]
    exact m1
   rcases hspec with⟨t,z,cells,r',g1,g2,g3,g4,g5⟩ | ⟨t,l,c0,o1,r1,r',c1,g1,g4,g2,g3,g6,g5⟩
   ·have hsame:(Res.box t cells)=r':=(Vg hneed hrec.cs (hrec.ok (.flt i (.box t cells) r') (by rw [g5])) hpt:Cl.ok P (.flt i (.box t cells) r'))
    subst hsame
    have hRi:=htr g4
    have hold:∀ b,b<w.heap.size->(w.alloc (.cells z.cells t)).heap[b]? = w.heap[b]?:=λ b hb=>Cp _ _ _ hb
    have hcells:A5 (Rd S w ρ) z.cells.toList cells:=Iy g3
    obtain⟨hI',hpre⟩:=hI.birth (w':=w.alloc (.cells z.cells t)) (v:=.pointer (some ⟨w.heap.size,0,none⟩)) hRi k1 k2 (hfl.low q i hq hfl') hold (by simp) rfl ⟨rfl,λ _=>by first | exact af _ | exact aJ _⟩ rfl
     (.inr ⟨_,z.cells,rfl,Ew _ _,hcells.mono λ _ _ h=>h.monoA (λ _ h=>h) (λ b hb=>hold b (hI.sup b hb).1) (hpre0 _)⟩)
     (λ b hb=>by simp [Res.foot] at hb;subst hb;simp)
    refine⟨(λ c hc=>by rw [g1] at hc;cases hc),Ds (v:=.pointer (some ⟨w.heap.size,0,none⟩)) (w':=w.alloc (.cells z.cells t)) ?_ (fin _ _ S _ (by rw [hcR];exact hI') (λ _ h=>h) (λ b hb=>hold b (hI.sup b hb).1) hpre (hdeads _) ?_ (.inl hpt))⟩
    ·have he:execOp a.eval q.o=execOp a.eval {q.o with op:=.alloc t}:=by rw [←g1]
     rw [he]
     simp [execOp,Instr.alloc,newVar,newRow,E3 g2]
    ·intro _
     rw [g5]
     exact .d (.o (by simp [hil]))
   ·have hcl:Cl.ok P (.fltm i c1 r1 r'):=Vg hneed hrec.cs (hrec.ok _ (by rw [g5])) hpt
    obtain⟨hc1,hsame⟩:=hcl
    subst hsame
    have hRi:=htr g4
    obtain⟨l0,nn,cs,e,r2,m1,m2,m3,m4,m5,m6⟩:=Yj (S:=S) (w:=w) g2 (λ x hx=>by rw [g6] at hx;cases hx;exact hc1) (λ b hb=>(hI.sup b hb).1)
    have hr2:r2=r1:=by rw [g3] at m3;simpa using m3.symm
    subst hr2
    have hold:∀ b,b<w.heap.size->(w.alloc (.cells cs e)).heap[b]? = w.heap[b]?:=λ b hb=>Cp _ _ _ hb
    have hlk:=Bq hneed hpt m1
    obtain⟨hI',hpre⟩:=hI.birth (w':=w.alloc (.cells cs e)) (v:=.slice (some ⟨w.heap.size,0,none⟩) nn nn) hRi k1 k2 (hfl.low q i hq hfl') hold (by simp) rfl ⟨rfl,λ _=>by first | exact af _ | exact aJ _⟩ rfl
     (.inr (m5 _)) (λ b hb=>by rw [m6 b hb];simp)
    refine⟨(λ c hc=>by rw [g1] at hc;cases hc),Ds (v:=.slice (some ⟨w.heap.size,0,none⟩) nn nn) (w':=w.alloc (.cells cs e)) ?_ (fin _ _ S _ (by rw [hcR];exact hI') (λ _ h=>h) (λ b hb=>hold b (hI.sup b hb).1) hpre (hdeads _) ?_ (.inl hpt))⟩
    ·have he:execOp a.eval q.o=execOp a.eval {q.o with op:=.makeSlice t l l}:=by rw [←g1]
     rw [he]
     simp only [execOp,hlk,Sem.run_bind,m4]
     rfl
    ·intro _
     rw [g5]
     exact .d (.os (by simp [hil]) rfl)
  ·have hnw:¬(Region.wanted q.o (yielded ops a.tmps)=true):=λ h=>hpt (hw1.1 h)
   rw [if_neg hnw]
   have hne:q.cur.isEmpty=false:=by
    cases hc:q.cur.isEmpty with
    | false=>rfl
    | true=>simp at hc;rw [hc] at hpt;exact absurd B6 hpt
   cases hd:q.o.dst with
   | none=>have:=hrec.nodst hd;rw [hne] at this;cases this
   | some d=>
    have:=fin undef w S ρ (by rw [hcR];exact hI) (λ _ h=>h) (λ _ _=>rfl) (Pre.refl ρ).a (deads ρ (Pre.refl _)) (λ h=>absurd h hpt) (.inr rfl)
    rw [hd] at this
    exact this
def unl (listed:Array Bool):Nat:=(listed.toList.filter λ b=>!b).length
theorem Zw {listed:Array Bool} {i:Nat} (h:listed[i]? = some false):unl (listed.setIfInBounds i true)+1=unl listed:=by
 obtain⟨l⟩:=listed
 simp only [unl,List.setIfInBounds_toArray]
 simp only [cQ] at h
 induction l generalizing i with
 | nil=>simp at h
 | cons x l ih=>
  cases i with
  | zero=>simp at h;subst h;simp
  | succ i=>
   grind
theorem A0t (hch:I5 P n ops L0 R0 rs L' R') (hidx:rs.map (·.i)=List.range ops.size) (hany:Aal ops L0 rs) (hfl:Adf C rs) {ro:Option Nat} {Q:Exit->Act->World->Prop} (hQ:∀ a' w',Sat n C L' R' a' w'->Q .normal a' w') :
  ∀ (fuel:Nat) (listed:Array Bool) (a:Act) (w:World),listed.size=ops.size->unl listed<=fuel->Ai ops (λ i=>listed.getD i false)->J n C L0 R0 rs (λ i=>listed.getD i false) a w ->
   wpAnyIn (FR ro) 0 P .any ops Q fuel listed a w:=by
 have hs:Hb rs:=by
  have:(rs.map (·.i)).Pairwise (· < ·):=by rw [hidx];exact List.pairwise_lt_range
  rw [List.pairwise_map] at this
  exact this
 have hget:∀ i,i<ops.size->∃ r,r∈rs/\r.i=i:=by
  intro i hi
  have:i∈rs.map (·.i):=by rw [hidx];simpa using hi
  obtain⟨r,hr,e⟩:=ao.1 this
  exact⟨r,hr,e⟩
 have hlt:∀ r,r∈rs->r.i<ops.size:=by
  intro r hr
  have:r.i∈rs.map (·.i):=ao.2 ⟨r,hr,rfl⟩
  rw [hidx] at this;simpa using this
 have done:∀ (listed:Array Bool) (a:Act) (w:World),listed.size=ops.size->(∀ i,i<ops.size->listed.getD i false=true)->J n C L0 R0 rs (λ i=>listed.getD i false) a w->Q .normal a w:=by
  intro listed a w _ hall ⟨h1,h2,S,ρ,h3,h4,_⟩
  have hX:∀ r,r∈rs->listed.getD r.i false=true:=λ r hr=>hall _ (hlt r hr)
  refine hQ a w ⟨h1,h2,S,ρ,by rw [Rl hch hX] at h3;exact h3,λ e he=>h4 e ?_⟩
  rcases Ro hch hs e he with⟨g1,g2⟩ | ⟨r,g1,g2,g3,g4,g5⟩
  ·exact .inl ⟨g1,λ q hq _=>g2 q hq⟩
  ·exact .inr ⟨r,g1,hX r g1,g2,g3,g4,λ q hq hl _=>g5 q hq hl⟩
 have none_ready:∀ (listed:Array Bool),listed.size=ops.size->Region.ready .any ops listed=[]->∀ i,i<ops.size->listed.getD i false=true:=by
  intro listed hsz hr i
  induction i using Nat.strongRecOn with
  | _ i ih=>
   intro hi
   cases hx:listed.getD i false with
   | true=>rfl
   | false=>
    exfalso
    obtain⟨r,hr1,hr2⟩:=hget i hi
    have hrec:=J5 hch hr1
    have:i∈Region.ready .any ops listed:=by
     rw [mem_ready]
     have hil:i<listed.size:=by omega
     refine⟨by simp only [aM,be hil] at hx ⊢;simpa using hx,r.o,by rw [←hr2];exact hrec.op,λ e he hb=>?_⟩
     have:=hany.back r hr1 e he hb
     exact ih e.on (by omega) (by omega)
    rw [hr] at this;cases this
 intro fuel
 induction fuel with
 | zero=>
  intro listed a w hsz hu hX hJ
  have hall:∀ i,i<ops.size->listed.getD i false=true:=by
   intro i hi
   have hil:i<listed.size:=by omega
   have hnil:listed.toList.filter (λ b=>!b)=[]:=bo (Nat.le_zero.1 hu)
   rw [cK] at hnil
   have:=hnil listed[i] (by simp)
   simp only [aM,be hil,bK]
   simpa using this
  refine⟨?_,done listed a w hsz hall hJ⟩
  apply List.eq_nil_iff_forall_not_mem.2
  intro j hj
  rw [mem_ready] at hj
  obtain⟨h1,o,ho,_⟩:=hj
  have hjl:j<ops.size:=(aO.1 ho).1
  have:=hall j hjl
  have hjs:j<listed.size:=by omega
  simp only [aM,be hjs,bK] at h1 this
  rw [h1] at this;cases this
 | succ fuel ih=>
  intro listed a w hsz hu hX hJ
  refine⟨λ hr=>done listed a w hsz (none_ready listed hsz hr) hJ,λ i hi=>?_⟩
  rw [mem_ready] at hi
  obtain⟨h1,o,ho,hall⟩:=hi
  have hil:i<ops.size:=(aO.1 ho).1
  have his:i<listed.size:=by omega
  have hif:listed[i]? = some false:=by
   rw [be his]
   simp only [aM,be his,bK] at h1
   rw [h1]
  obtain⟨q,hq,hqi⟩:=hget i hil
  have hrec:=J5 hch hq
  have hqo:q.o=o:=by have:=hrec.op;rw [hqi,ho] at this;cases this;rfl
  have hX':∀ j,(listed.setIfInBounds i true).getD j false=(listed.getD j false || decide (j=q.i)):=by
   intro j
   rw [hqi]
   simp only [aM,cR]
   by_cases hji:j=i
   ·subst hji;simp [his]
   ·simp [Ne.symm hji,hji]
  subst hqi
  refine Wm (λ _ _ h=>h) (Ada hch hs hany hfl (X':=λ j=>(listed.setIfInBounds q.i true).getD j false) hX hq ?_ (by rw [hqo];exact hall) hX' hJ λ a' w' hJ'=>ih _ a' w' (by simpa using hsz) ?_ ?_ hJ')
  ·simp [Array.getD_eq_getD_getElem?,hif]
  ·have:=Zw hif;omega
  ·intro j o' hj ho' e he hb
   simp only [hX',aA,dE] at hj ⊢
   rcases hj with hj | rfl
   ·exact .inl (hX j o' hj ho' e he hb)
   ·rw [ho] at ho';cases ho'
    exact .inl (hall e he hb)
end
end Go.SL
namespace Go.SL
abbrev St:=List (Nat×AV)
def mkL:St->List Ent
 | []=>[]
 | (t,v)::r=>⟨t,[],v⟩::mkL r
def sel (L:List Ent):List Nat->Option St
 | []=>some []
 | t::ts=>match D7 L t,sel L ts with
  | some e,some r=>bif e.p.isEmpty then some ((t,e.v)::r) else none
  | _,_=>none
def Ib:St->List Nat
 | []=>[]
 | (t,_)::r=>t::Ib r
def W (ro:Option Nat) (P:Program) (n:Nat) (C:Ctx) (Q:Exit->Act->World->Prop) (c:Code) (st:St) (R:List Res):Prop:=
 ∀ a w,Sat n C (mkL st) R a w->c.wpIn (FR ro) 0 P Q a w
section
variable {ro:Option Nat} {P:Program} {n:Nat} {C:Ctx} {Q:Exit->Act->World->Prop} {st st':St} {R R':List Res} {S S':Nat->Prop} {w w':World} {ρ ρ':List Value} {a:Act}
theorem Dn:∀ {st:St} {e:Ent},e∈mkL st->e.p=[]
 | [],e,h=>by cases h
 | (t,v)::r,e,h=>by
  rcases ag.1 h with rfl | h
  ·rfl
  ·exact Dn h
theorem M6:∀ {ts:List Nat} {L:List Ent} {st:St},sel L ts=some st->∀ e,e∈mkL st->e∈L
 | [],L,st,h,e,he=>by simp [sel] at h;subst h;cases he
 | t :: ts, L, st, h, e, he => by
  simp only [sel] at h
  split at h
  ·rename_i x r h1 h2
   cases hp:x.p.isEmpty with
   | false=>rw [hp] at h;simp at h
   | true=>
    rw [hp] at h
    simp at h;subst h
    obtain⟨g1,g2⟩:=C5 h1
    rcases ag.1 he with rfl | he
    ·have:(⟨t,[],x.v⟩:Ent)=x:=by
      obtain⟨xt,xp,xv⟩:=x
      grind
     rw [this];exact g1
    ·exact M6 h2 e he
  ·cases h
theorem Sat.sub {L L':List Ent} (h:Sat n C L R a w) (hs:∀ e,e∈L'->e∈L):Sat n C L' R a w:=by
 obtain⟨h1,h2,S,ρ,h3,h4⟩:=h
 exact⟨h1,h2,S,ρ,h3,λ e he=>h4 e (hs e he)⟩
def Ex {σ:Type} (n:Nat) (C:Ctx) (φ:σ->Prop) (st:σ->St) (R:σ->List Res) (a:Act) (w:World):Prop:=∃ s,φ s/\Sat n C (mkL (st s)) (R s) a w
theorem Inv.pick (hI:Inv C S w ρ R) {pi:List Nat} {Rp R2:List Res} (hn:Fo pi=true) (hp:Kj R pi=some Rp) (hr:H0 (Ev pi) Rp=some R2) (hh:Pre C.h (C6 ρ pi)) :
  Inv C S w (C6 ρ pi) R2:=by
 obtain⟨st,hid,foots⟩:=hI.start hn hp hr
 refine⟨st.len,st.ok,st.dis,λ j r h b h1 h2 h3=>?_,hI.sub,hI.sup,hI.frm,hI.size,hI.os,hI.tape,hI.output,hh,hI.gl⟩
 obtain⟨i,r0,k1,k2,k3,k4⟩:=foots j r h h1 h2
 exact hI.own i r0 h b k2 k3 (by rw [←k4];exact h3)
def Vl (f:Nat->Option Nat):St->Option St
 | []=>some []
 | (t,v)::r=>match v.norm.ren f,Vl f r with
  | some v',some r'=>some ((t,v')::r')
  | _,_=>none
theorem vQ {f:Nat->Option Nat}:∀ {st st':St},Vl f st=some st'->∀ e,e∈mkL st'->∃ e0,e0∈mkL st/\e0.t=e.t/\e.p=[]/\e0.v.norm.ren f=some e.v
 | [],st',h,e,he=>by simp [Vl] at h;subst h;cases he
 | (t, v) :: r, st', h, e, he => by
  simp only [Vl] at h
  split at h
  ·rename_i v' r' h1 h2
   simp at h;subst h
   rcases ag.1 he with rfl | he
   ·exact⟨⟨t,[],v⟩,ak,rfl,rfl,h1⟩
   ·obtain⟨e0,g1,g2,g3,g4⟩:=vQ h2 e he
    exact⟨e0,al _ g1,g2,g3,g4⟩
  ·cases h
def Kq:Nat->List Nat->Nat->Bool
 | 0,_,_=>true
 | k+1,i::r,j=>Nat.beq i j&&Kq k r (j+1)
 | _+1,[],_=>false
theorem Q6:∀ {k:Nat} {l:List Nat} {j:Nat},Kq k l j=true->∀ i,i<k->l[i]? = some (j+i)
 | 0,_,_,_,i,h=>by omega
 | k+1,[],_,h,_,_=>by simp [Kq] at h
 | k+1,a::r,j,h,i,hi=>by
  simp only [Kq,ab] at h
  cases i with
  | zero=>simp;exact aj h.1
  | succ i=>simp;rw [Q6 h.2 i (by omega)];congr 1;omega
def Z4 (k:Nat) (pi ts:List Nat) (st:St) (R:List Res):Option (St×List Res):=
 bif Fo pi&&Kq k pi 0 then
  match sel (mkL st) ts,Kj R pi with
  | some st1,some Rp=>match Vl (Ev pi) st1,H0 (Ev pi) Rp with
   | some st',some R'=>some (st',R')
   | _,_=>none
  | _,_=>none
 else none
theorem Sat.re {k:Nat} {pi ts:List Nat} (hk:C.h.length<=k) (h:Z4 k pi ts st R=some (st',R')) (hs:Sat n C (mkL st) R a w):Sat n C (mkL st') R' a w:=by
 unfold Z4 at h
 cases hb:(Fo pi&&Kq k pi 0) with
 | false=>rw [hb] at h;simp at h
 | true=>
  rw [hb] at h
  simp only [cond_true] at h
  simp only [ab] at hb
  split at h
  ·rename_i st1 Rp e1 e2
   split at h
   ·rename_i st2 R2 e3 e4
    simp at h
    obtain⟨rfl,rfl⟩:=h
    obtain⟨h1,h2,S,ρ,h3,h4⟩:=hs.sub (M6 e1)
    have hid:∀ (i j:Nat) x,Ev pi i=some j->ρ[i]? = some x->(C6 ρ pi)[j]? = some x:=(h3.start hb.1 e2 e4).2.1
    refine⟨h1,h2,S,C6 ρ pi,h3.pick hb.1 e2 e4 λ i v hv=>?_,λ e he=>?_⟩
    ·have hi:i<C.h.length:=(aa.1 hv).1
     have:=Q6 hb.2 i (by omega)
     simp only [aI] at this
     have hp:=h3.pre i v hv
     simp [C6,this,List.getD_eq_getElem?_getD,hp]
    ·obtain⟨e0,g1,g2,g3,g4⟩:=vQ e3 e he
     have hp0:=Dn g1
     obtain⟨k1,_⟩:=h4 e0 g1
     obtain⟨v,hv,hr⟩:=k1 (by rw [hp0];exact B6)
     refine⟨λ _=>⟨v,by rw [←g2];exact hv,hr.norm.ren hid _ g4⟩,λ hn=>absurd (by rw [g3];exact B6) hn⟩
   ·cases h
  ·cases h
def D.frz (i:Nat) (sz:Nat) (rows:List (List Pd)):D->D
 | .os j=>bif Nat.beq i j then .p (.s rows) else .os j
 | .osb j lo n s=>bif Nat.beq i j&&Nat.beq s sz then .p (.s ((rows.drop lo).take n)) else .osb j lo n s
 | d=>d
def AV.frz (i:Nat) (sz:Nat) (rows:List (List Pd)):AV->AV
 | .d x=>.d (x.frz i sz rows)
 | .agg ds=>.agg (ds.map (D.frz i sz rows))
 | .tup l=>.tup l
def Res.frz (i:Nat) (sz:Nat) (rows:List (List Pd)):Res->Res
 | .box t cells=>.box t (cells.map (D.frz i sz rows))
 | r=>r
def Ai1 (i:Nat) (st:St) (R:List Res):Option (St×List Res):=
 match R[i]? with
 | some (.sl _ sz rows)=>some (st.map λ x=>(x.1,x.2.frz i sz rows),(R.set i .non).map (Res.frz i sz rows))
 | _=>none
theorem jH {f:AV->AV}:∀ {st:St} {e:Ent},e∈mkL (st.map λ x=>(x.1,f x.2))->∃ e0,e0∈mkL st/\e0.t=e.t/\e.p=[]/\e.v=f e0.v
 | [],e,h=>by cases h
 | (t,v)::r,e,h=>by
  rcases ag.1 h with rfl | h
  ·exact⟨⟨t,[],v⟩,ak,rfl,rfl,rfl⟩
  ·obtain⟨e0,g1,g2⟩:=jH h
   exact⟨e0,al _ g1,g2⟩
theorem Inv.frz {i e size:Nat} {rows:List (List Pd)} (h3:Inv C S w ρ R) (hi:R[i]? = some (.sl e size rows)) :
  ∃ S',(∀ b,S b->S' b)/\Inv C S' w ρ ((R.set i .non).map (Res.frz i size rows))/\∀ v d,RdA S w ρ v d->RdA S' w ρ v (d.frz i size rows):=by
 have hil:i<ρ.length:=by rw [h3.len];exact (aa.1 hi).1
 have hρ:ρ[i]? = some ρ[i]:=ai hil
 have hF:=h3.freeze hi hρ
 have hrow:ρ[i].oneCell'=true->RdP (λ b=>S b\/(Res.sl e size rows).foot ρ[i] b) w ρ[i] (.s rows):=λ h1=>Res.ok0.frozen ((h3.ok i _ _ hi hρ).live h1)
 have hd : ∀ v d, Rd S w ρ v d -> Rd (λ b => S b \/ (Res.sl e size rows).foot ρ[i] b) w ρ v (d.frz i size rows) := by
  intro v d hr
  have hm:=hr.mono (S':=λ b=>S b\/(Res.sl e size rows).foot ρ[i] b) (w':=w) (ρ':=ρ) (λ _ h=>.inl h) (λ _ _=>rfl) (Pre.refl _)
  cases d with
  | os j=>
   simp only [D.frz]
   cases hb:Nat.beq i j with
   | false=>simpa using hm
   | true=>
    have:=aj hb
    subst this
    have h1:=hr.one
    have:=hr.os_inv
    rw [hρ] at this;cases this
    exact .p (hrow h1)
  | osb j lo m sz=>
   simp only [D.frz]
   cases hb:Nat.beq i j&&Nat.beq sz size with
   | false=>simpa using hm
   | true=>
    simp only [ab] at hb
    have:=aj hb.1
    subst this
    have:=aj hb.2
    subst this
    cases hr with
    | @osb _ _ _ _ q ad len cap g1 hl hc hq hq2=>
     rw [hρ] at g1
     have g3:ρ[i] = .slice ad len cap:=by simpa using g1
     have hF:=hrow (by rw [g3];rfl)
     have hkk:=(h3.ok i _ _ hi hρ).live (by rw [g3];rfl)
     have hz:∀ row,row∈rows->row.length=sz:=by
      rcases hkk with⟨_,h0⟩ | ⟨b,o,cp,vs,_,_,_,_,_,h0,_⟩
      ·subst h0;simp
      ·exact h0
     have g2:ρ[i] = .slice ad len cap:=by simpa using g1
     rw [g2] at hF
     have hcut:=RdP.cut hF (l:=lo) (h:=lo+m) (by omega) hl hz
     rw [show (lo+m)-lo=m from by omega,List.drop_take,show (lo+m)-lo=m from by omega] at hcut
     have hF0:=hF
     rw [g2]
     simp only [cond_true]
     by_cases hlc:lo<cap
     ·rw [if_neg (by omega)] at hcut
      rw [hq2 hlc]
      exact .p hcut
     ·have hlc:cap=lo:=by omega
      subst hlc
      have hn0:m=0:=by
       obtain⟨_,_,hsf,hle,_⟩:=hF0.slice_form
       cases hsf;omega
      subst hn0
      simp only [List.take_zero]
      exact .p (.s _ ⟨0,0,none⟩ _ 0 [] (λ _ _=>undef) (bH _) (by simp) (λ _=>by simp) (by simp) (by simp) (by simp))
  | _=>exact hm
 have ha:∀ v d,RdA S w ρ v d->RdA (λ b=>S b\/(Res.sl e size rows).foot ρ[i] b) w ρ v (d.frz i size rows):=by
  intro v d hr
  cases hr with
  | d h=>exact .d (hd _ _ h)
  | agg h=>exact .agg (h.map_right λ _ _ h=>hd _ _ h)
  | tup hl h=>exact .tup hl λ j x a hx ha=>(h j x a hx ha).mono (λ _ h=>.inl h) (λ _ _=>rfl) (Pre.refl _)
 have hget:∀ (j:Nat) r,((R.set i .non).map (Res.frz i size rows))[j]? = some r->∃ r0,(R.set i .non)[j]? = some r0/\r=r0.frz i size rows:=by
  intro j r hj
  rw [az] at hj
  obtain⟨r0,g1,g2⟩:=Dl hj
  exact⟨r0,g1,g2.symm⟩
 have hfoot:∀ (r0:Res) v,(r0.frz i size rows).foot v=r0.foot v:=by intro r0 v;cases r0 <;> rfl
 refine⟨_,λ _ h=>.inl h,⟨by rw [au];exact hF.len,λ j r v hj hv=>?_,λ j k r r2 v v2 b hjk hj hk hv hv2 hf hf2=>?_,λ j r v b hj hv hf=>?_,hF.sub,hF.sup,hF.frm,hF.size,hF.os,hF.tape,hF.output,hF.pre,hF.gl⟩,ha⟩
 ·obtain⟨r0,g1,rfl⟩:=hget j r hj
  have hok:=hF.ok j r0 v g1 hv
  rw [ay] at g1
  split at g1
  ·split at g1
   ·cases g1;exact .inr trivial
   ·cases g1
  ·have hok0:=h3.ok j r0 v g1 hv
   cases r0 with
   | box t cells=>
    rcases hok0 with h0 | ⟨b,vs,rfl,hb,hc⟩
    ·exact .inl h0
    ·exact .inr ⟨b,vs,rfl,hb,hc.map_right λ _ _ h=>hd _ _ h⟩
   | _=>exact hok
 ·obtain⟨r0,g1,rfl⟩:=hget j r hj
  obtain⟨r1,g2,rfl⟩:=hget k r2 hk
  rw [hfoot] at hf hf2
  exact hF.dis j k r0 r1 v v2 b hjk g1 g2 hv hv2 hf hf2
 ·obtain⟨r0,g1,rfl⟩:=hget j r hj
  rw [hfoot] at hf
  exact hF.own j r0 v b g1 hv hf
theorem Sat.frz {i:Nat} (h:Ai1 i st R=some (st',R')) (hs:Sat n C (mkL st) R a w):Sat n C (mkL st') R' a w:=by
 unfold Ai1 at h
 split at h
 ·rename_i e size rows hi
  simp only [ah,aq] at h
  obtain⟨rfl,rfl⟩:=h
  obtain⟨h1,h2,S,ρ,h3,h4⟩:=hs
  obtain⟨S',_,hI,ha⟩:=h3.frz hi
  refine⟨h1,h2,S',ρ,hI,λ e he=>?_⟩
  obtain⟨e0,g1,g2,g3,g4⟩:=jH he
  have hp0:=Dn g1
  obtain⟨k1,_⟩:=h4 e0 g1
  obtain⟨v,hv,hr⟩:=k1 (by rw [hp0];exact B6)
  refine⟨λ _=>⟨v,by rw [←g2];exact hv,by rw [g4];exact ha _ _ hr⟩,λ hn=>absurd (by rw [g3];exact B6) hn⟩
 ·cases h
def Od (t:Nat) (v:AV):St->St
 | []=>[]
 | (u,x)::r=>bif Nat.beq u t then (u,v)::Od t v r else (u,x)::Od t v r
def K8 (t:Nat):St->Bool
 | []=>true
 | (u,x)::r=>(!(Nat.beq u t) || match x with | .d (.p (.v (.slice none 0 0)))=>true | _=>false)&&K8 t r
def Aig (t e size:Nat) (st:St) (R:List Res):Option (St×List Res):=
 bif K8 t st then some (Od t (.d (.os R.length)) st,R++[.sl e size []]) else none
theorem Sr {t:Nat} {v:AV}:∀ {st:St} {e:Ent},e∈mkL (Od t v st)->(e.t=t/\e.p=[]/\e.v=v/\∃ x,⟨t,[],x⟩∈mkL st/\(K8 t st=true->∃ y,x=y/\(match y with | .d (.p (.v (.slice none 0 0)))=>true | _=>false)=true))\/e∈mkL st
 | [],e,h=>by cases h
 | (u, x) :: r, e, h => by
  simp only [Od] at h
  cases hb:Nat.beq u t with
  | true=>
   rw [hb] at h
   simp only [cond_true] at h
   have:=aj hb
   subst this
   rcases ag.1 h with rfl | h
   ·refine .inl ⟨rfl,rfl,rfl,x,ak,λ hn=>⟨x,rfl,?_⟩⟩
    simp only [K8,hb,aR,aV,ab] at hn
    exact hn.1
   ·rcases Sr h with⟨g1,g2,g3,y,g4,g5⟩ | h
    ·refine .inl ⟨g1,g2,g3,y,al _ g4,λ hn=>g5 ?_⟩
     simp only [K8,ab] at hn
     exact hn.2
    ·exact .inr (al _ h)
  | false=>
   rw [hb] at h
   simp only [cond_false] at h
   rcases ag.1 h with rfl | h
   ·exact .inr ak
   ·rcases Sr h with⟨g1,g2,g3,y,g4,g5⟩ | h
    ·refine .inl ⟨g1,g2,g3,y,al _ g4,λ hn=>g5 ?_⟩
     simp only [K8,ab] at hn
     exact hn.2
    ·exact .inr (al _ h)
theorem Sat.own {t e size:Nat} (h:Aig t e size st R=some (st',R')) (hs:Sat n C (mkL st) R a w):Sat n C (mkL st') R' a w:=by
 unfold Aig at h
 cases hb:K8 t st with
 | false=>rw [hb] at h;simp at h
 | true=>
  rw [hb] at h
  simp at h
  obtain⟨rfl,rfl⟩:=h
  obtain⟨h1,h2,S,ρ,h3,h4⟩:=hs
  refine⟨h1,h2,S,ρ++[.slice none 0 0],h3.push (.sl e size []) (.slice none 0 0) (λ _ _=>rfl) (af _) rfl ⟨rfl,λ _=>by grind⟩ rfl (.inr (.inl ⟨rfl,rfl⟩)) (by simp [Res.foot]),λ x hx=>?_⟩
  rcases Sr hx with⟨g1,g2,g3,y,g4,g5⟩ | hx
  ·obtain⟨z,rfl,hz⟩:=g5 hb
   obtain⟨v,hv,hr⟩:=(h4 _ g4).1 B6
   split at hz
   ·have:=hr.exact_inv
    subst this
    refine⟨λ _=>⟨.slice none 0 0,by rw [g1];exact hv,by rw [g3];exact .d (.os (by rw [←h3.len];simp) rfl)⟩,λ hn=>absurd (by rw [g2];exact B6) hn⟩
   ·cases hz
  ·obtain⟨k1,k2⟩:=h4 x hx
   refine⟨λ hp=>?_,k2⟩
   obtain⟨v,hv,hr⟩:=k1 hp
   exact⟨v,hv,hr.mono (λ _ h=>h) (λ _ _=>rfl) (Pre.append _ _)⟩
def AV.mapD (f:D->D):AV->AV
 | .d x=>.d (f x)
 | .agg ds=>.agg (ds.map f)
 | .tup l=>.tup l
def Res.mapD (f:D->D):Res->Res
 | .box t cells=>.box t (cells.map f)
 | r=>r
theorem du (f:D->D) (r:Res) (v:Value):(r.mapD f).foot v=r.foot v:=by cases r <;> rfl
theorem Inv.mapD (h:Inv C S w ρ R) {f:D->D} (hf:∀ v d,Rd S w ρ v d->Rd S w ρ v (f d)):Inv C S w ρ (R.map (Res.mapD f)):=by
 have hget:∀ (j:Nat) r,(R.map (Res.mapD f))[j]? = some r->∃ r0,R[j]? = some r0/\r=r0.mapD f:=by
  grind
 refine⟨by rw [au];exact h.len,λ j r v hj hv=>?_,λ j k r r2 v v2 b hjk hj hk hv hv2 hf hf2=>?_,λ j r v b hj hv hf=>?_,h.sub,h.sup,h.frm,h.size,h.os,h.tape,h.output,h.pre,h.gl⟩
 ·obtain⟨r0,g1,rfl⟩:=hget j r hj
  have hok:=h.ok j r0 v g1 hv
  cases r0 with
  | box t cells=>
   rcases hok with h0 | ⟨b,vs,rfl,hb,hc⟩
   ·exact .inl h0
   ·exact .inr ⟨b,vs,rfl,hb,hc.map_right λ _ _ h=>hf _ _ h⟩
  | _=>exact hok
 ·obtain⟨r0,g1,rfl⟩:=hget j r hj
  obtain⟨r1,g2,rfl⟩:=hget k r2 hk
  rw [du] at hf hf2
  exact h.dis j k r0 r1 v v2 b hjk g1 g2 hv hv2 hf hf2
 ·obtain⟨r0,g1,rfl⟩:=hget j r hj
  rw [du] at hf
  exact h.own j r0 v b g1 hv hf
theorem RdA.mapD {f:D->D} (hf:∀ v d,Rd S w ρ v d->Rd S w ρ v (f d)) {v:Value} {x:AV} (h:RdA S w ρ v x):RdA S w ρ v (x.mapD f):=by
 cases h with
 | d h=>exact .d (hf _ _ h)
 | agg h=>exact .agg (h.map_right λ _ _ h=>hf _ _ h)
 | tup hl h=>exact .tup hl h
def D.mv (i j:Nat):D->D
 | .os k=>bif Nat.beq i k then .os j else .os k
 | d=>d
def Aqy (i:Nat) (st:St) (R:List Res):Option (St×List Res):=
 match R[i]? with
 | some (.sl e size rows)=>some (st.map λ x=>(x.1,x.2.mapD (D.mv i R.length)),(R.set i .non++[Res.sl e size rows]).map (Res.mapD (D.mv i R.length)))
 | _=>none
theorem Sat.mv {i:Nat} (h:Aqy i st R=some (st',R')) (hs:Sat n C (mkL st) R a w):Sat n C (mkL st') R' a w:=by
 unfold Aqy at h
 split at h
 ·rename_i e size rows hi
  simp only [ah,aq] at h
  obtain⟨rfl,rfl⟩:=h
  obtain⟨h1,h2,S,ρ,h3,h4⟩:=hs
  obtain⟨v,hv⟩:=h3.rho hi
  have hM:Inv C S w (ρ++[v]) (R.set i .non++[Res.sl e size rows]):=h3.move (r':=.sl e size rows) (v':=v) hi hv (λ _ _ _=>rfl) (af _) rfl ⟨rfl,λ _=>by grind⟩ rfl (λ k hk=>.inl hk)
   ((h3.ok i _ v hi hv).mono (λ _ h=>h) (λ _ _=>rfl) (Pre.append _ _) (λ _ _=>rfl))
  have hd:∀ x d,Rd S w (ρ++[v]) x d->Rd S w (ρ++[v]) x (d.mv i R.length):=by
   intro x d hr
   cases d with
   | os k=>
    simp only [D.mv]
    cases hb:Nat.beq i k with
    | false=>exact hr
    | true=>
     have:=aj hb
     subst this
     cases hr with
     | os g1 g2=>
      have:(ρ++[v])[i]? = some v:=Pre.append _ _ _ _ hv
      rw [this] at g1;cases g1
      exact .os (by rw [←h3.len];simp) g2
   | _=>exact hr
  refine⟨h1,h2,S,ρ++[v],hM.mapD hd,λ x hx=>?_⟩
  obtain⟨e0,g1,g2,g3,g4⟩:=jH hx
  have hp0:=Dn g1
  obtain⟨k1,_⟩:=h4 e0 g1
  obtain⟨y,hy,hr⟩:=k1 (by rw [hp0];exact B6)
  refine⟨λ _=>⟨y,by rw [←g2];exact hy,by rw [g4];exact (hr.mono (λ _ h=>h) (λ _ _=>rfl) (Pre.append _ _)).mapD hd⟩,λ hn=>absurd (by rw [g3];exact B6) hn⟩
 ·cases h
def Pw:D->Bool
 | .p (.v (.slice none 0 0))=>true
 | _=>false
def Aa1 (i j e size:Nat) (st:St) (R:List Res):Option (St×List Res):=
 match R[i]? with
 | some (.box t cells)=>match cells[j]? with
  | some d=>bif Pw d then some (st,R.set i (.box t (cells.set j (.os R.length)))++[.sl e size []]) else none
  | none=>none
 | _=>none
theorem Inv.swap {r r':Res} {i:Nat} (h:Inv C S w ρ R) (hi:R[i]? = some r) (hok:∀ v,r.ok S w ρ v->r'.ok S w ρ v) (hf:∀ v,r'.foot v=r.foot v):Inv C S w ρ (R.set i r'):=by
 have key:∀ (j:Nat) r1,(R.set i r')[j]? = some r1->∃ r0,R[j]? = some r0/\(∀ v,r0.ok S w ρ v->r1.ok S w ρ v)/\∀ v,r1.foot v=r0.foot v:=by
  grind
 refine⟨by rw [bn];exact h.len,λ j r1 v hj hv=>?_,λ j k r1 r2 v v2 b hjk hj hk hv hv2 hf hf2=>?_,λ j r1 v b hj hv hf=>?_,h.sub,h.sup,h.frm,h.size,h.os,h.tape,h.output,h.pre,h.gl⟩
 ·obtain⟨r0,g1,g2,_⟩:=key j r1 hj
  exact g2 v (h.ok j r0 v g1 hv)
 ·obtain⟨r0,g1,_,g3⟩:=key j r1 hj
  obtain⟨q0,m1,_,m3⟩:=key k r2 hk
  rw [g3] at hf;rw [m3] at hf2
  exact h.dis j k r0 q0 v v2 b hjk g1 m1 hv hv2 hf hf2
 ·obtain⟨r0,g1,_,g3⟩:=key j r1 hj
  rw [g3] at hf
  exact h.own j r0 v b g1 hv hf
theorem Aic {d:D} {x:Value} (hn:Pw d=true) (h:Rd S w ρ x d) (hl:ρ.length=R.length):Rd S w (ρ++[.slice none 0 0]) x (.os R.length):=by
 unfold Pw at hn
 split at hn
 ·cases h with
  | p h=>
   cases h
   exact .os (by rw [←hl];simp) rfl
 ·cases hn
theorem Sat.ownb {i j e size : Nat} (h : Aa1 i j e size st R = some (st', R')) (hs : Sat n C (mkL st) R a w) : Sat n C (mkL st') R' a w := by
 unfold Aa1 at h
 split at h
 ·rename_i t cells hi
  split at h
  ·rename_i d hj
   cases hb:Pw d with
   | false=>rw [hb] at h;simp at h
   | true=>
    rw [hb] at h
    simp at h
    obtain⟨rfl,rfl⟩:=h
    obtain⟨h1,h2,S,ρ,h3,h4⟩:=hs
    have hP:=h3.push (w':=w) (.sl e size []) (.slice none 0 0) (λ _ _=>rfl) (af _) rfl ⟨rfl,λ _=>by grind⟩ rfl (.inr (.inl ⟨rfl,rfl⟩)) (by simp [Res.foot])
    have hil:i<R.length:=(aa.1 hi).1
    have hi':(R++[Res.sl e size []])[i]? = some (.box t cells):=by rw [aD hil];exact hi
    have hlen:=h3.len
    have hQ := hP.swap (r' := .box t (cells.set j (.os R.length))) hi' (λ v hv => by
     rcases hv with h0 | ⟨b,vs,rfl,hb',hc⟩
     ·exact .inl h0
     ·refine .inr ⟨b,vs,rfl,hb',d4 (by rw [bn];exact hc.length) λ k x d' hx hd=>?_⟩
      rw [ay] at hd
      split at hd
      ·rename_i e'
       subst e'
       split at hd
       ·cases hd
        have hr:=hc.both hx hj
        unfold Pw at hb
        split at hb
        ·cases hr with
         | p hr=>cases hr;exact .os (by rw [←hlen];simp) rfl
        ·cases hb
       ·cases hd
      ·exact hc.both hx hd) (λ _=>rfl)
    refine⟨h1,h2,S,ρ++[.slice none 0 0],by rw [List.set_append_left _ _ hil] at hQ;exact hQ,λ x hx=>?_⟩
    obtain⟨k1,k2⟩:=h4 x hx
    refine⟨λ hp=>?_,k2⟩
    obtain⟨v,hv,hr⟩:=k1 hp
    exact⟨v,hv,hr.mono (λ _ h=>h) (λ _ _=>rfl) (Pre.append _ _)⟩
  ·cases h
 ·cases h
def zY (j:Nat):AV->Bool
 | .agg ds=>match ds[j]? with
  | some d=>Pw d
  | none=>false
 | _=>false
def Ah5 (j:Nat) (d:D):AV->AV
 | .agg ds=>.agg (ds.set j d)
 | v=>v
def Aa0 (t j e size:Nat) (st:St) (R:List Res):Option (St×List Res):=
 bif st.all (λ x=>!(Nat.beq x.1 t) || zY j x.2) then some (st.map λ x=>(x.1,bif Nat.beq x.1 t then Ah5 j (.os R.length) x.2 else x.2),R++[.sl e size []]) else none
theorem Jz:∀ {st:St} {e:Ent},e∈mkL st->(e.t,e.v)∈st/\e.p=[]
 | [],e,h=>by cases h
 | (t,v)::r,e,h=>by
  rcases ag.1 h with rfl | h
  ·exact⟨ak,rfl⟩
  ·exact⟨al _ (Jz h).1,(Jz h).2⟩
theorem Aa7 {f:Nat×AV->Nat×AV} (hf:∀ x,(f x).1=x.1):∀ {st:St} {e:Ent},e∈mkL (st.map f)->∃ v,(e.t,v)∈st/\(⟨e.t,[],v⟩:Ent)∈mkL st/\e.p=[]/\e.v=(f (e.t,v)).2
 | [],e,h=>by cases h
 | (t,v)::r,e,h=>by
  have h:e∈(⟨(f (t,v)).1,[],(f (t,v)).2⟩:Ent)::mkL (r.map f):=h
  rcases ag.1 h with rfl | h
  ·have:=hf (t,v)
   simp only at this
   refine⟨v,?_,?_,rfl,?_⟩ <;> simp only [this]
   ·exact ak
   ·exact ak
  ·obtain⟨u,g1,g2,g3,g4⟩:=Aa7 hf h
   exact⟨u,al _ g1,al _ g2,g3,g4⟩
theorem Sat.ownt {t j e size:Nat} (h:Aa0 t j e size st R=some (st',R')) (hs:Sat n C (mkL st) R a w):Sat n C (mkL st') R' a w:=by
 unfold Aa0 at h
 cases hb:(st.all λ x=>!(Nat.beq x.1 t) || zY j x.2) with
 | false=>rw [hb] at h;simp at h
 | true=>
  rw [hb] at h
  simp only [cond_true,ah,aq] at h
  obtain⟨rfl,rfl⟩:=h
  obtain⟨h1,h2,S,ρ,h3,h4⟩:=hs
  refine⟨h1,h2,S,ρ++[.slice none 0 0],h3.push (.sl e size []) (.slice none 0 0) (λ _ _=>rfl) (af _) rfl ⟨rfl,λ _=>by grind⟩ rfl (.inr (.inl ⟨rfl,rfl⟩)) (by simp [Res.foot]),λ x hx=>?_⟩
  obtain⟨u,g1,g2,g3,g4⟩:=Aa7 (f:=λ x=>(x.1,bif Nat.beq x.1 t then Ah5 j (.os R.length) x.2 else x.2)) (λ _=>rfl) hx
  obtain⟨v,hv,hr⟩:=(h4 _ g2).1 B6
  refine⟨λ _=>⟨v,hv,?_⟩,λ hn=>absurd (by rw [g3];exact B6) hn⟩
  rw [g4]
  simp only at hr ⊢
  cases hc:Nat.beq x.t t with
  | false=>simp only [cond_false];exact hr.mono (λ _ h=>h) (λ _ _=>rfl) (Pre.append _ _)
  | true=>
   simp only [cond_true]
   have hn:=(aH.1 hb) _ g1
   simp only [hc,aR,aV] at hn
   cases hr with
   | agg hr=>
    rename_i vs ds
    simp only [zY] at hn
    simp only [Ah5]
    split at hn
    ·rename_i d hj
     refine .agg (d4 (by rw [bn];exact hr.length) λ k y d' hy hd=>?_)
     rw [ay] at hd
     split at hd
     ·rename_i e'
      subst e'
      split at hd
      ·cases hd
       exact Aic hn (hr.both hy hj) h3.len
      ·cases hd
     ·exact (hr.both hy hd).mono (λ _ h=>h) (λ _ _=>rfl) (Pre.append _ _)
    ·cases hn
   | _=>simp [zY] at hn
end
end Go.SL
namespace Go.SL
inductive Ctl (σ ρ:Type) where
 | next (s:σ)
 | brk (s:σ)
 | ret (r:ρ)
def whileN {σ ρ:Type} (f:σ->Option (Ctl σ ρ)):Nat->σ->Option (Ctl σ ρ)
 | 0,_=>none
 | n+1,s=>match f s with
  | some (.next s')=>whileN f n s'
  | some (.brk s')=>some (.next s')
  | some (.ret r)=>some (.ret r)
  | none=>none
def Kr {α σ ρ:Type} (f:α->σ->Option (Ctl σ ρ)):List α->σ->Option (Ctl σ ρ)
 | [],s=>some (.next s)
 | x::xs,s=>match f x s with
  | some (.next s')=>Kr f xs s'
  | some (.brk s')=>some (.next s')
  | some (.ret r)=>some (.ret r)
  | none=>none
theorem Aby {p:Nat->Prop} (h:∃ n,p n):∃ n,p n/\∀ m,m<n->¬p m:=by
 obtain⟨n,hn⟩:=h
 induction n using Nat.strongRecOn with
 | _ n ih=>
  by_cases hx:∃ m,m<n/\p m
  ·obtain⟨m,h1,h2⟩:=hx
   exact ih m h1 h2
  ·exact⟨n,hn,λ m hm hp=>hx ⟨m,hm,hp⟩⟩
section
variable {ro:Option Nat} {P:Program} {n:Nat} {C:Ctx} {Q:Exit->Act->World->Prop} {st st':St} {R R':List Res} {S S':Nat->Prop} {w w':World} {ρ ρ':List Value} {a:Act}
theorem Agx {c:Code} (I:Nat->Act->World->Prop) (h0:∃ m,∀ a w,Sat n C (mkL st) R a w->I m a w)
  (h:∀ m a w,I m a w->c.wpIn (FR ro) 0 P (Exit.then (λ a' w'=>∃ k,k<m/\I k a' w') Q) a w):W ro P n C Q (.loop c) st R:=by
 intro a w hs
 obtain⟨m0,h0⟩:=h0
 have key:∀ a w,(∃ m,I m a w)->∃ m,I m a w/\∀ k,k<m->¬I k a w:=λ a w h=>Aby h
 let μ:Act->World->Nat:=λ a w=>@dite _ (∃ m,I m a w) (Classical.propDecidable _) (λ h=>Classical.choose (key a w h)) (λ _=>0)
 have hμ:∀ a w (hx:∃ m,I m a w),I (μ a w) a w/\∀ k,k<μ a w->¬I k a w:=by
  intro a w hx
  have:μ a w=Classical.choose (key a w hx):=by simp only [μ];rw [dif_pos hx]
  rw [this];exact Classical.choose_spec (key a w hx)
 refine wpIn_loop (λ a w=>∃ m,I m a w) μ ⟨m0,h0 a w hs⟩ λ a w hI=>?_
 obtain⟨h1,h2⟩:=hμ a w hI
 refine wpIn_mono (h _ a w h1) λ e a' w' hq=>?_
 cases e with
 | normal=>
  obtain⟨k,hk,hIk⟩:=hq
  refine⟨⟨k,hIk⟩,?_⟩
  obtain⟨g1,g2⟩:=hμ a' w' ⟨k,hIk⟩
  rcases aN k (μ a' w') with h | h
  ·exact absurd hIk (g2 k h)
  ·omega
 | _=>exact hq
theorem Av8 {σ τ:Type} {c:Code} (f:σ->Option (Ctl σ τ)) (stF:σ->St) (RF:σ->List Res) (r:Ctl σ τ) (fuel:Nat) (s:σ) (hm:whileN f fuel s=some r)
  (h0:st=stF s/\R=RF s)
  (h:∀ s k,f s=some k->(∀ s',k = .brk s'->r = .next s')->(∀ v,k = .ret v->r = .ret v) ->
   W ro P n C (Exit.then (λ a' w'=>∃ s',k = .next s'/\Sat n C (mkL (stF s')) (RF s') a' w') Q) c (stF s) (RF s)):W ro P n C Q (.loop c) st R:=by
 refine Agx (λ m a w=>∃ s,whileN f m s=some r/\Sat n C (mkL (stF s)) (RF s) a w) ⟨fuel,λ a w hs=>⟨s,hm,by rw [h0.1,h0.2] at hs;exact hs⟩⟩ λ m a w hI=>?_
 obtain⟨s,hf,hs⟩:=hI
 cases m with
 | zero=>simp [whileN] at hf
 | succ m=>
  simp only [whileN] at hf
  cases hk:f s with
  | none=>rw [hk] at hf;cases hf
  | some k=>
   rw [hk] at hf
   refine wpIn_mono (h s k hk ?_ ?_ a w hs) λ e a' w' hq=>?_
   ·intro s' e;subst e;simp only [ah] at hf;exact hf.symm
   ·intro v e;subst e;simp only [ah] at hf;exact hf.symm
   ·cases e with
    | normal=>
     obtain⟨s',e,hs'⟩:=hq
     subst e
     exact⟨m,Nat.lt_succ_self m,s',hf,hs'⟩
    | _=>exact hq
def Aat (P : Program) (st : St) (R : List Res) : ResultVar -> Option AV
 | .tmp t=>match D7 (mkL st) t with
  | some e=>some e.v
  | none=>none
 | .cell t ty=>match D7 (mkL st) t,B2 P ty with
  | some e,some m=>match e.v with
   | .d (.o i off)=>match R[i]? with
    | some (.box _ cells)=>Gt P ty ((cells.drop off).take m)
    | _=>none
   | _=>none
  | _,_=>none
def Pn (P:Program) (st:St) (R:List Res):List ResultVar->Option (List AV)
 | []=>some []
 | r::l=>match Aat P st R r,Pn P st R l with
  | some v,some vs=>some (v.norm::vs)
  | _,_=>none
def Atu:List AV->AV
 | [v]=>v
 | l=>.tup l
def Sx (P:Program) (results:List ResultVar) (k:Nat) (pi:List Nat) (st:St) (R:List Res):Option (AV×List Res):=
 bif Fo pi&&Kq k pi 0 then
  match Pn P st R results,Kj R pi with
  | some vs,some Rp=>match (Atu vs).ren (Ev pi),H0 (Ev pi) Rp with
   | some v,some R'=>some (v,R')
   | _,_=>none
  | _,_=>none
 else none
def Ld (P:Program) (fn:Func) (C:Ctx) (res:AV) (R2:List Res):Exit->Act->World->Prop:=
 bodyPostM (FR none) 0 P fn λ e w'=>∃ v S' ρ',e = .returned v/\RdA S' w' ρ' v res/\Inv C S' w' ρ' R2
structure Up (C0 C:Ctx):Prop where
 up:∀ S w ρ R,Inv C S w ρ R->Inv C0 S w ρ R
 df:C.df=[]\/∃ D,C.df=[{target:=.collected D,args:=#[]}]/\C0.w.heap.size<=D
 hl:C0.h.length<=C.h.length
theorem dn {C:Ctx} (h:C.df=[]):Up C C:=⟨λ _ _ _ _ h=>h,.inl h,af _⟩
theorem Inv.shut {C0:Ctx} (hI:Inv C0 S w ρ R) {D:Nat} (h0:C0.w.heap.size<=D) (hS:¬S D) (hR:∀ (i:Nat) r h,R[i]? = some r->ρ[i]? = some h->¬r.foot h D) (o:Obj):Inv C0 S (w.putObj D o) ρ R/\∀ b,S b->(w.putObj D o).heap[b]? = w.heap[b]?:=by
 have hsame:∀ b,b≠D->(w.putObj D o).heap[b]? = w.heap[b]?:=λ b hb=>World.putObj_heap_other hb
 have hSs:∀ b,S b->(w.putObj D o).heap[b]? = w.heap[b]?:=λ b hb=>hsame b (λ e=>hS (e ▸ hb))
 have hsz:(w.putObj D o).heap.size=w.heap.size:=by simp [World.putObj]
 refine⟨⟨hI.len,λ i r h h1 h2=>(hI.ok i r h h1 h2).mono (λ _ h=>h) hSs (Pre.refl _) (λ b hb=>hsame b (λ e=>hR i r h h1 h2 (e ▸ hb))),hI.dis,λ i r h b h1 h2 h3=>?_,hI.sub,λ b hb=>?_,λ b hb hf=>?_,?_,hI.os,hI.tape,hI.output,hI.pre,hI.gl⟩,hSs⟩
 ·rw [hsz];exact hI.own i r h b h1 h2 h3
 ·rw [hsz];exact hI.sup b hb
 ·exact (hsame b (by omega)).trans (hI.frm b hb hf)
 ·rw [hsz];exact hI.size
theorem Aln (hI:Inv C S w ρ R) (hL:Ci S w ρ a (mkL st)) {r:ResultVar} {v:AV} (h:Aat P st R r=some v) :
  ∃ x,(match r with | .tmp t=>pure (a.tmps.getD t undef) | .cell t ty=>do loadVar ty (←asAddr (a.tmps.getD t undef)):Sem Value).run P w = .ok x w/\RdA S w ρ x v:=by
 have slot:∀ t e,D7 (mkL st) t=some e->∃ x,a.tmps.getD t undef=x/\RdA S w ρ x e.v:=by
  intro t e he
  obtain⟨hm,ht⟩:=C5 he
  obtain⟨x,hx,hr⟩:=(hL e hm).1 (by rw [Dn hm];exact B6)
  rw [ht] at hx
  exact⟨x,by simp [Array.getD_eq_getD_getElem?,hx],hr⟩
 unfold Aat at h
 split at h
 ·rename_i t
  split at h
  ·rename_i e he
   simp at h;subst h
   obtain⟨x,hx,hr⟩:=slot t e he
   exact⟨x,by simp [hx],hr⟩
  ·cases h
 ·rename_i t ty
  split at h
  ·rename_i e m he hm
   split at h
   ·rename_i i off hv
    split at h
    ·rename_i u cells hi
     obtain⟨x,hx,hr⟩:=slot t e he
     rw [hv] at hr
     obtain⟨b,hb,hρ⟩:=hr.d_inv.o_inv
     obtain⟨y,hy,hry⟩:=F7 (P:=P) (S:=S) (w:=w) (ρ:=ρ) (ad:=⟨b,off,none⟩) h (λ j d hd=>Ac5 hI hi hρ off m j d hd)
     refine⟨y,?_,hry⟩
     simp only [hx,hb,asAddr,Sem.run_bind,Sem.run_pure,Result.andThen_ok,hy]
    ·cases h
   ·cases h
  ·cases h
theorem X4 (hI:Inv C S w ρ R) (hL:Ci S w ρ a (mkL st)):∀ {l:List ResultVar} {vs:List AV},Pn P st R l=some vs ->
  ∃ xs,(l.mapM fun | .tmp t=>pure (a.tmps.getD t undef) | .cell t ty=>do loadVar ty (←asAddr (a.tmps.getD t undef)):Sem (List Value)).run P w = .ok xs w/\A5 (RdA S w ρ) xs vs
 | [],vs,h=>by simp [Pn] at h;subst h;exact⟨[],by simp,trivial⟩
 | r::l,vs,h=>by
  simp only [Pn] at h
  split at h
  ·rename_i v vs' h1 h2
   simp at h;subst h
   obtain⟨x,hx,hr⟩:=Aln hI hL h1
   obtain⟨xs,hxs,hrs⟩:=X4 hI hL h2
   refine⟨x::xs,?_,hr.norm,hrs⟩
   simp only [List.mapM_cons,Sem.run_bind]
   rw [hx]
   simp only [Result.andThen_ok]
   rw [hxs]
   simp
  ·cases h
theorem Atv {fn:Func} {results:List ResultVar} {k:Nat} {pi:List Nat} {res:AV} {R2:List Res} (hf:fn.results.toList=results) (hk:C.h.length<=k) (h:Sx P results k pi st R=some (res,R2))
  (h3:Inv C S w ρ R) (h4:Ci S w ρ a (mkL st)):∃ x,(Go.results fn a.tmps).run P w = .ok x w/\∃ v S' ρ',Ending.returned x = .returned v/\RdA S' w ρ' v res/\Inv C S' w ρ' R2:=by
 unfold Sx at h
 cases hb:(Fo pi&&Kq k pi 0) with
 | false=>rw [hb] at h;simp at h
 | true=>
  rw [hb] at h
  simp only [cond_true] at h
  simp only [ab] at hb
  split at h
  ·rename_i vs Rp e1 e2
   split at h
   ·rename_i v R3 e3 e4
    simp at h
    obtain⟨rfl,rfl⟩:=h
    have hid:∀ (i j:Nat) x,Ev pi i=some j->ρ[i]? = some x->(C6 ρ pi)[j]? = some x:=(h3.start hb.1 e2 e4).2.1
    obtain⟨xs,hxs,hrs⟩:=X4 (P:=P) h3 h4 e1
    have hI2:=h3.pick hb.1 e2 e4 λ i v hv=>by
     have hi:i<C.h.length:=(aa.1 hv).1
     have:=Q6 hb.2 i (by omega)
     simp only [aI] at this
     have hp:=h3.pre i v hv
     simp [C6,this,List.getD_eq_getElem?_getD,hp]
    have hrun:∃ x,(Go.results fn a.tmps).run P w = .ok x w/\RdA S w ρ x (Atu vs):=by
     have hm:∀ g:ResultVar->Sem Value,(∀ t,g (.tmp t)=pure (a.tmps.getD t undef))->(∀ t ty,g (.cell t ty)=do loadVar ty (←asAddr (a.tmps.getD t undef)))->(fn.results.mapM g:Sem (Array Value)).run P w = .ok xs.toArray w:=by
      intro g g1 g2
      have e:g=(fun | .tmp t=>pure (a.tmps.getD t undef) | .cell t ty=>do loadVar ty (←asAddr (a.tmps.getD t undef))):=by
       funext x
       cases x with
       | tmp t=>exact g1 t
       | cell t ty=>exact g2 t ty
      rw [e,Ss,hf,hxs];rfl
     have hlen:=hrs.length
     match xs,vs,hrs,hlen,hm with
     | [x],[v],hrs,_,hm=>
      refine⟨x,?_,hrs.1⟩
      unfold Go.results
      simp only [Sem.run_bind]
      rw [hm _ (λ _=>rfl) (λ _ _=>rfl)]
      simp
     | [],[],hrs,_,hm=>
      refine⟨.tuple #[],?_,.tup (vs:=[]) rfl (by simp)⟩
      unfold Go.results
      simp only [Sem.run_bind]
      rw [hm _ (λ _=>rfl) (λ _ _=>rfl)]
      simp
     | x::y::l,v::u::l',hrs,hl,hm=>
      refine⟨.tuple (x::y::l).toArray,?_,.tup hl λ j z b h1 h2=>hrs.both h1 h2⟩
      unfold Go.results
      simp only [Sem.run_bind]
      rw [hm _ (λ _=>rfl) (λ _ _=>rfl)]
      simp
     | [],_::_,hrs,_,_=>exact hrs.elim
     | _::_,[],hrs,_,_=>exact hrs.elim
     | [_],_::_::_,hrs,_,_=>exact hrs.2.elim
     | _::_::_,[_],hrs,_,_=>exact hrs.2.elim
    obtain⟨x,hx,hr⟩:=hrun
    exact⟨x,hx,x,S,C6 ρ pi,rfl,hr.ren hid _ e3,hI2⟩
   ·cases h
  ·cases h
theorem Sat.post {C0:Ctx} (hup:Up C0 C) {fn:Func} {results:List ResultVar} {k:Nat} {pi:List Nat} {res:AV} {R2:List Res} (hf:fn.results.toList=results) (hk:C.h.length<=k) (h:Sx P results k pi st R=some (res,R2))
  (hs:Sat n C (mkL st) R a w):Ld P fn C0 res R2 .ret a w:=by
 obtain⟨h1,_,S,ρ,h3,h4⟩:=hs
 have hk0:C0.h.length<=k:=aw hup.hl hk
 show LeavesInM (FR none) 0 P fn a.tmps _ a.defers .returning w
 rw [h1]
 rcases hup.df with hd | ⟨D,hd,hD0⟩
 ·rw [hd]
  exact Atv hf hk0 h (hup.up _ _ _ _ h3) h4
 ·rw [hd]
  obtain⟨D',e,m1,m2,m3,m4⟩:=h3.gl.2.2 _ (by rw [hd];exact aC.2 rfl)
  have:D'=D:=by injection e with e1 _;injection e1 with e1;exact e1.symm
  subst this
  have hK:w.heap[D']? = some (.deferred (some [])):=(h3.frm D' m1 m2).trans m4
  have hS:¬S D':=λ hSD=>by
   rcases (h3.sup D' hSD).2 with q | q | q
   ·exact m3 q
   ·exact m2 q
   ·omega
  have hR:∀ (i:Nat) r h,R[i]? = some r->ρ[i]? = some h->¬r.foot h D':=λ i r h g1 g2 g3=>by
   rcases (h3.own i r h D' g1 g2 g3).2.2 with q | q
   ·exact m2 q
   ·omega
  obtain⟨g1,g2⟩:=(hup.up _ _ _ _ h3).shut hD0 hS hR (.deferred none)
  refine⟨by simp,.inl ⟨D',_,rfl,run_takeDeferred hK,?_⟩⟩
  refine Atv hf hk0 h g1 λ e he=>?_
  obtain⟨q1,q2⟩:=h4 e he
  refine⟨λ hp=>?_,q2⟩
  obtain⟨x,hx,hr⟩:=q1 hp
  exact⟨x,hx,hr.mono (λ _ h=>h) g2 (Pre.refl _)⟩
def Vx:Nat->List AV->St
 | _,[]=>[]
 | i,v::l=>(i,v)::Vx (i+1) l
theorem yM:∀ {l:List AV} {i:Nat} {e:Ent},e∈mkL (Vx i l)->∃ j,e.t=i+j/\e.p=[]/\l[j]? = some e.v
 | [],i,e,h=>by cases h
 | v::l,i,e,h=>by
  rcases ag.1 h with rfl | h
  ·exact⟨0,rfl,rfl,rfl⟩
  ·obtain⟨j,h1,h2,h3⟩:=yM h
   exact⟨j+1,by omega,h2,by simpa using h3⟩
theorem Acm {f:FuncId} {fn:Func} {c:Code} {args:List AV} {res:AV} {R2:List Res} (hf:P.funcs[f]? = some fn) (hb:fn.body=some c) (hn:fn.ntmps=n) (hl:args.length<=n)
  (h:∀ C:Ctx,C.df=[]->C.h.length=R.length->W none P n C (Ld P fn C res R2) c (Vx 0 args) R):CallOk P f args R res R2:=by
 intro S w ρ vs hst hv
 refine callsIn_wide.1 (callsIn_of_wp_marks (F:=Fence.wide) (n:=0) hf hb trivial ?_)
 have hlen:=hv.length
 refine h ⟨w,S,Dz ρ R,ρ,[]⟩ rfl (by simp [hst.len]) _ _ ⟨rfl,?_,S,ρ,hst.inv,λ e he=>?_⟩
 ·simp;omega
 ·obtain⟨j,h1,h2,h3⟩:=yM he
  refine⟨λ _=>?_,λ hnp=>absurd (by rw [h2];exact B6) hnp⟩
  obtain⟨x,hx,hr⟩:=hv.get h3
  refine⟨x,?_,hr⟩
  have hj:j<vs.length:=(aa.1 hx).1
  simp only [aI] at h1
  rw [h1]
  simp [Array.getElem?_append,hj]
  rw [ai hj] at hx
  simpa using hx
end
end Go.SL
namespace Go.SL
section
variable {P:Program} {n:Nat} {C:Ctx} {st st':St} {R R':List Res} {S S':Nat->Prop} {w w':World} {ρ ρ':List Value} {a:Act}
theorem Aji {α:Type} {rows:List (List α)} {size k:Nat} (h1:∀ row,row∈rows->row.length=size) (hk:k<rows.length*size):∃ i j row d,k=i*size+j/\rows[i]? = some row/\row[j]? = some d/\j<size:=by
 have hs:0<size:=by
  grind
 have hkl:k / size<rows.length:=(Nat.div_lt_iff_lt_mul hs).2 hk
 have hrow:=ai hkl
 have hrl:=h1 _ (ae hrow)
 have hj:k % size<(rows[k / size]).length:=by rw [hrl];exact Nat.mod_lt _ hs
 refine⟨k / size,k % size,_,_,?_,hrow,ai hj,Nat.mod_lt _ hs⟩
 rw [Nat.mul_comm];exact (Nat.div_add_mod k size).symm
theorem W6 {e:Ent} (h:V3 S w ρ a e) (hS:∀ b,S b->S' b) (hρ:Pre ρ ρ'):V3 S' w ρ' a e:=by
 refine⟨λ hp=>?_,h.2⟩
 obtain⟨v,hv,hr⟩:=h.1 hp
 exact⟨v,hv,hr.mono hS (λ _ _=>rfl) hρ⟩
theorem Inv.swap0 {r r':Res} {i:Nat} {v:Value} (h:Inv C S w ρ R) (hi:R[i]? = some r) (hρ:ρ[i]? = some v) (hok:r.ok S w ρ v->r'.ok S w ρ v) (hf:∀ b,r'.foot v b=r.foot v b):Inv C S w ρ (R.set i r'):=by
 refine h.regroup (λ j _=>j) (by simp [h.len]) (Pre.refl _) (λ j r1 v1 h1 h2=>?_) (λ j r1 v1 b h1 h2 h3=>?_) (λ _ _=>rfl) rfl rfl ⟨rfl,λ _=>by grind⟩ rfl
 ·rw [ay] at h1
  split at h1
  ·rename_i hj
   subst hj
   split at h1
   ·cases h1;rw [hρ] at h2;cases h2;exact hok (h.ok i r v hi hρ)
   ·cases h1
  ·exact h.ok j r1 v1 h1 h2
 grind
def Acd (i:Nat) (tys:List (TypeId×Nat)) (st:St) (R:List Res):Option (St×List Res):=
 match R[i]? with
 | some (.zsl e size rows)=>bif Nat.beq tys.length size then some (st,R.set i (.dsl e size R.length)++[.gh size tys rows none]) else none
 | _=>none
theorem Inv.deepen (h:Inv C S w ρ R) {i e size:Nat} {tys:List (TypeId×Nat)} {rows:List (List Pd)} (hi:R[i]? = some (.zsl e size rows)) (ht:tys.length=size) :
  ∃ g,Inv C S w (ρ++[g]) (R.set i (.dsl e size R.length)++[.gh size tys rows none]):=by
 have hL:ρ.length=R.length:=h.len
 have hil:i<ρ.length:=by rw [hL];exact (aa.1 hi).1
 have hρ:ρ[i]? = some ρ[i]:=ai hil
 generalize ρ[i]=v at hρ
 have nohole:∀ q,¬G6 size none q:=λ q ⟨p,hp,_⟩=>by cases hp
 have key : ∃ g : Value, (∀ (xs cs : Array Value) (f : Fn), g = Value.func f xs cs -> (∀ (k : Nat) (x : Value), xs[k]? = some x -> ¬ ∃ a n c, x = Value.slice (some a) n c)) /\ (g.oneCell' = false \/ ∃ f xs cs, g = .func f xs cs /\ gOk S w size tys rows none xs) /\
   (∀ ρ':List Value,ρ'[R.length]? = some g->(Res.dsl e size R.length).ok S w ρ' v):=by
  rcases h.ok i _ _ hi hρ with hd | hk
  ·exact⟨undef,(λ xs cs f h=>by cases h),.inl rfl,λ ρ' _=>.inl hd⟩
  ·rcases hk with⟨h1,h2⟩ | ⟨b,o,cap,vs,h1,hb,h3,h4,h5,h6,h7⟩
   ·subst h1;subst h2
    refine⟨.func (.func 0) #[] #[],(λ xs cs f h=>by cases h;simp),.inr ⟨_,_,_,rfl,by simp,by simp,by simp,by simp⟩,λ ρ' hg=>.inr ⟨_,_,_,hg,.inl ⟨rfl,by simp⟩⟩⟩
   ·subst h1
    have hle:rows.length*size<=cap*size:=bh _ h3
    have hsz:(vs.extract o (o+rows.length*size)).size=rows.length*size:=by simp;omega
    have hget:∀ (k:Nat) (x:Value),(vs.extract o (o+rows.length*size))[k]? = some x->k<rows.length*size/\vs[o+k]? = some x:=by
     intro k x hx
     have hkl:k<rows.length*size:=by rw [←hsz];exact (aO.1 hx).1
     refine⟨hkl,?_⟩
     rw [Array.getElem?_extract] at hx
     split at hx
     ·exact hx
     ·cases hx
    have hns:∀ (k:Nat) (x:Value),(vs.extract o (o+rows.length*size))[k]? = some x->¬ ∃ a n c,x=Value.slice (some a) n c:=by
     rintro k x hx ⟨a,n,c,rfl⟩
     obtain⟨hk,hv⟩:=hget k _ hx
     obtain⟨i2,j2,row,d,e1,e2,e3,_⟩:=Aji h6 hk
     obtain⟨y,hy,hz⟩:=h7 i2 row e2 j2 d e3
     subst e1
     rw [←bj,hy] at hv
     cases hv
     cases d with
     | v z=>
      obtain⟨e1,_,hn⟩:=hz
      subst e1
      exact hn
     | s r=>cases hz.1
    refine⟨.func (.func 0) (vs.extract o (o+rows.length*size)) #[],(λ xs cs f h=>by cases h;exact hns),.inr ⟨_,_,_,rfl,h6,hsz,λ i2 row hi2 j2 d hj2=>?_,λ k1 k2 a1 n1 c1 a2 n2 c2 _ _ _ h8 _=>absurd ⟨_,_,_,rfl⟩ (hns k1 _ h8)⟩,λ ρ' hg=>.inr ⟨_,_,_,hg,.inr ⟨b,o,rows.length,cap,vs,rfl,hb,h3,h4,h5,hsz,λ k x hx=>(hget k x hx).2⟩⟩⟩
    obtain⟨y,hy,hz⟩:=h7 i2 row hi2 j2 d hj2
    have hil2:i2<rows.length:=(aa.1 hi2).1
    have hjl:j2<size:=by rw [←h6 row (ae hi2)];exact (aa.1 hj2).1
    have hlt:i2*size+j2<rows.length*size:=by
     have:(i2+1)*size<=rows.length*size:=bh _ hil2
     rw [aG,cd] at this;omega
    refine⟨y,?_,?_⟩
    ·rw [Array.getElem?_extract,if_pos (by omega),←bj];exact hy
    ·cases d with
     | v z=>exact hz
     | s r=>
      obtain⟨rfl,rfl⟩:=hz
      exact⟨rfl,λ _=>⟨_,_,ai (by rw [ht];exact hjl),.inl ⟨rfl,rfl⟩⟩⟩
 obtain⟨g,hnos,hgok,hdok⟩:=key
 refine⟨g,?_⟩
 have hnew:(ρ++[g])[R.length]? = some g:=by rw [←hL];simp
 refine h.regroup (λ j _=>j) (by simp [hL]) (Pre.append _ _) (λ j r v1 h1 h2=>?_) (λ j r v1 b h1 h2 h3=>?_) (λ _ _=>rfl) rfl rfl ⟨rfl,λ _=>by first | exact af _ | exact aJ _⟩ rfl
 ·rcases Du h1 with k1 | ⟨e1,rfl⟩
  ·have hjl:j<R.length:=by have:=(aa.1 k1).1;simpa using this
   have h2:ρ[j]? = some v1:=by rw [aD (by omega)] at h2;exact h2
   rw [ay] at k1
   split at k1
   ·rename_i hj
    subst hj
    split at k1
    ·cases k1;rw [hρ] at h2;cases h2;exact hdok _ hnew
    ·omega
   ·exact (h.ok j r v1 k1 h2).mono (λ _ h=>h) (λ _ _=>rfl) (Pre.append _ _) (λ _ _=>rfl)
  ·have e2:j=R.length:=by simpa using e1
   subst e2
   rw [hnew] at h2;cases h2
   exact hgok
 ·rcases Du h1 with k1 | ⟨e1,rfl⟩
  ·have hjl:j<R.length:=by have:=(aa.1 k1).1;simpa using this
   have h2:ρ[j]? = some v1:=by rw [aD (by omega)] at h2;exact h2
   rw [ay] at k1
   split at k1
   ·rename_i hj
    subst hj
    split at k1
    ·cases k1;exact⟨_,_,_,rfl,hi,h2,h3⟩
    ·omega
   ·exact⟨j,r,v1,rfl,k1,h2,h3⟩
  ·have e2:j=R.length:=by simpa using e1
   subst e2
   rw [hnew] at h2;cases h2
   exfalso
   match g,h3,hnos with
   | .func f xs cs,h3,hnos=>
    obtain⟨k,x,k1,_,k3⟩:=h3
    match x,k3,k1 with
    | .slice (some ad) m cp,k3,k1=>exact hnos _ _ _ rfl k _ k1 ⟨_,_,_,rfl⟩
theorem Sat.deep {i:Nat} {tys:List (TypeId×Nat)} (h:Acd i tys st R=some (st',R')) (hs:Sat n C (mkL st) R a w):Sat n C (mkL st') R' a w:=by
 unfold Acd at h
 split at h
 ·rename_i e size rows hi
  cases hb:Nat.beq tys.length size with
  | false=>rw [hb] at h;simp at h
  | true=>
   rw [hb] at h
   simp only [cond_true,ah,aq] at h
   obtain⟨rfl,rfl⟩:=h
   obtain⟨h1,h2,S,ρ,h3,h4⟩:=hs
   obtain⟨g,hI⟩:=h3.deepen hi (aj hb)
   exact⟨h1,h2,S,ρ++[g],hI,λ e he=>W6 (h4 e he) (λ _ h=>h) (Pre.append _ _)⟩
 ·cases h
def Abq (i:Nat) (st:St) (R:List Res):Option (St×List Res):=
 match R[i]? with
 | some (.dsl e size g)=>match R[g]? with
  | some (.gh s2 _ rows none)=>bif Nat.beq size s2&&Nat.blt 0 size then some (st,(R.set g .non).set i (.sl e size rows)) else none
  | _=>none
 | _=>none
theorem Sat.flat {i : Nat} (h : Abq i st R = some (st', R')) (hs : Sat n C (mkL st) R a w) : Sat n C (mkL st') R' a w := by
 unfold Abq at h
 split at h
 ·rename_i e size g hi
  split at h
  ·rename_i s2 tys rows hg
   cases hb:Nat.beq size s2&&Nat.blt 0 size with
   | false=>rw [hb] at h;simp at h
   | true=>
    rw [hb] at h
    simp only [cond_true,ah,aq] at h
    obtain⟨rfl,rfl⟩:=h
    simp only [ab] at hb
    have:=aj hb.1
    subst this
    have hs0:0<size:=by simpa [Nat.blt_eq] using hb.2
    obtain⟨h1,h2,S,ρ,h3,h4⟩:=hs
    have hig:i≠g:=λ e=>by subst e;rw [hi] at hg;cases hg
    obtain⟨v,hρi⟩:=h3.rho hi
    obtain⟨u,hρg⟩:=h3.rho hg
    have hF:=h3.freeze hg hρg
    have hi':(R.set g .non)[i]? = some (.dsl e size g):=by rw [bt (Ne.symm hig)];exact hi
    refine⟨h1,h2,_,ρ,hF.swap0 hi' hρi (λ hok=>?_) (λ _=>rfl),λ e he=>W6 (h4 e he) (λ _ h=>.inl h) (Pre.refl _)⟩
    rcases h3.ok i _ v hi hρi with hd | hk
    ·exact .inl hd
    ·refine .inr ?_
     by_cases hv1:v.oneCell'=true
     ·obtain⟨f,xs,cs,hg1,hgo,hform⟩:=Oo h3 hi hg hρi hv1 hs0
      rw [hρg] at hg1;cases hg1
      rcases hform with⟨k1,k2⟩ | ⟨b,o,cap,vs,k1,k2,k3,k4,k5,k6⟩
      ·exact .inl ⟨k1,k2⟩
      ·refine .inr ⟨b,o,cap,vs,k1,.of k2,k3,k4,k5,hgo.1,λ i2 row hi2 j2 d hj2=>?_⟩
       obtain⟨x,hx,hc⟩:=hgo.2.2.1 i2 row hi2 j2 d hj2
       refine⟨x,by rw [bj];exact k6 _ x hx,?_⟩
       cases d with
       | v y=>
        obtain⟨rfl,hy,_⟩:=hc
        exact .v _ hy
       | s r=>
        have hno:¬G6 size none (i2*size+j2):=by rintro⟨p,hp,_⟩;cases hp
        obtain⟨e2,s3,_,hsl⟩:=hc.2 hno
        have hfr:=Res.ok0.frozen (ρ:=ρ) (show (Res.sl e2 s3 r).ok0 S w ρ x from hsl)
        refine hfr.mono (λ b hb=>?_) (λ _ _=>rfl)
        rcases hb with hb | hb
        ·exact .inl hb
        ·exact .inr ⟨_,x,hx,hno,hb⟩
     ·exfalso
      obtain⟨f,xs,cs,_,hk⟩:=hk
      rcases hk with⟨rfl,_⟩ | ⟨b,o,len,cap,vs,rfl,_⟩ <;> exact hv1 rfl
  ·cases h
 ·cases h
def Zx (t:Nat) (st:St) (R:List Res):Option (St×List Res):=
 match D7 (mkL st) t with
 | some en=>match en.v with
  | .d (.osb i lo m sz)=>match R[i]? with
   | some (.sl e s rows)=>bif Nat.beq sz s then some (Od t (.d (.os R.length)) st,R.set i .non++[.sl e s ((rows.drop lo).take m)]) else none
   | _=>none
  | _=>none
 | none=>none
theorem Qt {t:Nat} {v:AV}:∀ {st:St} {e:Ent},e∈mkL (Od t v st)->(e.t=t/\e.p=[]/\e.v=v)\/(e∈mkL st/\e.t≠t)
 | [],e,h=>by cases h
 | (u, x) :: r, e, h => by
  unfold Od at h
  cases hb:Nat.beq u t with
  | true=>
   rw [hb] at h
   simp only [cond_true,mkL,ag] at h
   rcases h with rfl | h
   ·exact .inl ⟨aj hb,rfl,rfl⟩
   ·rcases Qt h with h | ⟨h,h'⟩
    ·exact .inl h
    ·exact .inr ⟨al _ h,h'⟩
  | false=>
   rw [hb] at h
   simp only [cond_false,mkL,ag] at h
   rcases h with rfl | h
   ·refine .inr ⟨ak,λ e=>?_⟩
    simp only at e
    subst e
    simp at hb
   ·rcases Qt h with h | ⟨h,h'⟩
    ·exact .inl h
    ·exact .inr ⟨al _ h,h'⟩
theorem Sat.trunc {t : Nat} (h : Zx t st R = some (st', R')) (hs : Sat n C (mkL st) R a w) : Sat n C (mkL st') R' a w := by
 unfold Zx at h
 split at h
 ·rename_i en hen
  split at h
  ·rename_i i lo m sz hev
   split at h
   ·rename_i e s rows hi
    cases hb:Nat.beq sz s with
    | false=>rw [hb] at h;simp at h
    | true=>
     rw [hb] at h
     simp only [cond_true,ah,aq] at h
     obtain⟨rfl,rfl⟩:=h
     have:=aj hb
     subst this
     obtain⟨h1,h2,S,ρ,h3,h4⟩:=hs
     obtain⟨hmem,ht⟩:=C5 hen
     obtain⟨v,hv,hr⟩:=(h4 en hmem).1 (by rw [Dn hmem];exact B6)
     rw [hev] at hr
     have hr':=hr.d_inv
     cases hr' with
     | @osb _ _ _ _ q ad len cap hρ hl hc hq hq2=>
      have hfootsub:∀ k,(Res.sl e sz ((rows.drop lo).take m)).foot (.slice (ad.map (·.add q)) m (cap-lo)) k->(Res.sl e sz rows).foot (.slice ad len cap) k:=λ k hk=>by
       cases ad with
       | none=>exact hk
       | some ad=>exact (Gz ad q).symm.trans hk
      have hI:=h3.move (w':=w) (r':=.sl e sz ((rows.drop lo).take m)) (v':=.slice (ad.map (·.add q)) m (cap-lo)) hi hρ (λ _ _ _=>rfl) (af _) rfl ⟨rfl,λ _=>by first | exact af _ | exact aJ _⟩ rfl (λ k hk=>.inl (hfootsub k hk)) (by
       refine .inr ?_
       rcases (h3.ok i _ _ hi hρ).live rfl with⟨k1,k2⟩ | ⟨b,o,cp,vs,k1,k2,k3,k4,k5,k6,k7⟩
       ·cases k1
        subst k2
        have:m=0:=by omega
        subst this
        have:lo=0:=by omega
        subst this
        exact .inl ⟨rfl,by simp⟩
       ·cases k1
        have hml:((rows.drop lo).take m).length=m:=by rw [aS,ce];omega
        have hfit:o+q+(cap-lo)*sz<=vs.size:=by
         rcases aN lo cap with g | g
         ·rw [hq2 g,bj,←aG,Nat.add_sub_cancel' (Nat.le_of_lt g)];exact k5
         ·have e0:lo=cap:=Nat.le_antisymm hc g
          subst e0
          rw [Nat.sub_self,Nat.zero_mul];omega
        refine .inr ⟨b,o+q,cap-lo,vs,by rw [hml];show Value.slice (some (Addr.add ⟨b,o,none⟩ q)) _ _=_;rw [Cx],k2,by rw [hml];omega,by omega,hfit,λ row hr=>k6 row (bX (bk hr)),λ i2 row hi2 j d hj=>?_⟩
        grind)
      have hnew:(ρ++[Value.slice (ad.map (·.add q)) m (cap-lo)])[R.length]? = some (.slice (ad.map (·.add q)) m (cap-lo)):=by rw [←h3.len];simp
      refine⟨h1,h2,S,_,hI,λ x hx=>?_⟩
      rcases Qt hx with⟨g1,g2,g3⟩ | ⟨g1,_⟩
      ·exact⟨λ _=>⟨_,by rw [g1,←ht];exact hv,by rw [g3];exact .d (.os hnew rfl)⟩,λ hn=>absurd (by rw [g2];exact B6) hn⟩
      ·exact W6 (h4 x g1) (λ _ h=>h) (Pre.append _ _)
   ·cases h
  ·cases h
 ·cases h
theorem _root_.Go.SL.CallOk.frz {f:FuncId} {args:List AV} {res:AV} {R2:List Res} (i:Nat) {e size:Nat} {rows:List (List Pd)} (h:CallOk P f args R res R2) (hi:R2[i]? = some (.sl e size rows)) :
  CallOk P f args R (res.frz i size rows) ((R2.set i .non).map (Res.frz i size rows)):=by
 intro S w ρ vs hs hv
 refine Calls.mono (h S w ρ vs hs hv) λ e w' hp=>?_
 obtain⟨v,S',ρ',rfl,hr,hI⟩:=hp
 obtain⟨S2,_,hI2,ha⟩:=hI.frz hi
 grind
def D.own:D->Bool
 | .p (.v _)=>true
 | .os _=>true
 | .o _ _=>true
 | _=>false
mutual
def AV.own:AV->Bool
 | .d x=>x.own
 | .agg ds=>ds.all D.own
 | .tup l=>dx l
def dx:List AV->Bool
 | []=>true
 | a::r=>a.own&&dx r
end
def V2:Res->Prop
 | .sl _ _ rows=>∀ row,row∈rows->∀ d,d∈row->∃ v,d = .v v
 | .box _ cells=>cells.all D.own=true
 | .non=>True
 | _=>False
def Qc:List Res->Prop
 | []=>True
 | r::l=>V2 r/\Qc l
def dD:Pd->Bool
 | .v _=>true
 | _=>false
theorem A_ {α:Type} {enc:α->List Pd} (h:∀ x,(enc x).all dD=true) {e z:Nat} {l:List α}:V2 (.sl e z (l.map enc)):=by
 intro row hr d hd
 obtain⟨x,_,rfl⟩:=ao.1 hr
 have:=(aH.1 (h x)) d hd
 cases d with
 | v y=>exact⟨y,rfl⟩
 | s r=>cases this
theorem Qc.get:∀ {l:List Res} {j:Nat} {r:Res},Qc l->l[j]? = some r->V2 r
 | [],j,r,_,h=>by simp at h
 | a::l,0,r,hf,h=>by simp at h;subst h;exact hf.1
 | a::l,j+1,r,hf,h=>by simp at h;exact Qc.get hf.2 h
theorem Rd.own_mv {k:Nat} {x:Value} {d d':D} (h:Rd S w ρ x d) (ho:d.own=true) (he:d.ren (λ j=>some (k+j))=some d') {ρ2:List Value} (hρ:∀ (j:Nat) v,ρ[j]? = some v->ρ2[k+j]? = some v):Rd S' w' ρ2 x d':=by
 cases d with
 | p y=>
  cases y with
  | v z=>
   simp [D.ren] at he;subst he
   have hp:=h.p_inv
   cases hp with | v _ h1=>exact .p (.v _ h1)
  | s r=>cases ho
 | os i=>
  simp [D.ren] at he;subst he
  exact .os (hρ _ _ h.os_inv) h.one
 | o i off=>
  simp [D.ren] at he;subst he
  obtain⟨b,rfl,h2⟩:=h.o_inv
  exact .o (hρ _ _ h2)
 | _=>cases ho
theorem RdA.own_mv {k:Nat} {ρ2:List Value} (hρ:∀ (j:Nat) v,ρ[j]? = some v->ρ2[k+j]? = some v) {x:Value} {d:AV} (h:RdA S w ρ x d):d.own=true->∀ d',d.ren (λ j=>some (k+j))=some d'->RdA S' w' ρ2 x d':=by
 induction h with
 | d h=>
  intro ho d' he
  simp only [AV.ren] at he
  split at he
  ·rename_i y hy
   simp at he;subst he
   exact .d (h.own_mv ho hy hρ)
  ·cases he
 | agg h=>
  intro ho d' he
  simp only [AV.ren] at he
  split at he
  ·rename_i es hes
   simp at he;subst he
   obtain⟨g1,g2⟩:=K3 hes
   refine .agg (d4 (by rw [h.length,g1]) λ j x d hx hd=>?_)
   obtain⟨d0,k1,k2⟩:=g2 j d hd
   exact (h.both hx k1).own_mv ((aH.1 ho) _ (ae k1)) k2 hρ
  ·cases he
 | tup hl h ih=>
  intro ho d' he
  simp only [AV.ren] at he
  split at he
  ·rename_i m hm
   simp at he;subst he
   obtain⟨g1,g2⟩:=M1 hm
   refine .tup (by rw [hl,g1]) λ j x a hx ha=>?_
   obtain⟨a0,k1,k2⟩:=g2 j a ha
   have hoj:∀ {l:List AV},dx l=true->∀ {j:Nat} {a:AV},l[j]? = some a->a.own=true:=by
    intro l
    induction l with
    | nil=>intro _ j a h;simp at h
    | cons b l ih=>
     intro ho j a h
     simp only [dx,ab] at ho
     grind
   exact ih j x a0 hx k1 (hoj ho k1) a k2
  ·cases he
def _root_.Go.SL.frzAll:List Nat->AV->List Res->Option (AV×List Res)
 | [],res,R2=>some (res,R2)
 | i::is,res,R2=>match R2[i]? with
  | some (.sl _ size rows)=>Go.SL.frzAll is (res.frz i size rows) ((R2.set i .non).map (Res.frz i size rows))
  | _=>none
theorem _root_.Go.SL.CallOk.frzAll {f:FuncId} {args:List AV}:∀ (is:List Nat) {res res':AV} {R2 R2':List Res} (_:CallOk P f args R res R2) (_:Go.SL.frzAll is res R2=some (res',R2')),CallOk P f args R res' R2'
 | [],_,_,_,_,h,hq=>by simp only [Go.SL.frzAll,ah,aq] at hq;obtain⟨rfl,rfl⟩:=hq;exact h
 | i::is,_,_,_,_,h,hq=>by
  simp only [Go.SL.frzAll] at hq
  split at hq
  ·rename_i e size rows hi
   exact CallOk.frzAll is (h.frz i hi) hq
  ·cases hq
theorem _root_.Go.SL.CallOk.lend {f:FuncId} {args args':List AV} {res res':AV} {R2 R2':List Res} (h:CallOk P f args' [] res R2) (hv:AV.viewL R [] args=some args') (ho:(oisL args).isEmpty=true) (hres:res.own=true) (hR:Qc R2)
  (e1:res.ren (λ j=>some (R.length+j))=some res') (e2:H0 (λ j=>some (R.length+j)) R2=some R2'):CallOk P f args R res' (R++R2'):=by
 intro S w ρ vs hs hvs
 have hI:=hs.inv
 have hno:∀ b,¬Dz [] [] b:=by rintro b ⟨i,r,h,h1,_⟩;simp at h1
 have hst:Start (Km S ρ R) w [] []:=⟨rfl,by simp,by simp,by simp,λ b hb=>by
  rcases hb with hb | ⟨i,r,h,h1,h2,h3⟩
  ·exact (hI.sup b hb).1
  ·exact (hI.own i r h b h1 h2 h3).2.1,hI.glOk.mono (λ _ h=>.inl h) λ _ _=>rfl⟩
 have hargs:=R_ hI hvs (λ g k s tys rows hm=>by rw [cI.1 ho] at hm;cases hm) hv
 refine (h _ w [] vs hst hargs).mono λ e w' hp=>?_
 obtain⟨v,S1,ρ1,rfl,hr,hq⟩:=hp
 have hsame:∀ b,b<w.heap.size->w'.heap[b]? = w.heap[b]?:=λ b hb=>hq.frm b hb (hno b)
 have hL:ρ.length=R.length:=hs.len
 have hρ1:∀ (j:Nat) u,ρ1[j]? = some u->(ρ++ρ1)[R.length+j]? = some u:=λ j u hj=>by
  rw [aQ (by omega),hL,show R.length+j-R.length=j from by omega];exact hj
 obtain⟨m1,m2⟩:=H7 e2
 have foot_ren:∀ {r r':Res} {u:Value} {b:Nat},V2 r->r.ren (λ j=>some (R.length+j))=some r'->(r'.foot u b↔r.foot u b):=by
  intro r r' u b hf he
  cases r with
  | box t cells=>
   simp only [Res.ren] at he
   split at he
   ·simp at he;subst he;rfl
   ·cases he
  | sl e s rows=>simp [Res.ren] at he;subst he;rfl
  | non=>simp [Res.ren] at he;subst he;rfl
  | _=>exact hf.elim
 have key:∀ (i:Nat) r u,(R++R2')[i]? = some r->(ρ++ρ1)[i]? = some u->(R[i]? = some r/\ρ[i]? = some u/\i<R.length)\/∃ j r0,i=R.length+j/\R2[j]? = some r0/\r0.ren (λ j=>some (R.length+j))=some r/\ρ1[j]? = some u:=by
  intro i r u h1 h2
  rcases aN i R.length with hi | hi
  ·rw [aD hi] at h1
   rw [aD (by omega)] at h2
   exact .inl ⟨h1,h2,hi⟩
  ·rw [aQ hi] at h1
   rw [aQ (by omega),hL] at h2
   obtain⟨r0,g1,g2⟩:=m2 _ r h1
   exact .inr ⟨i-R.length,r0,by omega,g1,g2,h2⟩
 have hsub:∀ b,Km S ρ R b->S1 b:=hq.sub
 refine⟨v,S,ρ++ρ1,rfl,hr.own_mv hρ1 hres res' e1,⟨?_,?_,?_,?_,λ _ h=>h,?_,?_,hq.size,hq.os,hq.tape,hq.output,Pre.append _ _,hI.gl⟩⟩
 ·rw [aF,aF,hL,m1,←hq.len]
 ·intro i r u h1 h2
  rcases key i r u h1 h2 with⟨g1,g2,_⟩ | ⟨j,r0,rfl,g1,g2,g3⟩
  ·exact (hI.ok i r u g1 g2).mono (λ _ h=>h) (λ b hb=>hsame b (hI.sup b hb).1) (Pre.append _ _) (λ b hb=>hsame b (hI.own i r u b g1 g2 hb).2.1)
  ·have hf:=hR.get g1
   rcases hq.ok j r0 u g1 g3 with hd | hk
   ·exact .inl hd
   ·refine .inr ?_
    cases r0 with
    | box t cells=>
     simp only [Res.ren] at g2
     split at g2
     ·rename_i cs hcs
      simp at g2;subst g2
      obtain⟨b,vs2,rfl,hb,hc⟩:=hk
      obtain⟨q1,q2⟩:=K3 hcs
      refine⟨b,vs2,rfl,hb,d4 (by rw [hc.length,q1]) λ i x d hx hd=>?_⟩
      obtain⟨d0,p1,p2⟩:=q2 i d hd
      exact (hc.both hx p1).own_mv ((aH.1 hf) _ (ae p1)) p2 hρ1
     ·cases g2
    | sl e s rows=>
     simp [Res.ren] at g2;subst g2
     rcases hk with h0 | ⟨b,o,cap,vs2,rfl,hb,k1,k2,k3,k4,k5⟩
     ·exact .inl h0
     ·refine .inr ⟨b,o,cap,vs2,rfl,hb,k1,k2,k3,k4,λ i row hi j d hj=>?_⟩
      obtain⟨x,hx,hr⟩:=k5 i row hi j d hj
      obtain⟨y,rfl⟩:=hf row (ae hi) d (ae hj)
      cases hr with | v _ h1=>exact⟨_,hx,.v _ h1⟩
    | non=>simp [Res.ren] at g2;subst g2;trivial
    | _=>exact hf.elim
 ·intro i j r r' u u' b hij h1 h2 h3 h4 h5 h6
  rcases key i r u h1 h3 with⟨g1,g2,g3⟩ | ⟨i0,r0,rfl,g1,g2,g3⟩ <;> rcases key j r' u' h2 h4 with⟨k1,k2,k3⟩ | ⟨j0,q0,rfl,k1,k2,k3⟩
  ·exact hI.dis i j r r' u u' b hij g1 k1 g2 k2 h5 h6
  ·rw [foot_ren (hR.get k1) k2] at h6
   exact (hq.own j0 q0 u' b k1 k3 h6).1 (hsub b (.inr ⟨i,r,u,g1,g2,h5⟩))
  ·rw [foot_ren (hR.get g1) g2] at h5
   exact (hq.own i0 r0 u b g1 g3 h5).1 (hsub b (.inr ⟨j,r',u',k1,k2,h6⟩))
  ·rw [foot_ren (hR.get g1) g2] at h5
   rw [foot_ren (hR.get k1) k2] at h6
   exact hq.dis i0 j0 r0 q0 u u' b (λ e=>hij (by rw [e])) g1 k1 g3 k3 h5 h6
 ·intro i r u b h1 h2 h3
  rcases key i r u h1 h2 with⟨g1,g2,g3⟩ | ⟨i0,r0,rfl,g1,g2,g3⟩
  ·obtain⟨o1,o2,o3⟩:=hI.own i r u b g1 g2 h3
   exact⟨o1,aK o2 hq.size,o3⟩
  ·rw [foot_ren (hR.get g1) g2] at h3
   obtain⟨o1,o2,o3⟩:=hq.own i0 r0 u b g1 g3 h3
   refine⟨λ hb=>o1 (hsub b (.inl hb)),o2,?_⟩
   rcases o3 with o3 | o3
   ·exact absurd o3 (hno b)
   ·exact .inr o3
 ·intro b hb
  exact⟨aK (hI.sup b hb).1 hq.size,.inl hb⟩
 ·intro b hb _
  exact hsame b hb
end
end Go.SL
namespace Go.SL
inductive It where
 | c (x:Code)
 | b (id:Nat)
 | k (K:Act->World->Prop)
 | l (x:Code) (m:Nat)
def Qs (ro:Option Nat) (P:Program):List It->(Exit->Act->World->Prop)->Exit->Act->World->Prop
 | [],Q=>Q
 | .c x::l,Q=>Exit.then (x.wpIn (FR ro) 0 P (Qs ro P l Q)) (Qs ro P l Q)
 | .b id::l,Q=>Exit.inBlock id (Qs ro P l Q)
 | .k K::l,Q=>Exit.then K (Qs ro P l Q)
 | .l x m::l,Q=>Exit.then (Code.roundsIn (FR ro) 0 P x (Qs ro P l Q) m) (Qs ro P l Q)
def WI (ro:Option Nat) (P:Program) (n:Nat) (C:Ctx) (Q:Exit->Act->World->Prop) (l:List It) (st:St) (R:List Res):Prop:=
 ∀ a w,Sat n C (mkL st) R a w->Qs ro P l Q .normal a w
def unw (id:Nat):List It->Option (List It)
 | []=>none
 | .c _::l=>unw id l
 | .k _::l=>unw id l
 | .l _ _::l=>unw id l
 | .b id'::l=>bif Nat.beq id' id then some l else unw id l
inductive Aju where
 | ret
 | stop
def Q4 (lv:List Nat):List Ent->List Ent
 | []=>[]
 | e::r=>bif e.p.isEmpty&&Mc lv e.t then e::Q4 lv r else Q4 lv r
def Avf (o:Oper):Bool:=
 match o.op with
 | .alloc _=>true
 | .makeSlice ..=>true
 | _=>false
def Ayi (ops:Array Oper):List Cl->Option (List Res)
 | .flts l::_=>bif ops.toList.any Avf then some l else none
 | _=>none
def Aib (P:Program) (n:Nat) (ops:Array Oper) (draw:Bool) (L:List Ent) (R:List Res) (cls:List Cl) (lv:List Nat):Option (List Ent×List Res×List Cl):=
 match draw with
 | false=>match Ri P n ops (List.range ops.size) L R cls with
  | some (L',R',cs)=>some (Q4 lv L',R',cs)
  | none=>none
 | true=>match Ayi ops cls with
  | some fl=>match Qy P n ops (List.range ops.size) L (R++fl) cls.tail with
   | some (rs,L',R',cs)=>bif M3 ops L rs&&Nx R.length (R.length+fl.length) rs then some (Q4 lv L',R',.flts fl::cs) else none
   | none=>none
  | none=>match Qy P n ops (List.range ops.size) L R cls with
   | some (rs,L',R',cs)=>bif M3 ops L rs&&Nx 0 0 rs then some (Q4 lv L',R',cs) else none
   | none=>none
def Aac (L:List Ent) (c:Operand):Option Bool:=
 match c with
 | .const (.bool b)=>some b
 | .tmp t=>match D7 L t with
  | some e=>bif e.p.isEmpty then Ln e.v else none
  | none=>none
 | _=>none
def Aq6:Code->Bool
 | .loop _=>true
 | _=>false
def Fz (P : Program) (n : Nat) (lv : List Nat) : Nat -> List It -> List Ent -> List Res -> List Bool -> List Cl -> Option (Aju × List Ent × List Res × List Cl × List (Bool × Bool))
 | 0,_,L,R,_,_=>some (.stop,L,R,[],[])
 | fuel+1,items,L,R,ds,cls=>match items with
  | []=>some (.stop,L,R,[],[])
  | .k _::_=>some (.stop,L,R,[],[])
  | .b _::l=>Fz P n lv fuel l L R ds cls
  | .l x m::l=>match m with
   | 0=>none
   | m+1=>Fz P n lv fuel (.c x :: .l x m::l) L R ds cls
  | .c x::l=>match x with
   | .skip=>Fz P n lv fuel l L R ds cls
   | .seq a b=>Fz P n lv fuel (.c a :: .c b::l) L R ds cls
   | .region _ ops draw=>match Aib P n ops draw L R cls lv with
    | some (L',R',cs)=>match Fz P n lv fuel l L' R' ds (cls.drop cs.length) with
     | some (lf,L2,R2,cs2,bs)=>some (lf,L2,R2,cs++cs2,bs)
     | none=>none
    | none=>none
   | .cond c x y=>match ds with
    | []=>some (.stop,L,R,[],[])
    | d::ds=>match Aac L c with
     | some b=>match Fz P n lv fuel ((match d with | true=>.c x | false=>.c y)::l) L R ds cls with
      | some (lf,L2,R2,cs2,bs)=>some (lf,L2,R2,cs2,(b,d)::bs)
      | none=>none
     | none=>none
   | .block id c=>match Aq6 c,ds with
    | true,[]=>some (.stop,L,R,[],[])
    | true,_::ds=>Fz P n lv fuel (.c c :: .b id::l) L R ds cls
    | false,ds=>Fz P n lv fuel (.c c :: .b id::l) L R ds cls
   | .exit id=>match unw id l with
    | some l'=>Fz P n lv fuel l' L R ds cls
    | none=>none
   | .ret=>some (.ret,L,R,[],[])
   | .loop x=>match ds with
    | []=>some (.stop,L,R,[],[])
    | _::ds=>Fz P n lv fuel (.c x :: .l x 1000::l) L R ds cls
   | _=>some (.stop,L,R,[],[])
def Bv : Nat -> List It -> List Bool -> List It
 | 0,items,_=>items
 | fuel+1,items,ds=>match items with
  | []=>[]
  | .k K::l=>.k K::l
  | .b _::l=>Bv fuel l ds
  | .l x m::l=>match m with
   | 0=>.l x 0::l
   | m+1=>Bv fuel (.c x :: .l x m::l) ds
  | .c x::l=>match x with
   | .skip=>Bv fuel l ds
   | .seq a b=>Bv fuel (.c a :: .c b::l) ds
   | .region _ _ _=>Bv fuel l ds
   | .cond c x y=>match ds with
    | []=>.c (.cond c x y)::l
    | d::ds=>Bv fuel ((match d with | true=>.c x | false=>.c y)::l) ds
   | .block id c=>match Aq6 c,ds with
    | true,[]=>.c (.block id c)::l
    | true,_::ds=>Bv fuel (.c c :: .b id::l) ds
    | false,ds=>Bv fuel (.c c :: .b id::l) ds
   | .exit id=>match unw id l with
    | some l'=>Bv fuel l' ds
    | none=>.c (.exit id)::l
   | .loop x=>match ds with
    | []=>.c (.loop x)::l
    | _::ds=>Bv fuel (.c x :: .l x 1000::l) ds
   | y=>.c y::l
section
variable {ro:Option Nat} {P:Program} {n:Nat} {C:Ctx} {Q:Exit->Act->World->Prop} {st st':St} {R R':List Res} {L L':List Ent} {S S':Nat->Prop} {w w':World} {ρ ρ':List Value} {a:Act} {lv:List Nat}
theorem N6:∀ {l:List It},Q .ret a w->Qs ro P l Q .ret a w
 | [],h=>h
 | .c _::l,h=>N6 (l:=l) h
 | .b _::l,h=>N6 (l:=l) h
 | .k _::l,h=>N6 (l:=l) h
 | .l _ _::l,h=>N6 (l:=l) h
theorem Sj {id:Nat}:∀ {l l':List It},unw id l=some l'->Qs ro P l' Q .normal a w->Qs ro P l Q (.exit id) a w
 | [],l',h,_=>by simp [unw] at h
 | .c _::l,l',h,hq=>Sj (l:=l) h hq
 | .k _::l,l',h,hq=>Sj (l:=l) h hq
 | .l _ _::l,l',h,hq=>Sj (l:=l) h hq
 | .b id'::l,l',h,hq=>by
  simp only [unw] at h
  show (if id=id' then Qs ro P l Q .normal a w else Qs ro P l Q (.exit id) a w)
  cases hb:Nat.beq id' id with
  | true=>
   rw [hb] at h
   simp at h;subst h
   rw [if_pos (aj hb).symm]
   exact hq
  | false=>
   rw [hb] at h
   simp only [cond_false] at h
   have:¬(id=id'):=by rintro rfl;simp at hb
   rw [if_neg this]
   exact Sj h hq
theorem Ic:∀ {L:List Ent} {e:Ent},e∈Q4 lv L->e∈L/\e.p=[]
 | [],e,h=>by cases h
 | x::r,e,h=>by
  simp only [Q4] at h
  cases hb:(x.p.isEmpty&&Mc lv x.t) with
  | true=>
   rw [hb] at h
   simp only [cond_true] at h
   rcases ag.1 h with rfl | h
   ·simp only [ab,cI] at hb
    exact⟨ak,hb.1⟩
   ·exact⟨al _ (Ic h).1,(Ic h).2⟩
  | false=>
   rw [hb] at h
   simp only [cond_false] at h
   exact⟨al _ (Ic h).1,(Ic h).2⟩
theorem Sat.drew {L:List Ent} (hs:Sat n C L R a w):Sat n C L R a w.drew:=by
 obtain⟨h1,h2,S,ρ,h3,h4⟩:=hs
 refine⟨h1,h2,S,ρ,h3.drew,λ e he=>?_⟩
 obtain⟨k1,k2⟩:=h4 e he
 refine⟨λ hp=>?_,k2⟩
 obtain⟨v,hv,hr⟩:=k1 hp
 exact⟨v,hv,hr.mono (λ _ h=>h) (λ _ _=>rfl) (Pre.refl _)⟩
theorem Af2 {ops:Array Oper} {fl:List Res} {cls cs:List Cl} {rs:List Rec} {lo hi:Nat} (hs:Sat n C L R a w) (e1:Qy P n ops (List.range ops.size) L (R++fl) cls=some (rs,L',R',cs)) (hok:C1 P cs)
  (hb:M3 ops L rs=true) (hr:∀ i,i∈Jh rs->R.length<=i/\i<R.length+fl.length) (hfl:Nx lo hi rs=true) (hK:∀ a w,Sat n C L' R' a w->Q .normal a w) :
  wpAnyIn (FR ro) 0 P .any ops Q ops.size (Array.replicate ops.size false) a w.drew:=by
 obtain⟨c1,c2⟩:=Mq e1 hok
 obtain⟨h1,h2,S,ρ,h3,h4⟩:=hs.drew
 have hnd:Fo (Jh rs)=true:=by unfold Nx at hfl;simp only [ab] at hfl;exact hfl.1
 have hCl:C.h.length<=ρ.length:=by
  rcases aN ρ.length C.h.length with hlt | hge
  ·have:=h3.pre _ _ (ai hlt)
   have:=(aa.1 this).1
   omega
  ·exact hge
 have hF:Adf C rs:=⟨Tn hnd,λ r i hrs hfi=>by have:=(hr i (J3 hrs hfi)).1;rw [h3.len] at hCl;omega⟩
 obtain⟨ρ',h5,h6,h7⟩:=h3.dummies fl
 refine A0t (C:=C) c1 c2 (Yx hb) hF hK ops.size _ a _ (by simp) ?_ ?_ ⟨h1,h2,S,ρ',?_,λ e he=>?_,λ r i hrs hfi _=>?_⟩
 ·unfold unl
  refine aw (aW _ _) (by simp)
 ·intro j o hj
  simp only [aM,cg] at hj
  split at hj <;> simp at hj
 ·have:Eg (λ i=>(Array.replicate ops.size false).getD i false) (R++fl) rs=R++fl:=Fl λ r _ _=>by
   simp only [aM,cg]
   split <;> simp
  rw [this];exact h5
 ·rcases he with⟨g1,_⟩ | ⟨r,_,g2,_⟩
  ·obtain⟨k1,k2⟩:=h4 e g1
   refine⟨λ hp=>?_,k2⟩
   obtain⟨v,hv,hr⟩:=k1 hp
   exact⟨v,hv,hr.mono (λ _ h=>h) (λ _ _=>rfl) h6⟩
  ·simp only [aM,cg] at g2
   split at g2 <;> simp at g2
 ·obtain⟨m1,m2⟩:=hr i (J3 hrs hfi)
  exact h7 i m1 m2
theorem Au1 {id:Nat} {ops:Array Oper} {draw:Bool} {cls cs:List Cl} (hm:P.follows .mixedOrders=true) (h:Aib P n ops draw L R cls lv=some (L',R',cs)) (hok:C1 P cs)
  (hs:Sat n C L R a w) (hK:∀ a w,Sat n C L' R' a w->Q .normal a w):(Code.region id ops draw).wpIn (FR ro) 0 P Q a w:=by
 cases draw with
 | false=>
  refine wpIn_region ?_
  simp only [Aib] at h
  split at h
  ·rename_i L1 R1 cs1 e1
   simp at h
   obtain⟨rfl,rfl,rfl⟩:=h
   exact Se (Rh e1 hok hs λ a' w' h'=>hK a' w' (h'.sub λ e he=>(Ic he).1))
  ·cases h
 | true=>
  refine wpIn_region_any hm ?_
  simp only [Aib] at h
  split at h
  ·rename_i fl _
   split at h
   ·rename_i rs L1 R1 cs1 e1
    cases hb:(M3 ops L rs&&Nx R.length (R.length+fl.length) rs) with
    | false=>rw [hb] at h;simp at h
    | true=>
     rw [hb] at h
     simp at h
     obtain⟨rfl,rfl,rfl⟩:=h
     simp only [ab] at hb
     refine Af2 (fl:=fl) hs e1 hok.2 hb.1 (λ i hi=>?_) hb.2 λ a' w' h'=>hK a' w' (h'.sub λ e he=>(Ic he).1)
     have:=(aH.1 (by unfold Nx at hb;simp only [ab] at hb;exact hb.2.2)) i hi
     simp only [ab] at this
     exact⟨bq this.1,by have:=this.2;simpa [Nat.blt_eq] using this⟩
   ·cases h
  ·split at h
   ·rename_i rs L1 R1 cs1 e1
    cases hb:(M3 ops L rs&&Nx 0 0 rs) with
    | false=>rw [hb] at h;simp at h
    | true=>
     rw [hb] at h
     simp at h
     obtain⟨rfl,rfl,rfl⟩:=h
     simp only [ab] at hb
     refine Af2 (fl:=[]) (lo:=0) (hi:=0) hs (by simpa using e1) hok hb.1 (λ i hi=>?_) hb.2 λ a' w' h'=>hK a' w' (h'.sub λ e he=>(Ic he).1)
     have:=(aH.1 (by unfold Nx at hb;simp only [ab] at hb;exact hb.2.2)) i hi
     simp [Nat.blt_eq] at this
   ·cases h
theorem Abu {c:Operand} {b:Bool} (hs:Sat n C L R a w) (hc:Aac L c=some b):a.eval c = .bool b:=by
 obtain⟨_,_,S,ρ,_,h4⟩:=hs
 unfold Aac at hc
 split at hc
 ·simp at hc;subst hc;rfl
 ·rename_i t
  split at hc
  ·rename_i e he
   cases hp:e.p.isEmpty with
   | false=>rw [hp] at hc;simp at hc
   | true=>
    rw [hp] at hc
    simp only [cond_true] at hc
    have:=(Rk h4 he hc).1 (by rw [cI.1 hp];exact B6)
    simp [Act.eval,Array.getD_eq_getD_getElem?,this]
  ·cases hc
 ·cases hc
theorem dm:∀ {l m:List Cl},C1 P (l++m)->C1 P l
 | [],_,_=>trivial
 | _::_,_,h=>⟨h.1,dm h.2⟩
theorem dl:∀ {l m:List Cl},C1 P (l++m)->C1 P m
 | [],_,h=>h
 | _::l,_,h=>dl (l:=l) h.2
def Ade (ro:Option Nat) (P:Program) (n:Nat) (C:Ctx) (Q:Exit->Act->World->Prop) (lf:Aju) (L:List Ent) (R:List Res) (its:List It):Prop:=
 match lf with
 | .ret=>∀ a w,Sat n C L R a w->Q .ret a w
 | .stop=>∀ a w,Sat n C L R a w->Qs ro P its Q .normal a w
theorem Vk (hm : P.follows .mixedOrders = true) : ∀ {fuel : Nat} {items : List It} {L : List Ent} {R : List Res} {ds : List Bool} {cls : List Cl} {lf : Aju} {L' : List Ent} {R' : List Res} {cs : List Cl} {bs : List (Bool × Bool)} {a : Act} {w : World},
  Fz P n lv fuel items L R ds cls=some (lf,L',R',cs,bs)->C1 P cs->Dc bs->Sat n C L R a w ->
  Ade ro P n C Q lf L' R' (Bv fuel items ds)->Qs ro P items Q .normal a w:=by
 intro fuel
 induction fuel with
 | zero=>
  intro items L R ds cls lf L' R' cs bs a w h hok hbs hs hK
  simp only [Fz,ah,aq] at h
  obtain⟨rfl,rfl,rfl,rfl,rfl⟩:=h
  simp only [Bv] at hK
  exact hK a w hs
 | succ fuel ih =>
  intro items L R ds cls lf L' R' cs bs a w h hok hbs hs hK
  have stop:∀ {items},Bv (fuel+1) items ds=items->some (Aju.stop,L,R,([]:List Cl),([]:List (Bool×Bool)))=some (lf,L',R',cs,bs) ->
    Ade ro P n C Q lf L' R' (Bv (fuel+1) items ds)->Qs ro P items Q .normal a w:=by
   intro items hsk h hK
   simp only [ah,aq] at h
   obtain⟨rfl,rfl,rfl,rfl,rfl⟩:=h
   rw [hsk] at hK
   exact hK a w hs
  cases items with
  | nil=>exact stop rfl h hK
  | cons it l=>
   cases it with
   | k K=>exact stop rfl h hK
   | b id=>exact ih (items:=l) h hok hbs hs hK
   | l x m=>
    cases m with
    | zero=>simp [Fz] at h
    | succ m=>exact ih (items:=.c x :: .l x m::l) h hok hbs hs hK
   | c x =>
    cases x with
    | skip=>exact wpIn_skip (ih (items:=l) h hok hbs hs hK)
    | seq x y=>exact wpIn_seq (ih (items:=.c x :: .c y::l) h hok hbs hs hK)
    | region id ops draw=>
     simp only [Fz] at h
     split at h
     ·rename_i L1 R1 cs1 e1
      split at h
      ·rename_i lf2 L2 R2 cs2 bs2 e2
       simp only [ah,aq] at h
       obtain⟨rfl,rfl,rfl,rfl,rfl⟩:=h
       exact Au1 hm e1 (dm hok) hs λ a' w' hs'=>ih (items:=l) e2 (dl hok) hbs hs' hK
      ·cases h
     ·cases h
    | cond c x y=>
     cases ds with
     | nil=>exact stop rfl h hK
     | cons d ds=>
      simp only [Fz] at h
      split at h
      ·rename_i b hb
       split at h
       ·rename_i lf2 L2 R2 cs2 bs2 e2
        simp only [ah,aq] at h
        obtain⟨rfl,rfl,rfl,rfl,rfl⟩:=h
        have he:=Abu hs hb
        have hd:b=d:=hbs.1
        subst hd
        cases b with
        | true=>exact wpIn_cond_true he (ih (items:=.c x::l) e2 hok hbs.2 hs hK)
        | false=>exact wpIn_cond_false he (ih (items:=.c y::l) e2 hok hbs.2 hs hK)
       ·cases h
      ·cases h
    | block id c=>
     cases hl:Aq6 c with
     | true=>
      cases ds with
      | nil=>
       simp only [Fz,hl] at h
       exact stop (by simp only [Bv,hl]) h hK
      | cons d ds=>
       simp only [Fz,hl] at h
       simp only [Bv,hl] at hK
       exact wpIn_block (ih (items:=.c c :: .b id::l) h hok hbs hs hK)
     | false=>
      simp only [Fz,hl] at h
      simp only [Bv,hl] at hK
      exact wpIn_block (ih (items:=.c c :: .b id::l) h hok hbs hs hK)
    | exit id=>
     simp only [Fz] at h
     split at h
     ·rename_i l' hl'
      have hK':Ade ro P n C Q lf L' R' (Bv fuel l' ds):=by
       cases lf with
       | ret=>exact hK
       | stop=>
        intro a w h2
        have:=hK a w h2
        simp only [Bv,hl'] at this
        exact this
      exact wpIn_exit (Sj hl' (ih (items:=l') h hok hbs hs hK'))
     ·cases h
    | ret=>
     simp only [Fz,ah,aq] at h
     obtain⟨rfl,rfl,rfl,rfl,rfl⟩:=h
     exact wpIn_ret (N6 (l:=l) (hK a w hs))
    | loop c=>
     cases ds with
     | nil=>exact stop rfl h hK
     | cons d ds=>exact wpIn_loop_rounds 1001 (ih (items:=.c c :: .l c 1000::l) h hok hbs hs hK)
    | rangeFunc f ps x y=>exact stop rfl h hK
    | scope c=>exact stop rfl h hK
    | label c=>exact stop rfl h hK
    | goto c=>exact stop rfl h hK
    | refuse c=>exact stop rfl h hK
inductive Adj where
 | frz (i:Nat)
 | own (t e size:Nat)
 | mv (i:Nat)
 | ownb (i j e size:Nat)
 | ownt (t j e size:Nat)
 | deep (i:Nat) (tys:List (TypeId×Nat))
 | flat (i:Nat)
 | trunc (t:Nat)
def D5:List Adj->St->List Res->Option (St×List Res)
 | [],st,R=>some (st,R)
 | .frz i::l,st,R=>match Ai1 i st R with
  | some (st',R')=>D5 l st' R'
  | none=>none
 | .own t e s::l,st,R=>match Aig t e s st R with
  | some (st',R')=>D5 l st' R'
  | none=>none
 | .mv i::l,st,R=>match Aqy i st R with
  | some (st',R')=>D5 l st' R'
  | none=>none
 | .ownb i j e s::l,st,R=>match Aa1 i j e s st R with
  | some (st',R')=>D5 l st' R'
  | none=>none
 | .ownt t j e s::l,st,R=>match Aa0 t j e s st R with
  | some (st',R')=>D5 l st' R'
  | none=>none
 | .deep i tys::l,st,R=>match Acd i tys st R with
  | some (st',R')=>D5 l st' R'
  | none=>none
 | .flat i::l,st,R=>match Abq i st R with
  | some (st',R')=>D5 l st' R'
  | none=>none
 | .trunc t::l,st,R=>match Zx t st R with
  | some (st',R')=>D5 l st' R'
  | none=>none
theorem Sat.adj:∀ {l:List Adj} {st:St} {R:List Res} {st':St} {R':List Res},D5 l st R=some (st',R')->Sat n C (mkL st) R a w->Sat n C (mkL st') R' a w
 | [],st,R,st',R',h,hs=>by
  simp only [D5,ah,aq] at h
  obtain⟨rfl,rfl⟩:=h
  exact hs
 | .frz i::l,st,R,st',R',h,hs=>by
  simp only [D5] at h
  split at h
  ·rename_i s1 R1 e1
   exact Sat.adj h (hs.frz e1)
  ·cases h
 | .own t e s::l,st,R,st',R',h,hs=>by
  simp only [D5] at h
  split at h
  ·rename_i s1 R1 e1
   exact Sat.adj h (hs.own e1)
  ·cases h
 | .mv i::l,st,R,st',R',h,hs=>by
  simp only [D5] at h
  split at h
  ·rename_i s1 R1 e1
   exact Sat.adj h (hs.mv e1)
  ·cases h
 | .ownb i j e s::l,st,R,st',R',h,hs=>by
  simp only [D5] at h
  split at h
  ·rename_i s1 R1 e1
   exact Sat.adj h (hs.ownb e1)
  ·cases h
 | .ownt t j e s::l,st,R,st',R',h,hs=>by
  simp only [D5] at h
  split at h
  ·rename_i s1 R1 e1
   exact Sat.adj h (hs.ownt e1)
  ·cases h
 | .deep i tys::l,st,R,st',R',h,hs=>by
  simp only [D5] at h
  split at h
  ·rename_i s1 R1 e1
   exact Sat.adj h (hs.deep e1)
  ·cases h
 | .flat i::l,st,R,st',R',h,hs=>by
  simp only [D5] at h
  split at h
  ·rename_i s1 R1 e1
   exact Sat.adj h (hs.flat e1)
  ·cases h
 | .trunc t::l,st,R,st',R',h,hs=>by
  simp only [D5] at h
  split at h
  ·rename_i s1 R1 e1
   exact Sat.adj h (hs.trunc e1)
  ·cases h
def Sl:List Ent->St
 | []=>[]
 | e::r=>bif e.p.isEmpty then (e.t,e.v)::Sl r else Sl r
theorem K0:∀ {L:List Ent} {e:Ent},e∈mkL (Sl L)->e∈L
 | [],e,h=>by cases h
 | x :: r, e, h => by
  simp only [Sl] at h
  cases hb:x.p.isEmpty with
  | true=>
   rw [hb] at h
   simp only [cond_true] at h
   rcases ag.1 h with rfl | h
   ·have:(⟨x.t,[],x.v⟩:Ent)=x:=by
     obtain⟨xt,xp,xv⟩:=x
     simp at hb ⊢
     exact hb
    rw [this];exact ak
   ·exact al _ (K0 h)
  | false=>
   rw [hb] at h
   exact al _ (K0 h)
def M_ (P:Program) (n:Nat) (lv:List Nat) (fuel:Nat) (items:List It) (st:St) (R:List Res) (ds:List Bool) (cls:List Cl) (adj:List Adj) (results:List ResultVar) (k:Nat) (pi:List Nat):Option (AV×List Res×List Cl×List (Bool×Bool)):=
 match Fz P n lv fuel items (mkL st) R ds cls with
 | some (.ret,L,R1,cs,bs)=>match D5 adj (Sl L) R1 with
  | some (st2,R2)=>match Sx P results k pi st2 R2 with
   | some (v,R3)=>some (v,R3,cs,bs)
   | none=>none
  | none=>none
 | _=>none
def Cu (P:Program) (n:Nat) (lv:List Nat) (fuel:Nat) (items:List It) (st:St) (R:List Res) (ds:List Bool) (cls:List Cl) (adj:List Adj) (k:Nat) (pi ts:List Nat):Option (St×List Res×List Cl×List (Bool×Bool)):=
 match Fz P n lv fuel items (mkL st) R ds cls with
 | some (.stop,L,R1,cs,bs)=>match D5 adj (Sl L) R1 with
  | some (st2,R2)=>match Z4 k pi ts st2 R2 with
   | some (st3,R3)=>some (st3,R3,cs,bs)
   | none=>none
  | none=>none
 | _=>none
theorem M9 {fn:Func} {res:AV} {R2:List Res} {items:List It} (hm:P.follows .mixedOrders=true) (lv:List Nat) (fuel:Nat) (ds:List Bool) (cls:List Cl) (adj:List Adj) (results:List ResultVar) (k:Nat) (pi:List Nat) {bs:List (Bool×Bool)}
  (hf:fn.results.toList=results) (hk:C.h.length<=k) (hok:C1 P cls) (hbs:Dc bs) (h:M_ P n lv fuel items st R ds cls adj results k pi=some (res,R2,cls,bs)) {C0:Ctx} (hup:Up C0 C):WI ro P n C (Ld P fn C0 res R2) items st R:=by
 intro a w hs
 unfold M_ at h
 split at h
 ·rename_i L R1 cs bs1 e1
  split at h
  ·rename_i st2 R3 e2
   split at h
   ·rename_i v R4 e3
    simp only [ah,aq] at h
    obtain⟨rfl,rfl,rfl,rfl⟩:=h
    exact Vk hm e1 hok hbs hs λ a' w' hs'=>((hs'.sub λ e he=>K0 he).adj e2).post hup hf hk e3
   ·cases h
  ·cases h
 ·cases h
def Ctx.z (C:Ctx):Ctx:={C with df:=[]}
theorem Im {fn:Func} {res:AV} {R2:List Res} {items:List It} (hm:P.follows .mixedOrders=true) (lv:List Nat) (fuel:Nat) (ds:List Bool) (cls:List Cl) (adj:List Adj) (results:List ResultVar) (k:Nat) (pi:List Nat) {bs:List (Bool×Bool)}
  (hf:fn.results.toList=results) (hk:C.h.length<=k) (hok:C1 P cls) (hbs:Dc bs) (h:M_ P n lv fuel items st R ds cls adj results k pi=some (res,R2,cls,bs)):WI ro P n C.z (Ld P fn C.z res R2) items st R:=
 M9 (C:=C.z) hm lv fuel ds cls adj results k pi hf hk hok hbs h (dn rfl)
def Sg (P:Program) (n:Nat) (lv:List Nat) (fuel:Nat) (items:List It) (st:St) (R:List Res) (ds:List Bool) (cls:List Cl) (adj:List Adj) (results:List ResultVar) (k:Nat) (pi:List Nat):Option (AV×List Res×List Cl×List (Bool×Bool)):=
 match Fz P n lv fuel items (mkL st) R ds cls with
 | some (.stop,L,R1,cs,bs)=>match D5 adj (Sl L) R1 with
  | some (st2,R2)=>match Sx P results k pi st2 R2 with
   | some (v,R3)=>some (v,R3,cs,bs)
   | none=>none
  | none=>none
 | _=>none
def Aim:List It->Bool
 | []=>true
 | _=>false
theorem Awb {fn:Func} {res:AV} {R2:List Res} {items:List It} (hm:P.follows .mixedOrders=true) (lv:List Nat) (fuel:Nat) (ds:List Bool) (cls:List Cl) (adj:List Adj) (results:List ResultVar) (k:Nat) (pi:List Nat) {bs:List (Bool×Bool)}
  (hf:fn.results.toList=results) (hk:C.h.length<=k) (hok:C1 P cls) (hbs:Dc bs) (hn:Aim (Bv fuel items ds)=true) (h:Sg P n lv fuel items st R ds cls adj results k pi=some (res,R2,cls,bs)) {C0:Ctx} (hup:Up C0 C):WI ro P n C (Ld P fn C0 res R2) items st R:=by
 intro a w hs
 unfold Sg at h
 split at h
 ·rename_i L R1 cs bs1 e1
  split at h
  ·rename_i st2 R3 e2
   split at h
   ·rename_i v R4 e3
    simp only [ah,aq] at h
    obtain⟨rfl,rfl,rfl,rfl⟩:=h
    refine Vk hm e1 hok hbs hs λ a' w' hs'=>?_
    have hnil:Bv fuel items ds=[]:=by
     cases hh:Bv fuel items ds with
     | nil=>rfl
     | cons x l=>rw [hh] at hn;cases hn
    rw [hnil]
    exact ((hs'.sub λ e he=>K0 he).adj e2).post hup hf hk e3
   ·cases h
  ·cases h
 ·cases h
theorem Vz {fn:Func} {res:AV} {R2:List Res} {items:List It} (hm:P.follows .mixedOrders=true) (lv:List Nat) (fuel:Nat) (ds:List Bool) (cls:List Cl) (adj:List Adj) (results:List ResultVar) (k:Nat) (pi:List Nat) {bs:List (Bool×Bool)}
  (hf:fn.results.toList=results) (hk:C.h.length<=k) (hok:C1 P cls) (hbs:Dc bs) (hn:Aim (Bv fuel items ds)=true) (h:Sg P n lv fuel items st R ds cls adj results k pi=some (res,R2,cls,bs)):WI ro P n C.z (Ld P fn C.z res R2) items st R:=
 Awb (C:=C.z) hm lv fuel ds cls adj results k pi hf hk hok hbs hn h (dn rfl)
theorem Rw {items:List It} (hm:P.follows .mixedOrders=true) (lv:List Nat) (fuel:Nat) (ds:List Bool) (cls:List Cl) (adj:List Adj) (k:Nat) (pi ts:List Nat) (st':St) (R':List Res) {bs:List (Bool×Bool)}
  (hk:C.h.length<=k) (hok:C1 P cls) (hbs:Dc bs) (h:Cu P n lv fuel items st R ds cls adj k pi ts=some (st',R',cls,bs)) (hW:WI ro P n C Q (Bv fuel items ds) st' R'):WI ro P n C Q items st R:=by
 intro a w hs
 unfold Cu at h
 split at h
 ·rename_i L R1 cs bs1 e1
  split at h
  ·rename_i st2 R3 e2
   split at h
   ·rename_i st3 R4 e3
    simp only [ah,aq] at h
    obtain⟨rfl,rfl,rfl,rfl⟩:=h
    exact Vk hm e1 hok hbs hs λ a' w' hs'=>hW a' w' (((hs'.sub λ e he=>K0 he).adj e2).re hk e3)
   ·cases h
  ·cases h
 ·cases h
theorem C8 {items:List It} (hm:P.follows .mixedOrders=true) (lv:List Nat) (fuel:Nat) (ds:List Bool) (cls:List Cl) (adj:List Adj) (k:Nat) (pi:List Nat) (st':St) (R':List Res) {bs:List (Bool×Bool)}
  (hk:C.h.length<=k) (hok:C1 P cls) (hbs:Dc bs) (h:Cu P n lv fuel items st R ds cls adj k pi (Ib st')=some (st',R',cls,bs)) (hW:WI ro P n C Q (Bv fuel items ds) st' R'):WI ro P n C Q items st R:=Rw hm lv fuel ds cls adj k pi _ st' R' hk hok hbs h hW
def isC:List It->Bool
 | .c _::_=>true
 | _=>false
def hdC:List It->Code
 | .c x::_=>x
 | _=>.skip
def isL:List It->Bool
 | .c (.loop _)::_=>true
 | _=>false
def lpC:List It->Code
 | .c (.loop x)::_=>x
 | _=>.skip
def tlI:List It->List It
 | _::l=>l
 | []=>[]
theorem P9 {σ:Type} {items:List It} (hi:isC items=true) (φ:σ->Prop) (st':σ->St) (R':σ->List Res) (h:WI ro P n C Q (.c (hdC items) :: .k (Ex n C φ st' R')::tlI items) st R) (hK:∀ s,φ s->WI ro P n C Q (tlI items) (st' s) (R' s)):WI ro P n C Q items st R:=by
 match items,hi with
 | .c x::l,_=>
  intro a w hs
  refine wpIn_mono (h a w hs) λ e a w hq=>?_
  cases e with
  | normal=>
   obtain⟨s,h1,h2⟩:=hq
   exact hK s h1 a w h2
  | _=>exact hq
def hdK:List It->Act->World->Prop
 | .k K::_=>K
 | _=>λ _ _=>False
def isB:List It->Bool
 | .c (.block _ _)::_=>true
 | _=>false
def Ase:List It->Code
 | .c (.block _ x)::_=>x
 | _=>.skip
def Asd:List It->Nat
 | .c (.block i _)::_=>i
 | _=>0
def nqT:List It->List It
 | _::l=>l
 | []=>[]
def A3n:List It->Bool
 | .c (.cond _ _ _)::_=>true
 | _=>false
def cnO:List It->Operand
 | .c (.cond c _ _)::_=>c
 | _=>.const undef
def cnX:List It->Code
 | .c (.cond _ x _)::_=>x
 | _=>.skip
def cnY:List It->Code
 | .c (.cond _ _ y)::_=>y
 | _=>.skip
theorem Rx {items:List It} {rows:List (List Pd)} (t:Nat) (hi:A3n items=true) (ho:cnO items = .tmp t) (hc:(D7 (mkL st) t).map Ent.v=some (.d (.nq rows)))
  (ht:rows=[]->WI ro P n C Q (.c (cnX items)::nqT items) st R) (hf:WI ro P n C Q (.c (cnY items)::nqT items) st R):WI ro P n C Q items st R:=by
 match items,hi with
 | .c (.cond c x y)::l,_=>
  simp only [cnO] at ho
  subst ho
  intro a w hs
  cases he:D7 (mkL st) t with
  | none=>rw [he] at hc;cases hc
  | some e=>
   rw [he] at hc
   simp only [aU,ah] at hc
   obtain⟨hm,hte⟩:=C5 he
   have hs2:=hs
   obtain⟨_,_,S,ρ,_,h4⟩:=hs2
   obtain⟨v,hv,hr⟩:=(h4 e hm).1 (by rw [Dn hm];exact B6)
   rw [hc] at hr
   rw [hte] at hv
   have hr':=hr.d_inv
   cases hr' with
   | @nq b _ h=>
    have hev:a.eval (.tmp t) = .bool b:=by simp [Act.eval,Array.getD_eq_getD_getElem?,hv]
    cases b with
    | true=>exact wpIn_cond_true hev (ht (h rfl) a w hs)
    | false=>exact wpIn_cond_false hev (hf a w hs)
theorem P_ {items:List It} (hi:isB items=true) (h:WI ro P n C Q (.c (Ase items) :: .b (Asd items)::tlI items) st R):WI ro P n C Q items st R:=by
 match items,hi with
 | .c (.block i x)::l,_=>exact λ a w hs=>wpIn_block (h a w hs)
theorem A0w {items:List It} {K:Act->World->Prop} (hi:hdK items=K) (h:∀ a w,Sat n C (mkL st) R a w->K a w):WI ro P n C Q items st R:=by
 subst hi
 match items,h with
 | .k K::l,h=>exact h
 | [],h=>exact λ a w hs=>(h a w hs).elim
 | .c _::_,h=>exact λ a w hs=>(h a w hs).elim
 | .b _::_,h=>exact λ a w hs=>(h a w hs).elim
 | .l _ _::_,h=>exact λ a w hs=>(h a w hs).elim
theorem Gg {σ:Type} {φ:σ->Prop} {st':σ->St} {R':σ->List Res} {items:List It} (hm:P.follows .mixedOrders=true) (lv:List Nat) (fuel:Nat) (ds:List Bool) (cls:List Cl) (adj:List Adj) (k:Nat) (pi:List Nat) {bs:List (Bool×Bool)} (s:σ)
  (hk:C.h.length<=k) (hok:C1 P cls) (hbs:Dc bs) (hi:hdK (Bv fuel items ds)=Ex n C φ st' R') (h:Cu P n lv fuel items st R ds cls adj k pi (Ib (st' s))=some (st' s,R' s,cls,bs)) (h1:φ s):WI ro P n C Q items st R:=
 C8 hm lv fuel ds cls adj k pi (st' s) (R' s) hk hok hbs h (A0w hi λ _ _ hs=>⟨s,h1,hs⟩)
def foldI {α σ ρ:Type} (f:Nat->α->σ->Option (Ctl σ ρ)):List α->Nat->σ->Option (Ctl σ ρ)
 | [],_,s=>some (.next s)
 | x::xs,i,s=>match f i x s with
  | some (.next s')=>foldI f xs (i+1) s'
  | some (.brk s')=>some (.next s')
  | some (.ret r)=>some (.ret r)
  | none=>none
theorem N5 {α σ τ:Type} {items:List It} (hi:isL items=true) (f:Nat->α->σ->Option (Ctl σ τ)) (stF:Nat->σ->St) (RF:Nat->σ->List Res) (r:Ctl σ τ) (xs:List α) (s:σ) (hm:foldI f xs 0 s=some r)
  (h0:st=stF 0 s) (h1:R=RF 0 s)
  (hnil:∀ s,r = .next s->WI ro P n C Q (.c (lpC items) :: .k (λ _ _=>False)::tlI items) (stF xs.length s) (RF xs.length s))
  (hcons:∀ i x s k,i<xs.length->xs[i]? = some x->f i x s=some k->(∀ s',k = .brk s'->r = .next s')->(∀ v,k = .ret v->r = .ret v) ->
   WI ro P n C Q (.c (lpC items) :: .k (Ex n C (λ s'=>k = .next s') (stF (i+1)) (RF (i+1)))::tlI items) (stF i s) (RF i s)):WI ro P n C Q items st R:=by
 match items,hi with
 | .c (.loop c) :: l, _ =>
  refine Agx (λ m a w=>∃ i s,i<=xs.length/\xs.length-i=m/\foldI f (xs.drop i) i s=some r/\Sat n C (mkL (stF i s)) (RF i s) a w) ⟨xs.length,λ a w hs=>⟨0,s,bH _,rfl,hm,by rw [h0,h1] at hs;exact hs⟩⟩ λ m a w hI=>?_
  obtain⟨i,s,hle,hl,hf,hs⟩:=hI
  rcases aN i xs.length with hlt | hge
  ·have hd:xs.drop i=xs[i]::xs.drop (i+1):=List.drop_eq_getElem_cons hlt
   rw [hd] at hf
   simp only [foldI] at hf
   cases hk:f i xs[i] s with
   | none=>rw [hk] at hf;cases hf
   | some k=>
    rw [hk] at hf
    refine wpIn_mono (hcons i xs[i] s k hlt (ai hlt) hk ?_ ?_ a w hs) λ e a' w' hq=>?_
    ·intro s' e;subst e;simp only [ah] at hf;exact hf.symm
    ·intro v e;subst e;simp only [ah] at hf;exact hf.symm
    ·cases e with
     | normal=>
      obtain⟨s',e,hs'⟩:=hq
      subst e
      exact⟨xs.length-(i+1),by omega,i+1,s',by omega,rfl,hf,hs'⟩
     | _=>exact hq
  ·have hii:i=xs.length:=Nat.le_antisymm hle hge
   subst hii
   rw [List.drop_length] at hf
   simp only [foldI,ah] at hf
   refine wpIn_mono (hnil s hf.symm a w hs) λ e a' w' hq=>?_
   cases e with
   | normal=>exact hq.elim
   | _=>exact hq
theorem Adc {σ τ:Type} {items:List It} (hi:isL items=true) (f:σ->Option (Ctl σ τ)) (stF:σ->St) (RF:σ->List Res) (r:Ctl σ τ) (fuel:Nat) (s:σ) (hm:whileN f fuel s=some r)
  (h0:st=stF s) (h1:R=RF s)
  (h:∀ s k,f s=some k->(∀ s',k = .brk s'->r = .next s')->(∀ v,k = .ret v->r = .ret v) ->
   WI ro P n C Q (.c (lpC items) :: .k (Ex n C (λ s'=>k = .next s') stF RF)::tlI items) (stF s) (RF s)):WI ro P n C Q items st R:=by
 match items,hi with
 | .c (.loop c)::l,_=>exact Av8 (Q:=Qs ro P l Q) f stF RF r fuel s hm ⟨h0,h1⟩ λ s k h1 h2 h3 a w hs=>h s k h1 h2 h3 a w hs
def cnt (c:Int):Nat->Int
 | 0=>c
 | i+1=>IntKind.i64.wrap (cnt c i+1)
theorem T6 {c:Int} {i:Nat} (h0:-9223372036854775808<=c) (h:c+i<=9223372036854775807):cnt c i=c+i:=by
 induction i with
 | zero=>simp [cnt]
 | succ i ih=>
  simp only [cnt]
  rw [ih (by omega),IntWalk.i64_in _ (by omega)]
  omega
theorem Uh {items:List It} {rows:List (List Pd)} (t:Nat) (h:(D7 (mkL st) t).map Ent.v=some (.d (.p (.s rows)))) (hW:rows.length<=maxLen->WI ro P n C Q items st R):WI ro P n C Q items st R:=by
 intro a w hs
 refine hW ?_ a w hs
 obtain⟨_,_,S,ρ,h3,h4⟩:=hs
 cases he:D7 (mkL st) t with
 | none=>rw [he] at h;cases h
 | some e=>
  rw [he] at h
  simp at h
  obtain⟨hm,_⟩:=C5 he
  obtain⟨v,_,hr⟩:=(h4 e hm).1 (by rw [Dn hm];exact B6)
  rw [h] at hr
  obtain⟨a,cap,_,g1,g2⟩:=hr.d_inv.p_inv.slice_form
  omega
theorem Awa {items:List It} {rows:List (List Pd)} {e sz:Nat} (t j:Nat) (h:(D7 (mkL st) t).map Ent.v=some (.d (.os j))) (hR:R[j]? = some (.sl e sz rows)) (hW:rows.length<=maxLen->WI ro P n C Q items st R):WI ro P n C Q items st R:=by
 intro a w hs
 refine hW ?_ a w hs
 obtain⟨_,_,S,ρ,h3,h4⟩:=hs
 cases he:D7 (mkL st) t with
 | none=>rw [he] at h;cases h
 | some e=>
  rw [he] at h
  simp at h
  obtain⟨hm,_⟩:=C5 he
  obtain⟨v,_,hr⟩:=(h4 e hm).1 (by rw [Dn hm];exact B6)
  rw [h] at hr
  rcases (h3.ok j _ _ hR hr.d_inv.os_inv).live hr.d_inv.one with⟨_,h5⟩ | ⟨_,_,cap,_,_,_,h5,h6,_⟩
  ·rw [h5];simp [maxLen]
  ·omega
theorem D8 {f:FuncId} {fn:Func} {c:Code} {args:List AV} {res:AV} {R2:List Res} (n:Nat) (hf:P.funcs[f]? = some fn) (hb:fn.body=some c) (hn:fn.ntmps=n) (hl:Nat.ble args.length n=true)
  (h:∀ C:Ctx,C.h.length<=R.length->WI none P n C.z (Ld P fn C.z res R2) [.c c] (Vx 0 args) R):CallOk P f args R res R2:=
 Acm hf hb hn (bq hl) λ C hd hC=>by
  have:=h C (by rw [hC];exact af _)
  have e:C.z=C:=by unfold Ctx.z;cases C;simp at hd;subst hd;rfl
  rw [e] at this;exact this
theorem Dg {f : FuncId} {fn : Func} (hf : P.funcs[f]? = some fn) (hb : fn.body.isNone = false) (hn : (fn.name == "runtime.NumGoroutine") = false) : Em P f := λ args w => by
 have hb':fn.body≠none:=by intro e;rw [e] at hb;cases hb
 have hn' : fn.name ≠ "runtime.NumGoroutine" := by simpa using hn
 simp [callFunc,hf,hn',hb']
end
end Go.SL
namespace Go.SL
abbrev I (n:Int):D:=.p (.v (.int .i64 n))
abbrev Bo (b:Bool):D:=.p (.v (.bool b))
abbrev w64 (n:Int):Int:=IntKind.i64.wrap n
abbrev DS {α:Type} (f:α->List Pd) (x:List α):D:=.p (.s (x.map f))
def pI (n:Int):List Pd:=[.v (.int .i64 n)]
def pK (k:IntKind) (n:Int):List Pd:=[.v (.int k n)]
def pB (b:Bool):List Pd:=[.v (.bool b)]
def pS (s:ByteArray):List Pd:=[.v (.string s)]
def pL {α:Type} (f:α->List Pd) (l:List α):List Pd:=[.s (l.map f)]
theorem A2s {α:Type} {c:Bool} {x y r:α} (hc:c=true) (h:(bif c then x else y)=r):x=r:=by subst hc;exact h
theorem At3 {α:Type} {c:Bool} {x y r:α} (hc:c=false) (h:(bif c then x else y)=r):y=r:=by subst hc;exact h
theorem Aui (b:Bool):b=true\/b=false:=by cases b <;> simp
def Eh:List (Bool×Bool)->Bool
 | []=>true
 | (a,b)::r=>(a==b)&&Eh r
theorem Uf:∀ {l:List (Bool×Bool)},Dc l->Eh l=true
 | [],_=>rfl
 | (a,b)::r,h=>by
  obtain⟨h1,h2⟩:=h
  subst h1
  simp [Eh,Uf h2]
theorem Ue:∀ {l:List (Bool×Bool)},Eh l=true->Dc l
 | [],_=>trivial
 | (a,b)::r,h=>by
  simp only [Eh,ab,dG] at h
  exact⟨h.1,Ue h.2⟩
def Ar {α:Type} (l:List (Bool×Bool)) (x:Option α) (d:α):Option α:=bif Eh l then x else some d
theorem Ff {α:Type} {l:List (Bool×Bool)} {x:Option α} {d v:α} (h:Ar l x d=some v) (hg:¬Dc l):v=d:=by
 unfold Ar at h
 cases hb:Eh l with
 | true=>exact absurd (Ue hb) hg
 | false=>rw [hb] at h;simpa using h.symm
theorem B4 {α:Type} {l:List (Bool×Bool)} {x:Option α} {d v:α} (h:Ar l x d=some v) (hg:Dc l):x=some v:=by
 unfold Ar at h
 rw [Uf hg] at h
 exact h
def getI {α:Type} (l:List α) (n:Int):Option α:=bif decide (0<=n) then l[n.toNat]? else none
def setI {α:Type} (l:List α) (n:Int) (x:α):Option (List α):=bif decide (0<=n)&&decide (n<l.length) then some (l.set n.toNat x) else none
def mkI {α:Type} (B:Nat) (n:Int) (d:α):Option (List α):=bif decide (0<=n)&&decide (n*B<=140737488355328) then some (List.replicate n.toNat d) else none
def cutI {α:Type} (l:List α) (lo hi:Int):Option (List α):=bif decide (0<=lo)&&(decide (lo<=hi)&&decide (hi<=l.length)) then some ((l.take hi.toNat).drop lo.toNat) else none
def nzI (n:Int):Option Unit:=bif n==0 then none else some ()
def Ac3 (s:ByteArray):Option (List Int):=bif decide ((s.size:Int)<=140737488355328) then some (Ku s) else none
def Ah2 (l:List Int):Option ByteArray:=bif Ku ⟨(l.map λ n=>UInt8.ofNat n.toNat).toArray⟩==l then some ⟨(l.map λ n=>UInt8.ofNat n.toNat).toArray⟩ else none
def My (s:ByteArray) (n:Int):Option UInt8:=bif decide (0<=n) then s.data[n.toNat]? else none
def appI {α:Type} (B:Nat) (l m:List α):Option (List α):=bif decide ((l.length+m.length)*B<=140737488355328) then some (l++m) else none
section
variable {P:Program} {α:Type}
theorem An2 {s:ByteArray} {y:List Int} (h:Ac3 s=some y):Cl.ok P (.room (s.size:Int) (G_ s) (y.map (pK .u8))):=by
 unfold Ac3 at h
 cases hd:decide ((s.size:Int)<=140737488355328) with
 | false=>rw [hd] at h;cases h
 | true=>
  rw [hd] at h
  simp only [cond_true,ah] at h
  subst h
  exact⟨by omega,dN hd,rfl⟩
theorem Ap6 {l:List Int} {y:ByteArray} (h:Ah2 l=some y):Cl.ok P (.strb (l.map (pK .u8)) y):=by
 unfold Ah2 at h
 cases hd:(Ku ⟨(l.map λ n=>UInt8.ofNat n.toNat).toArray⟩==l) with
 | false=>rw [hd] at h;cases h
 | true=>
  rw [hd] at h
  simp only [cond_true,ah] at h
  subst h
  have e:=eq_of_beq hd
  show l.map (pK .u8)=_
  conv=>lhs;rw [←e]
  unfold Ku
  rw [List.map_map];rfl
theorem Js {s:ByteArray} {n:Int} {y:UInt8} (h:My s n=some y):Cl.ok P (.byte s n y):=by
 unfold My at h
 cases hd:decide (0<=n) with
 | false=>rw [hd] at h;cases h
 | true=>
  rw [hd] at h
  exact⟨dN hd,h⟩
theorem A8 (enc:α->List Pd) (size:Nat) (hs:∀ x,(enc x).length=size) {B:Nat} {l m y:List α} (h:appI (B+1) l m=some y):Cl.ok P (.app (l.map enc) (m.map enc) size (((l.map enc).length+(m.map enc).length)*(B+1)) (y.map enc)):=by
 unfold appI at h
 cases hd:decide ((l.length+m.length)*(B+1)<=140737488355328) with
 | false=>rw [hd] at h;cases h
 | true=>
  rw [hd] at h
  simp only [cond_true,ah] at h
  subst h
  refine⟨by rw [au,au];exact dN hd,λ r hr=>?_,by rw [bJ]⟩
  obtain⟨x,_,rfl⟩:=ao.1 hr
  exact hs x
theorem Jt (enc:α->List Pd) (size:Nat) (hs:∀ x,(enc x).length=size) {B:Nat} {m y:List α} (h:appI (B+1) [] m=some y):Cl.ok P (.app [] (m.map enc) size ((m.map enc).length*(B+1)) (y.map enc)):=by
 have:=A8 (P:=P) enc size hs h
 simpa using this
theorem Asn (enc:α->List Pd) (size:Nat) (hs:∀ x,(enc x).length=size) {B:Nat} {l m y:List α} {src:List (List Pd)} (hsrc:src=m.map enc) (h:appI (B+1) l m=some y):Cl.ok P (.app (l.map enc) src size (((l.map enc).length+src.length)*(B+1)) (y.map enc)):=by
 subst hsrc
 exact A8 enc size hs h
theorem Asm (enc:α->List Pd) (size:Nat) (hs:∀ x,(enc x).length=size) {B n:Nat} {l m y:List α} {src:List (List Pd)} (hsrc:src=m.map enc) (h:appI (B+1) (l.take n) m=some y):Cl.ok P (.app ((l.map enc).take n) src size ((((l.map enc).take n).length+src.length)*(B+1)) (y.map enc)):=by
 subst hsrc
 rw [←cz]
 exact A8 enc size hs h
theorem Az {l:List α} {enc:α->List Pd} {n:Int} {x:α} (h:getI l n=some x):Cl.ok P (.row (l.map enc) n (enc x)):=by
 unfold getI at h
 cases hd:decide (0<=n) with
 | false=>rw [hd] at h;cases h
 | true=>
  rw [hd] at h
  simp only [cond_true] at h
  exact⟨dN hd,by rw [az,h];rfl⟩
theorem Axr {n:Int} {u:Unit} (h:nzI n=some u):Cl.ok P (.nz n):=by
 unfold nzI at h
 show n≠0
 intro e;subst e;cases h
theorem H_ {n:Int} (h:(n==0)=false):Cl.ok P (.nz n):=by
 show n≠0
 intro e;subst e;cases h
theorem Bi {l:List α} {enc:α->List Pd} {n:Int} {x:α} (h:getI l n=some x):Cl.ok P (.row (l.map enc) ((n.toNat:Nat):Int) (enc x)):=by
 obtain⟨h0,h1⟩:=(Az (P:=P) (enc:=enc) h:0<=n/\(l.map enc)[n.toNat]? = some (enc x))
 exact⟨Int.natCast_nonneg _,by rw [aE];exact h1⟩
theorem B3 {l y:List α} {enc:α->List Pd} {n:Int} {x x':α} (hx:getI l n=some x) (h:setI l n x'=some y):Cl.ok P (.upd (l.map enc) n.toNat (enc x) (enc x') (y.map enc)):=by
 obtain⟨h0,h1⟩:=(Az (P:=P) (enc:=enc) hx:0<=n/\(l.map enc)[n.toNat]? = some (enc x))
 refine⟨h1,?_⟩
 unfold setI at h
 cases hd:(decide (0<=n)&&decide (n<l.length)) with
 | false=>rw [hd] at h;cases h
 | true=>
  rw [hd] at h
  simp at h;subst h
  rw [List.map_set]
theorem He {enc:α->List Pd} {B:Nat} {n:Int} {d:α} {y:List α} (h:mkI (B+1) n d=some y):Cl.ok P (.room (n*(B+1)) (List.replicate n.toNat (enc d)) (y.map enc)):=by
 unfold mkI at h
 cases hd:(decide (0<=n)&&decide (n*((B+1:Nat):Int)<=140737488355328)) with
 | false=>rw [hd] at h;cases h
 | true=>
  rw [hd] at h
  simp at h;subst h
  simp only [ab,dE] at hd
  refine⟨Int.mul_nonneg hd.1 (by omega),by have:=hd.2;simpa using this,by simp⟩
theorem G5 (l:List α) (enc:α->List Pd):Cl.ok P (.len ((l.map enc).length:Int) (l.length:Int)):=by
 show ((l.map enc).length:Int)=l.length
 rw [au]
theorem qK (enc:α->List Pd) (size:Nat) (hs:∀ x,(enc x).length=size) {l y:List α} {lo hi:Int} (h:cutI l lo hi=some y):Cl.ok P (.cut (l.map enc) size lo hi (y.map enc)):=by
 unfold cutI at h
 cases hd:(decide (0<=lo)&&(decide (lo<=hi)&&decide (hi<=l.length))) with
 | false=>rw [hd] at h;cases h
 | true=>
  rw [hd] at h
  simp only [cond_true,ah] at h
  simp only [ab,dE] at hd
  subst h
  refine⟨hd.1,hd.2.1,by rw [au];exact hd.2.2,λ r hr=>?_,by rw [←cz,←List.map_drop]⟩
  obtain⟨x,_,rfl⟩:=ao.1 hr
  exact hs x
theorem Aaz (l:List α) (enc:α->List Pd) (lo n:Nat):((l.map enc).drop lo).take n=((l.drop lo).take n).map enc:=by simp
def bndI (k:Nat) (lo hi:Int):Option Unit:=bif decide (0<=lo)&&(decide (lo<=hi)&&decide (hi<=k)) then some () else none
theorem Gp {k:Nat} {lo hi:Int} {u:Unit} {k':Nat} {hi':Int} (hk:k'=k) (hh:hi'=hi) (h:bndI k lo hi=some u):Cl.ok P (.bnd k' lo hi' hi):=by
 subst hk;subst hh
 unfold bndI at h
 cases hd:decide (0<=lo)&&(decide (lo<=hi')&&decide (hi'<=k')) with
 | false=>rw [hd] at h;cases h
 | true=>simp at hd;exact⟨hd.1,hd.2.1,hd.2.2,rfl⟩
def bnd3I (k:Nat) (lo hi mx:Int):Option Unit:=bif decide (0<=lo)&&(decide (lo<=hi)&&(decide (hi<=mx)&&decide (mx<=k))) then some () else none
theorem Ac6 {k:Nat} {lo hi mx:Int} {u:Unit} {k':Nat} (hk:k'=k) (h:bnd3I k lo hi mx=some u):Cl.ok P (.bnd3 k' lo hi mx):=by
 subst hk
 unfold bnd3I at h
 cases hd:decide (0<=lo)&&(decide (lo<=hi)&&(decide (hi<=mx)&&decide (mx<=k'))) with
 | false=>rw [hd] at h;cases h
 | true=>simp at hd;exact⟨hd.1,hd.2.1,hd.2.2.1,hd.2.2.2⟩
def appPI {α:Type} (l:List α) (n:Nat) (m:List α):Option (List α):=bif decide (n+m.length<=l.length) then some (l.take n++(m++l.drop (n+m.length))) else none
theorem Aso (enc:α->List Pd) (size:Nat) (hs:∀ x,(enc x).length=size) {l m y:List α} {n:Nat} {src:List (List Pd)} (hsrc:src=m.map enc) (h:appPI l n m=some y) :
  Cl.ok P (.appP (l.map enc) src size n (n+m.length) ((l.map enc).take n++(src++(l.map enc).drop (n+src.length))) (y.map enc)):=by
 subst hsrc
 unfold appPI at h
 cases hd:decide (n+m.length<=l.length) with
 | false=>rw [hd] at h;cases h
 | true=>
  rw [hd] at h
  simp only [cond_true,ah] at h
  subst h
  simp only [dE] at hd
  refine⟨⟨by simp,by simpa using hd⟩,λ x hx=>?_,by simp⟩
  obtain⟨z,_,rfl⟩:=ao.1 hx
  exact hs z
def insI {α:Type} (B:Nat) (l:List α) (i:Int) (m:List α):Option (List α):=bif decide ((l.length+m.length)*B<=140737488355328) then some (l.take i.toNat++(m++l.drop i.toNat)) else none
def Hg {α:Type} (l:List α) (lo n:Nat) (d:α):List α:=l.take lo++(List.replicate n d++l.drop (lo+n))
theorem qP (enc:α->List Pd) {l:List α} {lo n n':Nat} {d:α} (hn:n'=n):Cl.ok P (.eqr ((l.map enc).take lo++(List.replicate n' (enc d)++(l.map enc).drop (lo+n'))) ((Hg l lo n d).map enc)):=by
 subst hn
 show _=_
 simp [Hg]
theorem S9 {enc:α->List Pd} {B:Nat} {n:Int} {d:α} {y:List α} (h:mkI (B+1) n d=some y):Cl.ok P (.roomZ (n*(B+1)) (List.replicate n.toNat (enc d)) (y.map enc)):=He (P:=P) (enc:=enc) h
theorem Ju {β:Type} {enc:α->List Pd} {enc2:β->List Pd} (size:Nat) (hs:∀ x,(enc2 x).length=size) {B:Nat} {l:List α} {i:Int} {x:α} {off:Nat} {a m y:List β} (hx:getI l i=some x) (ho:(enc x)[off]? = some (.s (a.map enc2))) (h:appI (B+1) a m=some y) :
  Cl.ok P (.appD (l.map enc) i.toNat (enc x) off (a.map enc2) (m.map enc2) size (((a.map enc2).length+(m.map enc2).length)*(B+1)) (y.map enc2)):=by
 obtain⟨_,h1⟩:=Bi (P:=P) (enc:=enc) hx
 simp only [aE] at h1
 exact⟨⟨h1,ho⟩,A8 (P:=P) enc2 size hs h⟩
theorem Jl {l y:List α} {enc:α->List Pd} {n:Int} {x x':α} (hx:getI l n=some x) (h:setI l n x'=some y):Cl.ok P (.updD (l.map enc) n.toNat n.toNat (enc x) (enc x') (y.map enc)):=
 ⟨rfl,B3 (P:=P) (enc:=enc) hx h⟩
theorem Aq2 {l:List α} {enc:α->List Pd} {n:Int} {x:α} {f:FuncId} {args:List AV} {res:AV} (h:Em P f/\CallOk P f args [] res []) (hx:getI l n=some x):Cl.ok P (.callB f args res (l.map enc) n.toNat (enc x)):=by
 obtain⟨_,h1⟩:=Bi (P:=P) (enc:=enc) hx
 simp only [aE] at h1
 exact⟨h,h1⟩
theorem Ez {f:FuncId} {args:List AV} {res:AV} (h:Em P f/\CallOk P f args [] res []):Cl.ok P (.callB f args res [[]] 0 []):=⟨h,rfl⟩
theorem Bm {l:List α} {enc:α->List Pd} {i:Nat} {x:α} (hx:l[i]? = some x) (hl:(l.map enc).length<=maxLen):Cl.ok P (.row (l.map enc) (cnt 0 i) (enc x)):=by
 have hi:i<l.length:=(aa.1 hx).1
 rw [au] at hl
 have hm:maxLen=9223372036854775807:=rfl
 rw [T6 (by omega) (by omega)]
 refine⟨by omega,?_⟩
 have:((0:Int)+(i:Int)).toNat=i:=by omega
 rw [this,az,hx];rfl
theorem Bd {l:List α} {enc:α->List Pd} {i:Nat} {x:α} (hx:l[i]? = some x) (hl:(l.map enc).length<=maxLen):getI l (cnt 0 i)=some x:=by
 have hi:i<l.length:=(aa.1 hx).1
 rw [au] at hl
 have hm:maxLen=9223372036854775807:=rfl
 rw [T6 (by omega) (by omega)]
 unfold getI
 have h1:decide ((0:Int)<=0+(i:Int))=true:=dJ (by omega)
 have h2:((0:Int)+(i:Int)).toNat=i:=by omega
 rw [h1,h2];exact hx
theorem P1 {l:List α} {enc:α->List Pd} {i:Nat} (hi:i<l.length) (hl:(l.map enc).length<=maxLen):decide (cnt 0 i<(l.length:Int))=true:=by
 rw [au] at hl
 have hm:maxLen=9223372036854775807:=rfl
 rw [T6 (by omega) (by omega)]
 exact dJ (by omega)
theorem P2 {l:List α} {enc:α->List Pd} (hl:(l.map enc).length<=maxLen):decide (cnt 0 l.length<(l.length:Int))=false:=by
 rw [au] at hl
 have hm:maxLen=9223372036854775807:=rfl
 rw [T6 (by omega) (by omega)]
 exact dK (by omega)
end
def andThen {σ τ ρ:Type} (c:Option (Ctl σ τ)) (g:τ->Option ρ) (f:σ->Option ρ):Option ρ:=
 match c with
 | some (.ret v)=>g v
 | some (.next s)=>f s
 | some (.brk s)=>f s
 | none=>none
theorem Wk {σ τ ρ:Type} {c:Option (Ctl σ τ)} {g:τ->Option ρ} {f:σ->Option ρ} {r:ρ} (h:andThen c g f=some r):∃ k,c=some k/\(∀ v,k = .ret v->g v=some r)/\(∀ s,k = .next s->f s=some r):=by
 unfold andThen at h
 split at h
 ·exact⟨_,rfl,λ v e=>by cases e;exact h,λ s e=>by cases e⟩
 ·exact⟨_,rfl,λ v e=>(by cases e),λ s e=>by cases e;exact h⟩
 ·exact⟨_,rfl,λ v e=>(by cases e),λ s e=>by cases e⟩
 ·cases h
end Go.SL
