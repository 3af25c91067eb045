import Derived.Test.YtaplakgdkkmpfaaGreatDoorSlD
namespace Go.SL
section
variable {P:Program} {C:Ctx} {S:Nat->Prop} {w:World} {ρ:List Value} {R:List Res} {L:List Ent} {cur:A6} {a:Act}
def uW (P:Program) (S:Nat->Prop) (w:World) (ρ:List Value) (a:Act) (o:Oper) (v:AV):Prop:=
 ∃ x,(execOp a.eval o).run P w = .ok (.value x) w/\RdA S w ρ x v
theorem uN {op:BinOp} {x y z:Value} (h:bin op x y=some z) (t:TypeId) (u v:Operand) :
    (do eqGuard op t u v x y;binOp op t x y:Sem Value).run P w = .ok z w/\z.oneCell'=true:=by
  unfold bin at h
  split at h <;> first
    | (cases h;done)
    | (split at h
       · rename_i hk;subst hk;simp at h;subst h
         exact⟨by simp [eqGuard,binOp,Op.intArith,Op.intCmp,Op.intBits,uR,orI,qI],rfl⟩
       · cases h)
    | (rename_i n; simp at h; subst h
       exact⟨by simp [eqGuard,binOp,Op.shift,qP,qQ];omega,rfl⟩)
    | (simp at h; subst h
       exact⟨by simp [eqGuard,binOp,Op.stringOp],rfl⟩)
theorem run_equalIn_bool (t:TypeId) (ht:P.underlying t=some .bool) (a b:Bool) (d:Nat):(Op.equalIn (d+1) t (.bool a) (.bool b)).run P w = .ok (a==b) w:=by
 simp [Op.equalIn,run_underlying ht]
theorem Hs (t:TypeId) (ht:P.underlying t=some .bool) (a b:Bool):(Op.equal t (.bool a) (.bool b)).run P w = .ok (a==b) w:=
 run_equalIn_bool t ht a b 9999
theorem jR {op:BinOp} {x y z:Value} (h:Y9 op x y=some z) (t:TypeId) (ht:P.underlying t=some .bool) (u v:Operand) :
  (do eqGuard op t u v x y;binOp op t x y:Sem Value).run P w = .ok z w/\z.oneCell'=true:=by
 unfold Y9 at h
 split at h
 ·simp at h;subst h
  refine⟨?_,rfl⟩
  simp only [eqGuard,binOp,Sem.run_bind,Hs t ht,Result.andThen_ok]
  rfl
 ·simp at h;subst h
  refine⟨?_,rfl⟩
  simp only [eqGuard,binOp,Sem.run_bind,Hs t ht,Result.andThen_ok]
  rfl
 ·cases h
theorem jQ {op:BinOp} {x y z:Value} {n:Int} (h:Y8 op x y=some (z,n)) (hn:n≠0) (t:TypeId) (u v:Operand) :
    (do eqGuard op t u v x y;binOp op t x y:Sem Value).run P w = .ok z w/\z.oneCell'=true:=by
  unfold Y8 at h
  split at h <;> first
    | (cases h;done)
    | (split at h
       · rename_i hk;subst hk;simp at h;obtain⟨rfl,rfl⟩:=h
         exact⟨by simp [eqGuard,binOp,Op.intDiv,hn],rfl⟩
       · cases h)
    | (rename_i a b
       simp only [ah,aw] at h
       obtain⟨rfl,rfl⟩:=h
       have hb:¬(((a.size+b.size:Nat):Int)>IntKind.i64.max):=by
         have e:IntKind.i64.max=9223372036854775807:=by decide
         rw [e]
         unfold B7 at hn
         cases hd:decide (((a.size+b.size:Nat):Int)<=9223372036854775807) with
         | true=>have:=cW hd;omega
         | false=>rw [hd] at hn;exact absurd rfl hn
       exact⟨by simp only [eqGuard,binOp,Op.stringOp,if_neg hb,Sem.run_bind,Sem.run_pure];rfl,rfl⟩)
theorem vE {op:UnOp} {x z:Value} (h:un op x=some z):(Op.unary op x).run P w = .ok z w/\z.oneCell'=true:=by
 unfold un at h
 split at h <;> first
  | (cases h;done)
  | (simp at h;subst h;exact⟨by simp [Op.unary,Op.intArith],rfl⟩)
theorem To:∀ {l:List Value} {m n:Int},Q1 m l=some n->(l.foldlM Builtin.max2 (.int .i64 m):Sem Value).run P w = .ok (.int .i64 n) w
 | [],m,n,h=>by simp [Q1] at h;subst h;simp
 | x::r,m,n,h=>by
  simp only [Q1] at h
  split at h
  ·rename_i y
   have:=To h
   have e:(if y>m then y else m)=max m y:=by rw [Int.max_def];split <;> split <;> omega
   simp only [List.foldlM_cons,Builtin.max2,e]
   simpa using this
  ·cases h
theorem Tn:∀ {l:List Value} {m n:Int},Qx m l=some n->(l.foldlM Builtin.min2 (.int .i64 m):Sem Value).run P w = .ok (.int .i64 n) w
 | [],m,n,h=>by simp [Qx] at h;subst h;simp
 | x::r,m,n,h=>by
  simp only [Qx] at h
  split at h
  ·rename_i y
   have:=Tn h
   have e:(if y<m then y else m)=min m y:=by rw [Int.min_def];split <;> split <;> omega
   simp only [List.foldlM_cons,Builtin.min2,e]
   simpa using this
  ·cases h
theorem S0 {l:List AV} {xs vs:List Value} (h:Gx l=some xs) (hv:Ae (RdA S w ρ) vs l):vs=xs:=by
 induction l generalizing xs vs with
 | nil=>cases vs with
  | nil=>simp [Gx] at h;exact h.symm ▸ rfl
  | cons=>exact hv.elim
 | cons y l ih=>cases vs with
  | nil=>exact hv.elim
  | cons v vs=>
   simp only [Gx] at h
   split at h
   ·rename_i x xs' h1 h2
    simp at h;subst h
    have:v=x:=by
     unfold A0 at h1
     split at h1
     ·simp at h1;subst h1;exact hv.1.exact_inv
     ·cases h1
    rw [this,ih h2 hv.2]
   ·cases h
theorem Ha (hI:Inv C S w ρ R) {i g e s:Nat} {tys:List (TypeId×Nat)} {rows:List (List Pd)} {hole:Option (Nat×Nat)} {h:Value} (hi:R[i]? = some (.dsl e s g)) (hg:R[g]? = some (.gh s tys rows hole))
  (hρ:ρ[i]? = some h) (h1:h.oneCell'=true) (hs:0<s):∃ f xs cs,ρ[g]? = some (.func f xs cs)/\gOk S w s tys rows hole xs /\
   ((h = .slice none 0 0/\rows=[])\/∃ b o cap vs,h = .slice (some ⟨b,o,none⟩) rows.length cap/\w.heap[b]? = some (.cells vs e (0,0))/\rows.length<=cap/\cap<=maxLen/\o+cap*s<=vs.size /\
    ∀ (k:Nat) x,xs[k]? = some x->vs[o+k]? = some x):=by
 obtain⟨f,xs,cs,k1,k2⟩:=(hI.ok i _ h hi hρ).live h1
 obtain⟨f',xs',cs',k3,k4⟩:=(hI.ok g _ _ hg k1).live rfl
 cases k3
 have hsz:=k4.2.1
 refine⟨f,xs,cs,k1,k4,?_⟩
 rcases k2 with⟨k2,k5⟩ | ⟨b,o,len,cap,vs,k2,k5,k6,k7,k8,k9,k10⟩
 ·refine .inl ⟨k2,?_⟩
  rw [k5] at hsz
  have:rows.length=0:=by
   rcases Nat.eq_zero_or_pos rows.length with h | h
   ·exact h
   ·have:=Nat.mul_pos h hs;omega
  exact bz this
 ·have:len=rows.length:=by
   rw [k9] at hsz
   exact Nat.eq_of_mul_eq_mul_right hs hsz
  subst this
  exact .inr ⟨b,o,cap,vs,k2,k5,k6,k7,k8,k10⟩
theorem W4 (hI:Inv C S w ρ R) {vs:List Value} {l:List AV} (hr:Ae (RdA S w ρ) vs l) {n:Int} (h:Fp R l=some n) :
  ∃ (b:Option Addr) (k c:Nat),vs=[.slice b k c]/\n=k:=by
 have one:∀ {av:AV},Ae (RdA S w ρ) vs [av]->∃ x,vs=[x]/\RdA S w ρ x av:=by
  intro av h
  match vs,h with
  | [x],h=>exact⟨x,rfl,h.1⟩
  | [],h=>exact h.elim
  | _::_::_,h=>exact h.2.elim
 unfold Fp at h
 split at h
 ·simp at h;subst h
  obtain⟨x,rfl,hx⟩:=one hr
  cases hx.d_inv with
  | p h=>
   obtain⟨b,c,rfl,_⟩:=h.slice_form
   exact⟨b,_,c,rfl,rfl⟩
 ·simp at h;subst h
  obtain⟨x,rfl,hx⟩:=one hr
  rw [hx.exact_inv]
  exact⟨none,0,_,rfl,rfl⟩
 ·rename_i i
  split at h
  ·rename_i e size rows hi
   simp at h;subst h
   obtain⟨x,rfl,hx⟩:=one hr
   cases hx.d_inv with
   | os hρ h1=>
    rcases (hI.ok i _ x hi hρ).live h1 with⟨rfl,rfl⟩ | ⟨b,o,cap,vs,rfl,_⟩
    ·exact⟨none,0,0,rfl,rfl⟩
    ·exact⟨_,_,_,rfl,rfl⟩
  ·rename_i e s g hi
   split at h
   ·rename_i s2 tys rows hole hg
    cases hb:(Nat.beq s s2&&Nat.blt 0 s) with
    | false=>rw [hb] at h;simp at h
    | true=>
     rw [hb] at h
     simp at h;subst h
     simp only [af] at hb
     have:=ac hb.1
     subst this
     obtain⟨x,rfl,hx⟩:=one hr
     cases hx.d_inv with
     | os hρ h1=>
      obtain⟨_,_,_,_,_,k⟩:=Ha hI hi hg hρ h1 (by have:=hb.2;simpa [Nat.blt_eq] using this)
      rcases k with⟨rfl,rfl⟩ | ⟨b,o,cap,vs,rfl,_⟩
      ·exact⟨none,0,0,rfl,rfl⟩
      ·exact⟨_,_,_,rfl,rfl⟩
   ·cases h
  ·cases h
 ·simp at h;subst h
  obtain⟨x,rfl,hx⟩:=one hr
  cases hx.d_inv with
  | osb _ _ _ _ _=>exact⟨_,_,_,rfl,rfl⟩
 ·cases h
theorem W0 {vs:List Value} {l:List AV} (hr:Ae (RdA S w ρ) vs l) {n:Int} (h:Rh l=some n):∃ s:ByteArray,vs=[.string s]/\n=s.size:=by
 unfold Rh at h
 split at h
 ·simp at h;subst h
  match vs,hr with
  | [x],hr=>rw [hr.1.exact_inv];exact⟨_,rfl,rfl⟩
  | [],hr=>exact hr.elim
  | _::_::_,hr=>exact hr.2.elim
 ·cases h
theorem M9 {s:TypeId} {f k:Nat} {ft:TypeId} (h:H4 P s f=some (k,ft)) :
  ∃ fields x,P.underlying s=some (.struct fields)/\fields[f]? = some x/\x.offset=k/\x.type=ft:=by
 unfold H4 at h
 split at h
 ·rename_i fields hu
  split at h
  ·rename_i x hx
   simp at h
   exact⟨fields,x,hu,hx,h.1,h.2⟩
  ·cases h
 ·cases h
theorem Hd {s:TypeId} {f k:Nat} {ft:TypeId} {ad:Addr} {n:Nat} (h:H4 P s f=some (k,ft)) (hn:Aj P ft=some (n+1)) :
  (Instr.fieldAt s (.pointer (some ad)) f).run P w = .ok (.pointer (some (ad.add k))) w:=by
 obtain⟨fields,x,hu,hx,rfl,rfl⟩:=M9 h
 simp [Instr.fieldAt,run_underlying hu,hx,Instr.sureAddr,fieldPlace,Ar hn]
theorem Ph (hI:Inv C S w ρ R) {i:Nat} {t:TypeId} {cells:List D} (hi:R[i]? = some (.box t cells)) {b:Nat} (hb:ρ[i]? = some (.pointer (some ⟨b,0,none⟩))) :
  ∃ vs,w.heap[b]? = some (.cells vs t (0,0))/\Ae (Rd S w ρ) vs.toList cells:=by
 obtain⟨b',vs,he,h1,h2⟩:=(hI.ok i _ _ hi hb).live rfl
 cases he
 exact⟨vs,h1,h2⟩
theorem R5 (hI:Inv C S w ρ R) {i:Nat} {t:TypeId} {cells:List D} (hi:R[i]? = some (.box t cells)) {b:Nat} (hb:ρ[i]? = some (.pointer (some ⟨b,0,none⟩)))
  (off n:Nat) (j:Nat) (d:D) (hd:((cells.drop off).take n)[j]? = some d):∃ x,w.cell? ((⟨b,off,none⟩:Addr).add j)=some x/\Rd S w ρ x d:=by
 obtain⟨vs,h1,h2⟩:=Ph hI hi hb
 rw [au] at hd
 split at hd
 ·rw [aA] at hd
  obtain⟨x,hx,hR⟩:=h2.get hd
  refine⟨x,?_,hR⟩
  rw [A3,E_ h1]
  simpa using hx
 ·cases hd
theorem Hw {t:TypeId} {vs:List Value} {ds:List D} (hv:Ae (Rd S w ρ) vs ds) {k n:Nat} (hn:Aj P t=some n) {av:AV} (h:Cz P t ((ds.drop k).take n)=some av) :
  ∃ x,(part t vs.toArray k).run P w = .ok x w/\RdA S w ρ x av:=by
 unfold Cz at h
 cases hu:P.underlying t with
 | none=>simp [Im,hu] at h
 | some td=>
  have ha:Im P t=some (Gu td):=by simp [Im,hu]
  rw [ha,hn] at h
  cases hb:Gu td with
  | true=>
   simp only [hb] at h
   cases hl:Nat.beq ((ds.drop k).take n).length n with
   | false=>rw [hl] at h;simp at h
   | true=>
    rw [hl] at h;simp at h;subst h
    have:=(hv.drop k).take n
    refine⟨.agg ((vs.drop k).take n).toArray,?_,.agg this⟩
    simp [part,G9 hu,hb,Ar hn]
  | false=>
   rw [hb] at h
   split at h
   ·simp_all
   ·rename_i hs
    cases hs
    split at h
    ·rename_i d hd
     simp at h;subst h
     have hk:ds[k]? = some d:=by
      have:((ds.drop k).take 1)[0]? = some d:=by rw [hd];rfl
      rw [au] at this
      simpa using this
     obtain⟨x,hx,hR⟩:=hv.get hk
     refine⟨x,?_,.d hR⟩
     simp [part,G9 hu,hb,hx]
    ·cases h
   ·cases h
end
end Go.SL
