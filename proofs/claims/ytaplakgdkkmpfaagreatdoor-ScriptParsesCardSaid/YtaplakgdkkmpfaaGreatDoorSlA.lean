import Derived.WalkKit
import Derived.ProofKit
import Derived.OpenShut
namespace Go.SL
theorem cR:type_of% @decide_eq_true_eq:=@decide_eq_true_eq
theorem cS:type_of% @decide_eq_false_iff_not:=@decide_eq_false_iff_not
theorem cT:type_of% @decide_eq_true:=@decide_eq_true
theorem cU:type_of% @decide_eq_false:=@decide_eq_false
theorem cW:type_of% @of_decide_eq_true:=@of_decide_eq_true
theorem aa:type_of% @List.getElem?_eq_some_iff:=@List.getElem?_eq_some_iff
theorem ac:type_of% @Nat.eq_of_beq_eq_true:=@Nat.eq_of_beq_eq_true
theorem ae:type_of% @Nat.le_refl:=@Nat.le_refl
theorem af:type_of% @Bool.and_eq_true:=@Bool.and_eq_true
theorem ag:type_of% @List.mem_cons:=@List.mem_cons
theorem ah:type_of% @Option.some.injEq:=@Option.some.injEq
theorem ai:type_of% @List.mem_cons_of_mem:=@List.mem_cons_of_mem
theorem aj:type_of% @Option.bind_some:=@Option.bind_some
theorem ak:type_of% @List.mem_cons_self:=@List.mem_cons_self
theorem al:type_of% @List.getElem?_map:=@List.getElem?_map
theorem am:type_of% @List.getElem?_eq_getElem:=@List.getElem?_eq_getElem
theorem an:type_of% @List.getElem?_append_left:=@List.getElem?_append_left
theorem ap:type_of% @List.length_cons:=@List.length_cons
theorem aq:type_of% @List.mem_of_getElem?:=@List.mem_of_getElem?
theorem ar:type_of% @Nat.add_mul:=@Nat.add_mul
theorem au:type_of% @List.getElem?_take:=@List.getElem?_take
theorem aw:type_of% @Prod.mk.injEq:=@Prod.mk.injEq
theorem ax:type_of% @List.getElem?_set:=@List.getElem?_set
theorem ay:type_of% @List.length_append:=@List.length_append
theorem az:type_of% @List.mem_append:=@List.mem_append
theorem aA:type_of% @List.getElem?_drop:=@List.getElem?_drop
theorem aB:type_of% @List.length_take:=@List.length_take
theorem aC:type_of% @List.getElem?_append_right:=@List.getElem?_append_right
theorem aD:type_of% @List.getElem?_set_ne:=@List.getElem?_set_ne
theorem aE:type_of% @Ne.symm:=@Ne.symm
theorem aF:type_of% @Nat.lt_of_lt_of_le:=@Nat.lt_of_lt_of_le
theorem aG:type_of% @List.length_singleton:=@List.length_singleton
theorem aH:type_of% @Nat.le_trans:=@Nat.le_trans
theorem aI:type_of% @Array.getElem?_eq_some_iff:=@Array.getElem?_eq_some_iff
theorem aJ:type_of% @List.map_cons:=@List.map_cons
theorem aK:type_of% @List.mem_map:=@List.mem_map
theorem aL:type_of% @List.length_map:=@List.length_map
theorem aM:type_of% @List.all_eq_true:=@List.all_eq_true
theorem aN:type_of% @Nat.mul_le_mul_right:=@Nat.mul_le_mul_right
theorem aO:type_of% @Nat.lt_or_ge:=@Nat.lt_or_ge
theorem aP:type_of% @Option.some.inj:=@Option.some.inj
theorem aQ:type_of% @Nat.zero_add:=@Nat.zero_add
theorem aR:type_of% @Bool.or_eq_true:=@Bool.or_eq_true
theorem aS:type_of% @Bool.and_true:=@Bool.and_true
theorem aT:type_of% @Nat.le_of_ble_eq_true:=@Nat.le_of_ble_eq_true
theorem aU:type_of% @List.pairwise_cons:=@List.pairwise_cons
theorem aV:type_of% @Array.getD_eq_getD_getElem?:=@Array.getD_eq_getD_getElem?
theorem aW:type_of% @List.setIfInBounds_toArray:=@List.setIfInBounds_toArray
theorem aX:type_of% @List.set_cons_succ:=@List.set_cons_succ
theorem aY:type_of% @List.append_assoc:=@List.append_assoc
theorem aZ:type_of% @List.length_nil:=@List.length_nil
theorem ba:type_of% @Nat.zero_le:=@Nat.zero_le
theorem bc:type_of% @Nat.blt_eq:=@Nat.blt_eq
theorem bd:type_of% @List.mem_append_left:=@List.mem_append_left
theorem be:type_of% @List.mem_append_right:=@List.mem_append_right
theorem bf:type_of% @Nat.add_zero:=@Nat.add_zero
theorem bg:type_of% @List.set_cons_zero:=@List.set_cons_zero
theorem bh:type_of% @List.size_toArray:=@List.size_toArray
theorem bi:type_of% @List.length_drop:=@List.length_drop
theorem bj:type_of% @Nat.add_assoc:=@Nat.add_assoc
theorem bl:type_of% @List.mem_of_mem_take:=@List.mem_of_mem_take
theorem bm:type_of% @Bool.true_and:=@Bool.true_and
theorem bn:type_of% @Bool.false_or:=@Bool.false_or
theorem bo:type_of% @Array.length_toList:=@Array.length_toList
theorem bp:type_of% @List.ext_getElem?:=@List.ext_getElem?
theorem bq:type_of% @List.cons_append:=@List.cons_append
theorem br:type_of% @Bool.not_eq_true':=@Bool.not_eq_true'
theorem bt:type_of% @List.mem_singleton:=@List.mem_singleton
theorem bu:type_of% @Nat.lt_trichotomy:=@Nat.lt_trichotomy
theorem bv:type_of% @Bool.not_true:=@Bool.not_true
theorem bz:type_of% @List.eq_nil_of_length_eq_zero:=@List.eq_nil_of_length_eq_zero
theorem bC:type_of% @Nat.one_mul:=@Nat.one_mul
theorem bD:type_of% @Array.getElem?_toList:=@Array.getElem?_toList
theorem bE:type_of% @List.eq_of_mem_replicate:=@List.eq_of_mem_replicate
theorem bF:type_of% @List.take_of_length_le:=@List.take_of_length_le
theorem bG:type_of% @List.nil_append:=@List.nil_append
theorem bH:type_of% @List.map_map:=@List.map_map
theorem bI:type_of% @Nat.not_lt_zero:=@Nat.not_lt_zero
theorem bJ:type_of% @Array.getElem?_eq_getElem:=@Array.getElem?_eq_getElem
theorem bK:type_of% @List.isEmpty_iff:=@List.isEmpty_iff
theorem bL:type_of% @List.getD_eq_getElem?_getD:=@List.getD_eq_getElem?_getD
theorem bM:type_of% @List.getElem?_eq_none:=@List.getElem?_eq_none
theorem bN:type_of% @List.not_mem_nil:=@List.not_mem_nil
theorem bO:type_of% @List.map_append:=@List.map_append
theorem bP:type_of% @Option.map_some:=@Option.map_some
theorem bQ:type_of% @List.cons.injEq:=@List.cons.injEq
theorem bR:type_of% @List.length_set:=@List.length_set
theorem bS:type_of% @List.flatten_append:=@List.flatten_append
theorem bT:type_of% @Nat.min_eq_left:=@Nat.min_eq_left
theorem bU:type_of% @List.mem_or_eq_of_mem_set:=@List.mem_or_eq_of_mem_set
theorem bV:type_of% @List.flatten_cons:=@List.flatten_cons
theorem bW:type_of% @Int.toNat_natCast:=@Int.toNat_natCast
theorem bX:type_of% @Bool.or_eq_false_iff:=@Bool.or_eq_false_iff
theorem bY:type_of% @List.getElem?_cons_succ:=@List.getElem?_cons_succ
theorem bZ:type_of% @List.length_eq_zero_iff:=@List.length_eq_zero_iff
theorem b9:type_of% @List.getElem?_toArray:=@List.getElem?_toArray
theorem ca:type_of% @List.drop_eq_nil_of_le:=@List.drop_eq_nil_of_le
inductive Pd where
 | v (x:Value)
 | s (rows:List (List Pd))
 deriving Inhabited
theorem Fs (a:Addr) (n:Nat):(a.add n).block=a.block:=by unfold Addr.add;split <;> rfl
theorem Ej (a:Addr):a.add 0=a:=by simp [Addr.add]
theorem Ie (a:Addr) (i j:Nat):(a.add i).add j=a.add (i+j):=by
 unfold Addr.add
 by_cases hi:i=0 <;> by_cases hj:j=0 <;> simp [hi,hj,Nat.add_assoc]
theorem A3 (b o n:Nat):(⟨b,o,none⟩:Addr).add n=⟨b,o+n,none⟩:=by
 unfold Addr.add;split <;> simp_all
inductive RdP (S:Nat->Prop) (w:World):Value->Pd->Prop
 | v (x:Value) (h:x.oneCell'=true):RdP S w x (.v x)
 | s (a:Option Addr) (ad:Addr) (cap size:Nat) (rows:List (List Pd)) (xs:Nat->Nat->Value)
   (hc:rows.length<=cap) (hm:cap<=maxLen) (hz:a=none->cap=0)
   (hsz:∀ row,row∈rows->row.length=size)
   (hx:∀ (i:Nat) row,rows[i]? = some row->∀ (j:Nat) d,row[j]? = some d->a=some ad/\S ad.block/\w.cell? (ad.add (i*size+j))=some (xs i j))
   (hr:∀ (i:Nat) row,rows[i]? = some row->∀ (j:Nat) d,row[j]? = some d->RdP S w (xs i j) d) :
   RdP S w (.slice a rows.length cap) (.s rows)
section
variable {S S':Nat->Prop} {w w':World}
theorem Pf {ad:Addr} {n:Nat} (hw:w'.heap[ad.block]? = w.heap[ad.block]?):w'.cell? (ad.add n)=w.cell? (ad.add n):=
 World.cell?_of_block (by rw [Fs];exact hw)
theorem RdP.mono {x:Value} {d:Pd} (h:RdP S w x d) (hS:∀ b,S b->S' b) (hw:∀ b,S b->w'.heap[b]? = w.heap[b]?):RdP S' w' x d:=by
 induction h with
 | v x h=>exact .v x h
 | s a ad cap size rows xs hc hm hz hsz hx hr ih=>
  refine .s a ad cap size rows xs hc hm hz hsz (λ i row hi j d hj=>?_) (λ i row hi j d hj=>ih i row hi j d hj)
  obtain⟨h1,h2,h3⟩:=hx i row hi j d hj
  exact⟨h1,hS _ h2,by rw [Pf (hw _ h2)];exact h3⟩
theorem RdP.one {x:Value} {d:Pd} (h:RdP S w x d):x.oneCell'=true:=by
 cases h with
 | v x h=>exact h
 | s=>rfl
def Co (S:Nat->Prop) (w:World) (ad:Addr) (ds:List Pd):Prop:=
 ∀ (j:Nat) d,ds[j]? = some d->∃ x,S ad.block/\w.cell? (ad.add j)=some x/\RdP S w x d
theorem Co.mono {ad:Addr} {ds:List Pd} (h:Co S w ad ds) (hS:∀ b,S b->S' b) (hw:∀ b,S b->w'.heap[b]? = w.heap[b]?):Co S' w' ad ds:=by
 intro j d hj
 obtain⟨x,h1,h2,h3⟩:=h j d hj
 exact⟨x,hS _ h1,by rw [Pf (hw _ h1)];exact h2,h3.mono hS hw⟩
theorem Co.drop {ad:Addr} {ds:List Pd} (h:Co S w ad ds) (k:Nat):Co S w (ad.add k) (ds.drop k):=by
 intro j d hj
 rw [aA] at hj
 obtain⟨x,h1,h2,h3⟩:=h _ d hj
 exact⟨x,by rw [Fs];exact h1,by rw [Ie];exact h2,h3⟩
theorem Co.take {ad:Addr} {ds:List Pd} (h:Co S w ad ds) (k:Nat):Co S w ad (ds.take k):=by
 intro j d hj
 rw [au] at hj
 split at hj
 ·exact h _ d hj
 ·cases hj
theorem RdP.row {a:Option Addr} {n cap:Nat} {rows:List (List Pd)} (h:RdP S w (.slice a n cap) (.s rows)) {i:Nat} {row:List Pd} (hi:rows[i]? = some row) :
  i<n/\(row≠[]->∃ ad,a=some ad/\Co S w (ad.add (i*row.length)) row):=by
 cases h with
 | s _ ad _ size _ xs hc hm hz hsz hx hr=>
  have hs:row.length=size:=hsz row (aq hi)
  refine⟨(aa.1 hi).1,λ hne=>?_⟩
  obtain⟨d0,h0⟩:∃ d,row[0]? = some d:=by
   cases row with
   | nil=>exact absurd rfl hne
   | cons d l=>exact⟨d,rfl⟩
  refine⟨ad,(hx i row hi 0 d0 h0).1,λ j d hj=>?_⟩
  obtain⟨_,h2,h3⟩:=hx i row hi j d hj
  exact⟨xs i j,by rw [Fs];exact h2,by rw [Ie,hs];exact h3,hr i row hi j d hj⟩
theorem RdP.slice_form {x:Value} {rows:List (List Pd)} (h:RdP S w x (.s rows)):∃ a cap,x = .slice a rows.length cap/\rows.length<=cap/\cap<=maxLen:=by
 cases h with
 | s a ad cap size rows xs hc hm=>exact⟨a,cap,rfl,hc,hm⟩
theorem RdP.v_form {x y:Value} (h:RdP S w x (.v y)):x=y:=by
 cases h;rfl
end
inductive D where
 | p (x:Pd)
 | o (i off:Nat)
 | os (i:Nat)
 | oe (i k size off:Nat)
 | osb (i lo n size:Nat)
 | oi (i g k size off:Nat)
 | ip (cells:List Pd)
 | fn (f:Fn) (first caps:List D)
 | any
 | nq (rows:List (List Pd))
 deriving Inhabited
inductive Rd (S:Nat->Prop) (w:World) (ρ:List Value):Value->D->Prop
 | p {x:Value} {d:Pd} (h:RdP S w x d):Rd S w ρ x (.p d)
 | o {i b off:Nat} (h:ρ[i]? = some (.pointer (some ⟨b,0,none⟩))):Rd S w ρ (.pointer (some ⟨b,off,none⟩)) (.o i off)
 | os {i:Nat} {v:Value} (h:ρ[i]? = some v) (h1:v.oneCell'=true):Rd S w ρ v (.os i)
 | oe {i k size off b o len cap:Nat} (h:ρ[i]? = some (.slice (some ⟨b,o,none⟩) len cap)):Rd S w ρ (.pointer (some ⟨b,o+k*size+off,none⟩)) (.oe i k size off)
 | osb {i lo n size q:Nat} {a:Option Addr} {len cap:Nat} (h:ρ[i]? = some (.slice a len cap)) (hl:lo+n<=len) (hc:lo<=cap) (hq:q<=lo*size) (hq2:lo<cap->q=lo*size):Rd S w ρ (.slice (a.map (·.add q)) n (cap-lo)) (.osb i lo n size)
 | oi {i g k size off:Nat} {f:Fn} {xs cs:Array Value} {v:Value} (h:ρ[g]? = some (.func f xs cs)) (hx:xs[k*size+off]? = some v) (h1:v.oneCell'=true):Rd S w ρ v (.oi i g k size off)
 | ip {ad:Addr} {ds:List Pd} (h:Co S w ad ds):Rd S w ρ (.pointer (some ad)) (.ip ds)
 | fn {f:Fn} {xs cs:List Value} {first caps:List D} (hl:xs.length=first.length) (hm:cs.length=caps.length)
   (hx:∀ (j:Nat) x d,xs[j]? = some x->first[j]? = some d->Rd S w ρ x d) (hc:∀ (j:Nat) x d,cs[j]? = some x->caps[j]? = some d->Rd S w ρ x d) :
   Rd S w ρ (.func f xs.toArray cs.toArray) (.fn f first caps)
 | any {v:Value} (h1:v.oneCell'=true):Rd S w ρ v .any
 | nq {b:Bool} {rows:List (List Pd)} (h:b=true->rows=[]):Rd S w ρ (.bool b) (.nq rows)
def Pre (ρ ρ':List Value):Prop:=∀ (i:Nat) v,ρ[i]? = some v->ρ'[i]? = some v
theorem Pre.refl (ρ:List Value):Pre ρ ρ:=λ _ _ h=>h
theorem Pre.append (ρ l:List Value):Pre ρ (ρ++l):=λ i v h=>by
 rw [an (aa.1 h).1];exact h
theorem Pre.trans {a b c:List Value} (h:Pre a b) (k:Pre b c):Pre a c:=λ i v e=>k i v (h i v e)
def Ho (ρ ρ':List Value):Prop:=∀ (i:Nat) v,ρ[i]? = some v->v.oneCell'=true->ρ'[i]? = some v
theorem Pre.a {a b:List Value} (h:Pre a b):Ho a b:=λ i v e _=>h i v e
section
variable {S S':Nat->Prop} {w w':World} {ρ ρ':List Value}
theorem Rd.monoA {x:Value} {d:D} (h:Rd S w ρ x d) (hS:∀ b,S b->S' b) (hw:∀ b,S b->w'.heap[b]? = w.heap[b]?) (hρ:Ho ρ ρ'):Rd S' w' ρ' x d:=by
 induction h with
 | p h=>exact .p (h.mono hS hw)
 | o h=>exact .o (hρ _ _ h rfl)
 | os h h1=>exact .os (hρ _ _ h h1) h1
 | oe h=>exact .oe (hρ _ _ h rfl)
 | osb h hl hc hq hq2=>exact .osb (hρ _ _ h rfl) hl hc hq hq2
 | any h1=>exact .any h1
 | nq h=>exact .nq h
 | oi h hx h1=>exact .oi (hρ _ _ h rfl) hx h1
 | ip h=>exact .ip (h.mono hS hw)
 | fn hl hm _ _ ih1 ih2=>exact .fn hl hm ih1 ih2
theorem Rd.mono {x:Value} {d:D} (h:Rd S w ρ x d) (hS:∀ b,S b->S' b) (hw:∀ b,S b->w'.heap[b]? = w.heap[b]?) (hρ:Pre ρ ρ'):Rd S' w' ρ' x d:=h.monoA hS hw hρ.a
theorem Rd.one {x:Value} {d:D} (h:Rd S w ρ x d):x.oneCell'=true:=by
 cases h with
 | p h=>exact h.one
 | os h h1=>exact h1
 | oi h hx h1=>exact h1
 | any h1=>exact h1
 | _=>rfl
end
def Ae {α β:Type} (R:α->β->Prop):List α->List β->Prop
 | [],[]=>True
 | x::xs,d::ds=>R x d/\Ae R xs ds
 | _,_=>False
section
variable {α β:Type} {R R':α->β->Prop}
theorem Ae.length:∀ {xs:List α} {ds:List β},Ae R xs ds->xs.length=ds.length
 | [],[],_=>rfl
 | _::_,_::_,h=>by simp [Ae.length h.2]
 | [],_::_,h=>h.elim
 | _::_,[],h=>h.elim
theorem Ae.mono (hm:∀ x d,R x d->R' x d):∀ {xs:List α} {ds:List β},Ae R xs ds->Ae R' xs ds
 | [],[],_=>trivial
 | _::_,_::_,h=>⟨hm _ _ h.1,Ae.mono hm h.2⟩
 | [],_::_,h=>h.elim
 | _::_,[],h=>h.elim
theorem Ae.get:∀ {xs:List α} {ds:List β},Ae R xs ds->∀ {j:Nat} {d:β},ds[j]? = some d->∃ x,xs[j]? = some x/\R x d
 | [],[],_,j,d,hj=>by simp at hj
 | x::xs,d'::ds,h,0,d,hj=>by simp at hj;subst hj;exact⟨x,rfl,h.1⟩
 | x::xs,d'::ds,h,j+1,d,hj=>by simp at hj ⊢;exact Ae.get h.2 hj
 | [],_::_,h,_,_,_=>h.elim
 | _::_,[],h,_,_,_=>h.elim
theorem c7:∀ {xs:List α} {ds:List β},xs.length=ds.length->(∀ (j:Nat) x d,xs[j]? = some x->ds[j]? = some d->R x d)->Ae R xs ds
 | [],[],_,_=>trivial
 | x::xs,d::ds,hl,h=>⟨h 0 x d rfl rfl,c7 (by simpa using hl) (λ j x' d' hx hd=>h (j+1) x' d' (by simpa using hx) (by simpa using hd))⟩
 | [],_::_,hl,_=>by simp at hl
 | _::_,[],hl,_=>by simp at hl
theorem Ae.both {xs:List α} {ds:List β} (h:Ae R xs ds) {j:Nat} {x:α} {d:β} (hx:xs[j]? = some x) (hd:ds[j]? = some d):R x d:=by
 obtain⟨x',h1,h2⟩:=h.get hd
 rw [hx] at h1;cases h1;exact h2
theorem Ae.append {xs xs':List α} {ds ds':List β} (h:Ae R xs ds) (h':Ae R xs' ds'):Ae R (xs++xs') (ds++ds'):=by
 induction xs generalizing ds with
 | nil=>cases ds with
  | nil=>exact h'
  | cons=>exact h.elim
 | cons x xs ih=>cases ds with
  | nil=>exact h.elim
  | cons d ds=>exact⟨h.1,ih h.2⟩
theorem Ae.take {xs:List α} {ds:List β} (h:Ae R xs ds) (k:Nat):Ae R (xs.take k) (ds.take k):=by
 refine c7 (by simp [h.length]) λ j x d hx hd=>?_
 rw [au] at hx hd
 split at hx
 ·rw [if_pos ‹_›] at hd;exact h.both hx hd
 ·cases hx
theorem Ae.drop {xs:List α} {ds:List β} (h:Ae R xs ds) (k:Nat):Ae R (xs.drop k) (ds.drop k):=by
 refine c7 (by simp [h.length]) λ j x d hx hd=>?_
 rw [aA] at hx hd
 exact h.both hx hd
theorem Ae.map_right {γ:Type} {f:γ->β} {R2:α->γ->Prop} {xs:List α} {ds:List γ} (h:Ae R2 xs ds) (hm:∀ x d,R2 x d->R x (f d)):Ae R xs (ds.map f):=by
 refine c7 (by simp [h.length]) λ j x d hx hd=>?_
 rw [al] at hd
 cases hg:ds[j]? with
 | none=>rw [hg] at hd;cases hd
 | some d'=>rw [hg] at hd;cases hd;exact hm _ _ (h.both hx hg)
end
inductive AV where
 | d (x:D)
 | agg (ds:List D)
 | tup (l:List AV)
 deriving Inhabited
inductive RdA (S:Nat->Prop) (w:World) (ρ:List Value):Value->AV->Prop
 | d {x:Value} {y:D} (h:Rd S w ρ x y):RdA S w ρ x (.d y)
 | agg {vs:List Value} {ds:List D} (h:Ae (Rd S w ρ) vs ds):RdA S w ρ (.agg vs.toArray) (.agg ds)
 | tup {vs:List Value} {l:List AV} (hl:vs.length=l.length) (h:∀ (j:Nat) x a,vs[j]? = some x->l[j]? = some a->RdA S w ρ x a):RdA S w ρ (.tuple vs.toArray) (.tup l)
section
variable {S S':Nat->Prop} {w w':World} {ρ ρ':List Value}
theorem RdA.monoA {x:Value} {d:AV} (h:RdA S w ρ x d) (hS:∀ b,S b->S' b) (hw:∀ b,S b->w'.heap[b]? = w.heap[b]?) (hρ:Ho ρ ρ'):RdA S' w' ρ' x d:=by
 induction h with
 | d h=>exact .d (h.monoA hS hw hρ)
 | agg h=>exact .agg (h.mono λ _ _ h=>h.monoA hS hw hρ)
 | tup hl _ ih=>exact .tup hl ih
theorem RdA.mono {x:Value} {d:AV} (h:RdA S w ρ x d) (hS:∀ b,S b->S' b) (hw:∀ b,S b->w'.heap[b]? = w.heap[b]?) (hρ:Pre ρ ρ'):RdA S' w' ρ' x d:=h.monoA hS hw hρ.a
theorem RdA.d_inv {x:Value} {y:D} (h:RdA S w ρ x (.d y)):Rd S w ρ x y:=by cases h;assumption
theorem RdA.agg_inv {x:Value} {ds:List D} (h:RdA S w ρ x (.agg ds)):∃ vs:List Value,x = .agg vs.toArray/\Ae (Rd S w ρ) vs ds:=by
 cases h with | agg h=>exact⟨_,rfl,h⟩
theorem RdA.exact_inv {x y:Value} (h:RdA S w ρ x (.d (.p (.v y)))):x=y:=by
 cases h with | d h=>cases h with | p h=>exact h.v_form
end
inductive Res where
 | box (t:TypeId) (cells:List D)
 | sl (e:TypeId) (size:Nat) (rows:List (List Pd))
 | zsl (e:TypeId) (size:Nat) (rows:List (List Pd))
 | dsl (e:TypeId) (size:Nat) (g:Nat)
 | gh (size:Nat) (tys:List (TypeId×Nat)) (rows:List (List Pd)) (hole:Option (Nat×Nat))
 | non
 deriving Inhabited
def Blk (w:World) (b:Nat) (vs:Array Value) (e:TypeId):Prop:=∃ fr:Nat×Nat,w.heap[b]? = some (.cells vs e fr)/\(fr.1=fr.2\/vs.size<=fr.1)
theorem Blk.of {w:World} {b:Nat} {vs:Array Value} {e:TypeId} (h:w.heap[b]? = some (.cells vs e (0,0))):Blk w b vs e:=⟨_,h,.inl rfl⟩
theorem Blk.mono {w w':World} {b:Nat} {vs:Array Value} {e:TypeId} (h:Blk w b vs e) (hf:w'.heap[b]? = w.heap[b]?):Blk w' b vs e:=by
 obtain⟨fr,h1,h2⟩:=h
 exact⟨fr,by rw [hf];exact h1,h2⟩
def L4 (S:Nat->Prop) (w:World) (e:TypeId) (size:Nat) (rows:List (List Pd)) (h:Value):Prop:=
 (h = .slice none 0 0/\rows=[]) \/
  ∃ b o cap vs,h = .slice (some ⟨b,o,none⟩) rows.length cap/\Blk w b vs e/\rows.length<=cap/\cap<=maxLen/\o+cap*size<=vs.size /\
   (∀ row,row∈rows->row.length=size) /\
   ∀ (i:Nat) row,rows[i]? = some row->∀ (j:Nat) d,row[j]? = some d->∃ x,vs[o+i*size+j]? = some x/\RdP S w x d
def N3:Value->Prop
 | .slice (some _) _ _=>False
 | _=>True
def Zh (x:Value):Pd->Prop
 | .v y=>x=y/\y.oneCell'=true/\N3 y
 | .s r=>x = .slice none 0 0/\r=[]
def zOk (w:World) (e:TypeId) (size:Nat) (rows:List (List Pd)) (h:Value):Prop:=
 (h = .slice none 0 0/\rows=[]) \/
  ∃ b o cap vs,h = .slice (some ⟨b,o,none⟩) rows.length cap/\w.heap[b]? = some (.cells vs e (0,0))/\rows.length<=cap/\cap<=maxLen/\o+cap*size<=vs.size /\
   (∀ row,row∈rows->row.length=size) /\
   ∀ (i:Nat) row,rows[i]? = some row->∀ (j:Nat) d,row[j]? = some d->∃ x,vs[o+i*size+j]? = some x/\Zh x d
def C2 (size:Nat) (hole:Option (Nat×Nat)) (k:Nat):Prop:=∃ p,hole=some p/\k=p.1*size+p.2
def Uj (S:Nat->Prop) (w:World) (tys:List (TypeId×Nat)) (j:Nat) (hl:Prop) (x:Value):Pd->Prop
 | .v y=>x=y/\y.oneCell'=true/\N3 y
 | .s r=>x.oneCell'=true/\(¬hl->∃ e s,tys[j]? = some (e,s)/\L4 S w e s r x)
def gOk (S:Nat->Prop) (w:World) (size:Nat) (tys:List (TypeId×Nat)) (rows:List (List Pd)) (hole:Option (Nat×Nat)) (xs:Array Value):Prop:=
 (∀ row,row∈rows->row.length=size)/\xs.size=rows.length*size /\
 (∀ (i:Nat) row,rows[i]? = some row->∀ (j:Nat) d,row[j]? = some d->∃ x,xs[i*size+j]? = some x/\Uj S w tys j (C2 size hole (i*size+j)) x d) /\
 ∀ (k1 k2:Nat) a1 n1 c1 a2 n2 c2,k1≠k2->¬C2 size hole k1->¬C2 size hole k2->xs[k1]? = some (.slice (some a1) n1 c1)->xs[k2]? = some (.slice (some a2) n2 c2)->a1.block≠a2.block
def Res.ok0 (S : Nat -> Prop) (w : World) (ρ : List Value) (h : Value) : Res -> Prop
 | .box t cells=>∃ b vs,h = .pointer (some ⟨b,0,none⟩)/\w.heap[b]? = some (.cells vs t (0,0))/\Ae (Rd S w ρ) vs.toList cells
 | .sl e size rows=>L4 S w e size rows h
 | .zsl e size rows=>zOk w e size rows h
 | .dsl e size g=>∃ f xs cs,ρ[g]? = some (.func f xs cs)/\((h = .slice none 0 0/\xs.size=0) \/
   ∃ b o len cap vs,h = .slice (some ⟨b,o,none⟩) len cap/\w.heap[b]? = some (.cells vs e (0,0))/\len<=cap/\cap<=maxLen/\o+cap*size<=vs.size/\xs.size=len*size /\
    ∀ (k:Nat) x,xs[k]? = some x->vs[o+k]? = some x)
 | .gh size tys rows hole=>∃ f xs cs,h = .func f xs cs/\gOk S w size tys rows hole xs
 | .non=>True
def Res.ok (S:Nat->Prop) (w:World) (ρ:List Value) (h:Value) (r:Res):Prop:=h.oneCell'=false\/r.ok0 S w ρ h
theorem Res.ok.live {S:Nat->Prop} {w:World} {ρ:List Value} {h:Value} {r:Res} (k:r.ok S w ρ h) (h1:h.oneCell'=true):r.ok0 S w ρ h:=by
 rcases k with k | k
 ·rw [h1] at k;cases k
 ·exact k
def Cn (h:Value) (b:Nat):Prop:=match h with
 | .slice (some a) _ _=>a.block=b
 | _=>False
def Res.foot (h:Value) (r:Res) (b:Nat):Prop:=match r with
 | .box ..=>match h with
  | .pointer (some a)=>a.block=b
  | _=>False
 | .sl ..=>match h with
  | .slice (some a) _ _=>a.block=b
  | _=>False
 | .zsl ..=>Cn h b
 | .dsl ..=>Cn h b
 | .gh size _ _ hole=>match h with
  | .func _ xs _=>∃ (k:Nat) (x:Value),xs[k]? = some x/\¬C2 size hole k/\Cn x b
  | _=>False
 | .non=>False
section
variable {S S':Nat->Prop} {w w':World} {ρ ρ':List Value}
theorem c8 {r:Res} {h:Value} (hd:h.oneCell'=false) (b:Nat):¬r.foot h b:=by
 intro hf
 cases h <;> first | (cases r <;> exact hf) | cases hd
theorem L4.mono {e size:Nat} {rows:List (List Pd)} {h:Value} (k:L4 S w e size rows h) (hS:∀ b,S b->S' b) (hw:∀ b,S b->w'.heap[b]? = w.heap[b]?)
  (hf:∀ b,Cn h b->w'.heap[b]? = w.heap[b]?):L4 S' w' e size rows h:=by
 rcases k with h0 | ⟨b,o,cap,vs,rfl,hb,h1,h2,h3,h4,h5⟩
 ·exact .inl h0
 ·refine .inr ⟨b,o,cap,vs,rfl,hb.mono (hf b rfl),h1,h2,h3,h4,λ i row hi j d hj=>?_⟩
  obtain⟨x,hx,hr⟩:=h5 i row hi j d hj
  exact⟨x,hx,hr.mono hS hw⟩
theorem gOk.mono {size:Nat} {tys:List (TypeId×Nat)} {rows:List (List Pd)} {hole:Option (Nat×Nat)} {xs:Array Value} (k:gOk S w size tys rows hole xs) (hS:∀ b,S b->S' b) (hw:∀ b,S b->w'.heap[b]? = w.heap[b]?)
  (hf:∀ b,(∃ (k:Nat) (x:Value),xs[k]? = some x/\¬C2 size hole k/\Cn x b)->w'.heap[b]? = w.heap[b]?):gOk S' w' size tys rows hole xs:=by
 obtain⟨k1,k2,k3,k4⟩:=k
 refine⟨k1,k2,λ i row hi j d hj=>?_,k4⟩
 obtain⟨x,hx,hg⟩:=k3 i row hi j d hj
 refine⟨x,hx,?_⟩
 cases d with
 | v y=>exact hg
 | s r=>
  refine⟨hg.1,λ hn=>?_⟩
  obtain⟨e,s,h1,h2⟩:=hg.2 hn
  exact⟨e,s,h1,h2.mono hS hw λ b hb=>hf b ⟨_,x,hx,hn,hb⟩⟩
theorem Res.ok0.monoA {r:Res} {h:Value} (k:r.ok0 S w ρ h) (hS:∀ b,S b->S' b) (hw:∀ b,S b->w'.heap[b]? = w.heap[b]?) (hρ:Ho ρ ρ')
  (hf:∀ b,r.foot h b->w'.heap[b]? = w.heap[b]?):r.ok0 S' w' ρ' h:=by
 cases r with
 | box t cells=>
  obtain⟨b,vs,rfl,hb,hc⟩:=k
  exact⟨b,vs,rfl,by rw [hf b rfl];exact hb,hc.mono λ _ _ h=>h.monoA hS hw hρ⟩
 | sl e size rows=>exact L4.mono k hS hw λ b hb=>hf b hb
 | zsl e size rows=>
  rcases k with h0 | ⟨b,o,cap,vs,rfl,hb,h1⟩
  ·exact .inl h0
  ·exact .inr ⟨b,o,cap,vs,rfl,by rw [hf b rfl];exact hb,h1⟩
 | dsl e size g=>
  obtain⟨f,xs,cs,hg,k⟩:=k
  refine⟨f,xs,cs,hρ _ _ hg rfl,?_⟩
  rcases k with h0 | ⟨b,o,len,cap,vs,rfl,hb,h1⟩
  ·exact .inl h0
  ·exact .inr ⟨b,o,len,cap,vs,rfl,by rw [hf b rfl];exact hb,h1⟩
 | gh size tys rows hole=>
  obtain⟨f,xs,cs,rfl,k⟩:=k
  exact⟨f,xs,cs,rfl,k.mono hS hw λ b hb=>hf b hb⟩
 | non=>trivial
theorem Res.ok.monoA {r:Res} {h:Value} (k:r.ok S w ρ h) (hS:∀ b,S b->S' b) (hw:∀ b,S b->w'.heap[b]? = w.heap[b]?) (hρ:Ho ρ ρ')
  (hf:∀ b,r.foot h b->w'.heap[b]? = w.heap[b]?):r.ok S' w' ρ' h:=k.imp id λ k=>k.monoA hS hw hρ hf
theorem Res.ok.mono {r:Res} {h:Value} (k:r.ok S w ρ h) (hS:∀ b,S b->S' b) (hw:∀ b,S b->w'.heap[b]? = w.heap[b]?) (hρ:Pre ρ ρ')
  (hf:∀ b,r.foot h b->w'.heap[b]? = w.heap[b]?):r.ok S' w' ρ' h:=k.monoA hS hw hρ.a hf
end
structure Ctx where
 w:World
 S:Nat->Prop
 F:Nat->Prop
 h:List Value
 df:List Deferred
def N8:Nat->Option (List Pd):=λ g=>match g with | 3=>some ((List.range 20).map λ i=>Pd.v (.int .u64 ((10 ^ i:Nat):Int))) | _=>none
def Ws:Nat->Bool:=λ g=>Nat.beq g 1 || Nat.beq g 2
def Dn (S:Nat->Prop) (w:World):Prop:=(∀ (g:Nat) cells,N8 g=some cells->Co S w ⟨g,0,none⟩ cells/\S g/\∃ vs t fr,w.heap[g]? = some (.cells vs t fr)/\vs.size=cells.length) /\
 ∀ g,Ws g=true->S g/\∃ u p t fr,w.heap[g]? = some (.cells #[.iface u p] t fr)
theorem Dn.mono {S S':Nat->Prop} {w w':World} (h:Dn S w) (hS:∀ b,S b->S' b) (hw:∀ b,S b->w'.heap[b]? = w.heap[b]?):Dn S' w':=⟨λ g cells hg=>by
 obtain⟨h1,h2,h3⟩:=h.1 g cells hg
 exact⟨h1.mono hS hw,hS _ h2,by rw [hw _ h2];exact h3⟩,λ g hg=>by
 obtain⟨h1,h2⟩:=h.2 g hg
 exact⟨hS _ h1,by rw [hw _ h1];exact h2⟩⟩
def uZ (C:Ctx):Prop:=∀ d,d∈C.df->∃ D,d={target:=.collected D,args:=#[]}/\D<C.w.heap.size/\¬C.F D/\¬C.S D/\C.w.heap[D]? = some (.deferred (some []))
def yL (C:Ctx):Prop:=Dn C.S C.w/\(∀ b,C.S b->b<C.w.heap.size/\¬C.F b)/\uZ C
structure Inv (C:Ctx) (S:Nat->Prop) (w:World) (ρ:List Value) (R:List Res):Prop where
 len:ρ.length=R.length
 ok:∀ (i:Nat) r h,R[i]? = some r->ρ[i]? = some h->r.ok S w ρ h
 dis:∀ (i j:Nat) r r' h h' b,i≠j->R[i]? = some r->R[j]? = some r'->ρ[i]? = some h->ρ[j]? = some h'->r.foot h b->r'.foot h' b->False
 own:∀ (i:Nat) r h b,R[i]? = some r->ρ[i]? = some h->r.foot h b->¬S b/\b<w.heap.size/\(C.F b\/C.w.heap.size<=b)
 sub:∀ b,C.S b->S b
 sup:∀ b,S b->b<w.heap.size/\(C.S b\/C.F b\/C.w.heap.size<=b)
 frm:∀ b,b<C.w.heap.size->¬C.F b->w.heap[b]? = C.w.heap[b]?
 size:C.w.heap.size<=w.heap.size
 os:w.os=C.w.os
 tape:w.tape=C.w.tape
 output:w.output=C.w.output
 pre:Pre C.h ρ
 gl:yL C
def Gw (ρ:List Value) (R:List Res) (b:Nat):Prop:=∃ (i:Nat) (r:Res) (h:Value),R[i]? = some r/\ρ[i]? = some h/\r.foot h b
structure Start (S:Nat->Prop) (w:World) (ρ:List Value) (R:List Res):Prop where
 len:ρ.length=R.length
 ok:∀ (i:Nat) r h,R[i]? = some r->ρ[i]? = some h->r.ok S w ρ h
 dis:∀ (i j:Nat) r r' h h' b,i≠j->R[i]? = some r->R[j]? = some r'->ρ[i]? = some h->ρ[j]? = some h'->r.foot h b->r'.foot h' b->False
 own:∀ (i:Nat) r h b,R[i]? = some r->ρ[i]? = some h->r.foot h b->¬S b/\b<w.heap.size
 sup:∀ b,S b->b<w.heap.size
 gl:Dn S w
theorem Start.inv {S:Nat->Prop} {w:World} {ρ:List Value} {R:List Res} (h:Start S w ρ R):Inv ⟨w,S,Gw ρ R,ρ,[]⟩ S w ρ R where
 len:=h.len
 ok:=h.ok
 dis:=h.dis
 own i r v b h1 h2 h3:=⟨(h.own i r v b h1 h2 h3).1,(h.own i r v b h1 h2 h3).2,.inl ⟨i,r,v,h1,h2,h3⟩⟩
 sub _ h:=h
 sup b hb:=⟨h.sup b hb,.inl hb⟩
 frm _ _ _:=rfl
 size:=ae _
 os:=rfl
 tape:=rfl
 output:=rfl
 pre:=Pre.refl _
 gl:=⟨h.gl,λ b hb=>⟨h.sup b hb,λ ⟨i,r,v,h1,h2,h3⟩=>(h.own i r v b h1 h2 h3).1 hb⟩,λ d hd=>by cases hd⟩
def CallOk (P:Program) (f:FuncId) (args:List AV) (R:List Res) (res:AV) (R2:List Res):Prop:=
 ∀ (S:Nat->Prop) (w:World) (ρ:List Value) (vs:List Value),Start S w ρ R->Ae (RdA S w ρ) vs args ->
  Calls P f vs.toArray w λ e w'=>∃ v S' ρ',e = .returned v/\RdA S' w' ρ' v res/\Inv ⟨w,S,Gw ρ R,ρ,[]⟩ S' w' ρ' R2
section
variable {C:Ctx} {S S':Nat->Prop} {w w':World} {ρ ρ':List Value} {R R2:List Res}
theorem Inv.grow (h:Inv C S w ρ R) (hS:∀ b,S b->S' b) (hnew:∀ b,S' b->S b\/w.heap.size<=b/\b<w'.heap.size) (hw:∀ b,b<w.heap.size->w'.heap[b]? = w.heap[b]?)
  (hsz:w.heap.size<=w'.heap.size) (ho:w'.os=w.os) (ht:w'.tape=w.tape) (hp:w'.output=w.output):Inv C S' w' ρ R where
 len:=h.len
 ok i r v h1 h2:=(h.ok i r v h1 h2).mono hS (λ b hb=>hw b (h.sup b hb).1) (Pre.refl _) (λ b hb=>hw b (h.own i r v b h1 h2 hb).2.1)
 dis:=h.dis
 own i r v b h1 h2 h3:=by
  obtain⟨k1,k2,k3⟩:=h.own i r v b h1 h2 h3
  refine⟨λ hb=>?_,aF k2 hsz,k3⟩
  rcases hnew b hb with h | h
  ·exact k1 h
  ·omega
 sub b hb:=hS b (h.sub b hb)
 sup b hb:=by
  rcases hnew b hb with hb | hb
  ·obtain⟨k1,k2⟩:=h.sup b hb
   exact⟨aF k1 hsz,k2⟩
  ·exact⟨hb.2,.inr (.inr (aH h.size hb.1))⟩
 frm b hb hf:=(hw b (aF hb h.size)).trans (h.frm b hb hf)
 size:=aH h.size hsz
 os:=ho.trans h.os
 tape:=ht.trans h.tape
 output:=hp.trans h.output
 pre:=h.pre
 gl:=h.gl
theorem Inv.glOk (h:Inv C S w ρ R):Dn S w:=h.gl.1.mono h.sub λ b hb=>h.frm b (h.gl.2.1 b hb).1 (h.gl.2.1 b hb).2
end
end Go.SL
