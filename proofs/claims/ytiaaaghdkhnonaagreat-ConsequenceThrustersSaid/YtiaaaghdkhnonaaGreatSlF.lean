import Derived.WalkKit
import Derived.ProofKit
import Derived.OpenShut
namespace Go.SL
theorem dE:type_of% @decide_eq_true_eq:=@decide_eq_true_eq
theorem dF:type_of% @decide_eq_false_iff_not:=@decide_eq_false_iff_not
theorem dG:type_of% @beq_iff_eq:=@beq_iff_eq
theorem dH:type_of% @beq_eq_false_iff_ne:=@beq_eq_false_iff_ne
theorem dJ:type_of% @decide_eq_true:=@decide_eq_true
theorem dK:type_of% @decide_eq_false:=@decide_eq_false
theorem dL:type_of% @bne_eq_false_iff_eq:=@bne_eq_false_iff_eq
theorem dM:type_of% @bne_self_eq_false:=@bne_self_eq_false
theorem dN:type_of% @of_decide_eq_true:=@of_decide_eq_true
theorem aa:type_of% @List.getElem?_eq_some_iff:=@List.getElem?_eq_some_iff
theorem ab:type_of% @Bool.and_eq_true:=@Bool.and_eq_true
theorem ac:type_of% @Option.bind_some:=@Option.bind_some
theorem ae:type_of% @List.mem_of_getElem?:=@List.mem_of_getElem?
theorem af:type_of% @Nat.le_refl:=@Nat.le_refl
theorem ag:type_of% @List.mem_cons:=@List.mem_cons
theorem ah:type_of% @Option.some.injEq:=@Option.some.injEq
theorem ai:type_of% @List.getElem?_eq_getElem:=@List.getElem?_eq_getElem
theorem aj:type_of% @Nat.eq_of_beq_eq_true:=@Nat.eq_of_beq_eq_true
theorem ak:type_of% @List.mem_cons_self:=@List.mem_cons_self
theorem al:type_of% @List.mem_cons_of_mem:=@List.mem_cons_of_mem
theorem am:type_of% @List.mem_append:=@List.mem_append
theorem an:type_of% @List.getElem?_take:=@List.getElem?_take
theorem ao:type_of% @List.mem_map:=@List.mem_map
theorem aq:type_of% @Prod.mk.injEq:=@Prod.mk.injEq
theorem ar:type_of% @List.getElem?_drop:=@List.getElem?_drop
theorem au:type_of% @List.length_map:=@List.length_map
theorem aw:type_of% @Nat.le_trans:=@Nat.le_trans
theorem ax:type_of% @List.mem_filter:=@List.mem_filter
theorem ay:type_of% @List.getElem?_set:=@List.getElem?_set
theorem az:type_of% @List.getElem?_map:=@List.getElem?_map
theorem aA:type_of% @Bool.or_eq_true:=@Bool.or_eq_true
theorem aB:type_of% @List.take_length:=@List.take_length
theorem aC:type_of% @List.mem_singleton:=@List.mem_singleton
theorem aD:type_of% @List.getElem?_append_left:=@List.getElem?_append_left
theorem aE:type_of% @Int.toNat_natCast:=@Int.toNat_natCast
theorem aF:type_of% @List.length_append:=@List.length_append
theorem aG:type_of% @Nat.add_mul:=@Nat.add_mul
theorem aH:type_of% @List.all_eq_true:=@List.all_eq_true
theorem aI:type_of% @Nat.zero_add:=@Nat.zero_add
theorem aJ:type_of% @Nat.le_succ:=@Nat.le_succ
theorem aK:type_of% @Nat.lt_of_lt_of_le:=@Nat.lt_of_lt_of_le
theorem aL:type_of% @List.length_cons:=@List.length_cons
theorem aM:type_of% @Array.getD_eq_getD_getElem?:=@Array.getD_eq_getD_getElem?
theorem aN:type_of% @Nat.lt_or_ge:=@Nat.lt_or_ge
theorem aO:type_of% @Array.getElem?_eq_some_iff:=@Array.getElem?_eq_some_iff
theorem aP:type_of% @List.pairwise_cons:=@List.pairwise_cons
theorem aQ:type_of% @List.getElem?_append_right:=@List.getElem?_append_right
theorem aR:type_of% @Bool.not_true:=@Bool.not_true
theorem aS:type_of% @List.length_take:=@List.length_take
theorem aT:type_of% @List.filter_cons:=@List.filter_cons
theorem aU:type_of% @Option.map_some:=@Option.map_some
theorem aV:type_of% @Bool.false_or:=@Bool.false_or
theorem aW:type_of% @List.length_filter_le:=@List.length_filter_le
theorem aX:type_of% @Bool.not_eq_true':=@Bool.not_eq_true'
theorem aY:type_of% @List.mem_range:=@List.mem_range
theorem aZ:type_of% @List.append_nil:=@List.append_nil
theorem ba:type_of% @List.foldl_append:=@List.foldl_append
theorem bc:type_of% @Option.some.inj:=@Option.some.inj
theorem be:type_of% @Array.getElem?_eq_getElem:=@Array.getElem?_eq_getElem
theorem bf:type_of% @List.mem_append_left:=@List.mem_append_left
theorem bg:type_of% @List.map_congr_left:=@List.map_congr_left
theorem bh:type_of% @Nat.mul_le_mul_right:=@Nat.mul_le_mul_right
theorem bi:type_of% @List.mem_append_right:=@List.mem_append_right
theorem bj:type_of% @Nat.add_assoc:=@Nat.add_assoc
theorem bk:type_of% @List.mem_of_mem_take:=@List.mem_of_mem_take
theorem bm:type_of% @Bool.false_eq_true:=@Bool.false_eq_true
theorem bn:type_of% @List.length_set:=@List.length_set
theorem bo:type_of% @List.eq_nil_of_length_eq_zero:=@List.eq_nil_of_length_eq_zero
theorem bp:type_of% @Nat.blt_eq:=@Nat.blt_eq
theorem bq:type_of% @Nat.le_of_ble_eq_true:=@Nat.le_of_ble_eq_true
theorem bt:type_of% @List.getElem?_set_ne:=@List.getElem?_set_ne
theorem bu:type_of% @List.filter_append:=@List.filter_append
theorem bv:type_of% @Bool.true_and:=@Bool.true_and
theorem bw:type_of% @List.map_cons:=@List.map_cons
theorem bx:type_of% @Nat.add_zero:=@Nat.add_zero
theorem bz:type_of% @Bool.or_eq_false_iff:=@Bool.or_eq_false_iff
theorem bA:type_of% @List.foldl_cons:=@List.foldl_cons
theorem bB:type_of% @List.append_assoc:=@List.append_assoc
theorem bC:type_of% @List.ext_getElem?:=@List.ext_getElem?
theorem bD:type_of% @List.getElem?_set_self:=@List.getElem?_set_self
theorem bE:type_of% @List.length_nil:=@List.length_nil
theorem bF:type_of% @Int.toNat_of_nonneg:=@Int.toNat_of_nonneg
theorem bG:type_of% @Bool.and_true:=@Bool.and_true
theorem bH:type_of% @Nat.zero_le:=@Nat.zero_le
theorem bI:type_of% @List.getElem?_of_mem:=@List.getElem?_of_mem
theorem bJ:type_of% @List.map_append:=@List.map_append
theorem bK:type_of% @Option.getD_some:=@Option.getD_some
theorem bL:type_of% @Nat.lt_trichotomy:=@Nat.lt_trichotomy
theorem bM:type_of% @List.drop_drop:=@List.drop_drop
theorem bN:type_of% @Bool.and_eq_true_iff:=@Bool.and_eq_true_iff
theorem bO:type_of% @List.flatten_cons:=@List.flatten_cons
theorem bP:type_of% @Bool.eq_iff_iff:=@Bool.eq_iff_iff
theorem bQ:type_of% @List.Pairwise.nil:=@List.Pairwise.nil
theorem bS:type_of% @List.pairwise_iff_getElem:=@List.pairwise_iff_getElem
theorem bT:type_of% @List.take_append_drop:=@List.take_append_drop
theorem bU:type_of% @Option.map_eq_some_iff:=@Option.map_eq_some_iff
theorem bV:type_of% @List.of_mem_zip:=@List.of_mem_zip
theorem bW:type_of% @List.getElem?_range:=@List.getElem?_range
theorem bX:type_of% @List.mem_of_mem_drop:=@List.mem_of_mem_drop
theorem bY:type_of% @List.size_toArray:=@List.size_toArray
theorem bZ:type_of% @Array.getElem?_toList:=@Array.getElem?_toList
theorem b9:type_of% @List.getElem?_append:=@List.getElem?_append
theorem cd:type_of% @Nat.one_mul:=@Nat.one_mul
theorem ce:type_of% @List.length_drop:=@List.length_drop
theorem cf:type_of% @List.eq_of_mem_replicate:=@List.eq_of_mem_replicate
theorem cg:type_of% @Array.getElem?_replicate:=@Array.getElem?_replicate
theorem ch:type_of% @Bool.and_eq_false_iff:=@Bool.and_eq_false_iff
theorem ci:type_of% @List.any_eq_false:=@List.any_eq_false
theorem cj:type_of% @List.zip_cons_cons:=@List.zip_cons_cons
theorem ck:type_of% @List.range_succ:=@List.range_succ
theorem cm:type_of% @Bool.eq_false_iff:=@Bool.eq_false_iff
theorem cq:type_of% @Bool.and_self:=@Bool.and_self
theorem cr:type_of% @List.getElem_of_mem:=@List.getElem_of_mem
theorem cu:type_of% @List.take_of_length_le:=@List.take_of_length_le
theorem cv:type_of% @List.getElem?_cons_succ:=@List.getElem?_cons_succ
theorem cw:type_of% @Nat.min_eq_left:=@Nat.min_eq_left
theorem cy:type_of% @Array.length_toList:=@Array.length_toList
theorem cz:type_of% @List.map_take:=@List.map_take
theorem cC:type_of% @List.filter_eq_self:=@List.filter_eq_self
theorem cD:type_of% @List.mem_or_eq_of_mem_set:=@List.mem_or_eq_of_mem_set
theorem cE:type_of% @List.flatten_append:=@List.flatten_append
theorem cF:type_of% @Int.tdiv_eq_ediv_of_nonneg:=@Int.tdiv_eq_ediv_of_nonneg
theorem cG:type_of% @List.findIdx?_eq_some_iff_getElem:=@List.findIdx?_eq_some_iff_getElem
theorem cH:type_of% @List.take_append_of_le_length:=@List.take_append_of_le_length
theorem cI:type_of% @List.isEmpty_iff:=@List.isEmpty_iff
theorem cJ:type_of% @List.getElem?_eq_none:=@List.getElem?_eq_none
theorem cK:type_of% @List.filter_eq_nil_iff:=@List.filter_eq_nil_iff
theorem cL:type_of% @Bool.not_eq_false':=@Bool.not_eq_false'
theorem cM:type_of% @List.find?_cons:=@List.find?_cons
theorem cN:type_of% @Option.bind_eq_some_iff:=@Option.bind_eq_some_iff
theorem cO:type_of% @List.getD_eq_getElem?_getD:=@List.getD_eq_getElem?_getD
theorem cP:type_of% @Array.getElem?_append_left:=@Array.getElem?_append_left
theorem cQ:type_of% @List.getElem?_toArray:=@List.getElem?_toArray
theorem cR:type_of% @Array.getElem?_setIfInBounds:=@Array.getElem?_setIfInBounds
theorem cS:type_of% @List.findIdx?_eq_none_iff:=@List.findIdx?_eq_none_iff
inductive Pd where
 | v (x:Value)
 | s (rows:List (List Pd))
 deriving Inhabited
theorem Gz (a:Addr) (n:Nat):(a.add n).block=a.block:=by unfold Addr.add;split <;> rfl
theorem Ug (a:Addr):a.add 0=a:=by simp [Addr.add]
theorem P8 (a:Addr) (i j:Nat):(a.add i).add j=a.add (i+j):=by
 unfold Addr.add
 grind
theorem Cx (b o n:Nat):(⟨b,o,none⟩:Addr).add n=⟨b,o+n,none⟩:=by
 unfold Addr.add;split <;> simp_all
inductive RdP (S:Nat->Prop) (w:World):Value->Pd->Prop
 | v (x:Value) (h:x.oneCell'=true):RdP S w x (.v x)
 | s (a:Option Addr) (ad:Addr) (cap size:Nat) (rows:List (List Pd)) (xs:Nat->Nat->Value)
   (hc:rows.length<=cap) (hm:cap<=maxLen) (hz:a=none->cap=0)
   (hsz:∀ row,row∈rows->row.length=size)
   (hx:∀ (i:Nat) row,rows[i]? = some row->∀ (j:Nat) d,row[j]? = some d->a=some ad/\S ad.block/\w.cell? (ad.add (i*size+j))=some (xs i j))
   (hr:∀ (i:Nat) row,rows[i]? = some row->∀ (j:Nat) d,row[j]? = some d->RdP S w (xs i j) d) :
   RdP S w (.slice a rows.length cap) (.s rows)
section
variable {S S':Nat->Prop} {w w':World}
theorem yI {ad:Addr} {n:Nat} (hw:w'.heap[ad.block]? = w.heap[ad.block]?):w'.cell? (ad.add n)=w.cell? (ad.add n):=
 World.cell?_of_block (by rw [Gz];exact hw)
theorem RdP.mono {x:Value} {d:Pd} (h:RdP S w x d) (hS:∀ b,S b->S' b) (hw:∀ b,S b->w'.heap[b]? = w.heap[b]?):RdP S' w' x d:=by
 induction h with
 | v x h=>exact .v x h
 | s a ad cap size rows xs hc hm hz hsz hx hr ih=>
  refine .s a ad cap size rows xs hc hm hz hsz (λ i row hi j d hj=>?_) (λ i row hi j d hj=>ih i row hi j d hj)
  obtain⟨h1,h2,h3⟩:=hx i row hi j d hj
  exact⟨h1,hS _ h2,by rw [yI (hw _ h2)];exact h3⟩
theorem RdP.one {x:Value} {d:Pd} (h:RdP S w x d):x.oneCell'=true:=by
 cases h with
 | v x h=>exact h
 | s=>rfl
def E1 (S:Nat->Prop) (w:World) (ad:Addr) (ds:List Pd):Prop:=
 ∀ (j:Nat) d,ds[j]? = some d->∃ x,S ad.block/\w.cell? (ad.add j)=some x/\RdP S w x d
theorem E1.mono {ad:Addr} {ds:List Pd} (h:E1 S w ad ds) (hS:∀ b,S b->S' b) (hw:∀ b,S b->w'.heap[b]? = w.heap[b]?):E1 S' w' ad ds:=by
 intro j d hj
 obtain⟨x,h1,h2,h3⟩:=h j d hj
 exact⟨x,hS _ h1,by rw [yI (hw _ h1)];exact h2,h3.mono hS hw⟩
theorem E1.drop {ad:Addr} {ds:List Pd} (h:E1 S w ad ds) (k:Nat):E1 S w (ad.add k) (ds.drop k):=by
 intro j d hj
 rw [ar] at hj
 obtain⟨x,h1,h2,h3⟩:=h _ d hj
 exact⟨x,by rw [Gz];exact h1,by rw [P8];exact h2,h3⟩
theorem E1.take {ad:Addr} {ds:List Pd} (h:E1 S w ad ds) (k:Nat):E1 S w ad (ds.take k):=by
 intro j d hj
 rw [an] at hj
 split at hj
 ·exact h _ d hj
 ·cases hj
theorem RdP.row {a:Option Addr} {n cap:Nat} {rows:List (List Pd)} (h:RdP S w (.slice a n cap) (.s rows)) {i:Nat} {row:List Pd} (hi:rows[i]? = some row) :
  i<n/\(row≠[]->∃ ad,a=some ad/\E1 S w (ad.add (i*row.length)) row):=by
 cases h with
 | s _ ad _ size _ xs hc hm hz hsz hx hr=>
  have hs:row.length=size:=hsz row (ae hi)
  refine⟨(aa.1 hi).1,λ hne=>?_⟩
  obtain⟨d0,h0⟩:∃ d,row[0]? = some d:=by
   cases row with
   | nil=>exact absurd rfl hne
   | cons d l=>exact⟨d,rfl⟩
  refine⟨ad,(hx i row hi 0 d0 h0).1,λ j d hj=>?_⟩
  obtain⟨_,h2,h3⟩:=hx i row hi j d hj
  exact⟨xs i j,by rw [Gz];exact h2,by rw [P8,hs];exact h3,hr i row hi j d hj⟩
theorem RdP.slice_form {x:Value} {rows:List (List Pd)} (h:RdP S w x (.s rows)):∃ a cap,x = .slice a rows.length cap/\rows.length<=cap/\cap<=maxLen:=by
 cases h with
 | s a ad cap size rows xs hc hm=>exact⟨a,cap,rfl,hc,hm⟩
theorem RdP.v_form {x y:Value} (h:RdP S w x (.v y)):x=y:=by
 cases h;rfl
end
inductive D where
 | p (x:Pd)
 | o (i off:Nat)
 | os (i:Nat)
 | oe (i k size off:Nat)
 | osb (i lo n size:Nat)
 | oi (i g k size off:Nat)
 | ip (cells:List Pd)
 | fn (f:Fn) (first caps:List D)
 | any
 | nq (rows:List (List Pd))
 deriving Inhabited
inductive Rd (S:Nat->Prop) (w:World) (ρ:List Value):Value->D->Prop
 | p {x:Value} {d:Pd} (h:RdP S w x d):Rd S w ρ x (.p d)
 | o {i b off:Nat} (h:ρ[i]? = some (.pointer (some ⟨b,0,none⟩))):Rd S w ρ (.pointer (some ⟨b,off,none⟩)) (.o i off)
 | os {i:Nat} {v:Value} (h:ρ[i]? = some v) (h1:v.oneCell'=true):Rd S w ρ v (.os i)
 | oe {i k size off b o len cap:Nat} (h:ρ[i]? = some (.slice (some ⟨b,o,none⟩) len cap)):Rd S w ρ (.pointer (some ⟨b,o+k*size+off,none⟩)) (.oe i k size off)
 | osb {i lo n size q:Nat} {a:Option Addr} {len cap:Nat} (h:ρ[i]? = some (.slice a len cap)) (hl:lo+n<=len) (hc:lo<=cap) (hq:q<=lo*size) (hq2:lo<cap->q=lo*size):Rd S w ρ (.slice (a.map (·.add q)) n (cap-lo)) (.osb i lo n size)
 | oi {i g k size off:Nat} {f:Fn} {xs cs:Array Value} {v:Value} (h:ρ[g]? = some (.func f xs cs)) (hx:xs[k*size+off]? = some v) (h1:v.oneCell'=true):Rd S w ρ v (.oi i g k size off)
 | ip {ad:Addr} {ds:List Pd} (h:E1 S w ad ds):Rd S w ρ (.pointer (some ad)) (.ip ds)
 | fn {f:Fn} {xs cs:List Value} {first caps:List D} (hl:xs.length=first.length) (hm:cs.length=caps.length)
   (hx:∀ (j:Nat) x d,xs[j]? = some x->first[j]? = some d->Rd S w ρ x d) (hc:∀ (j:Nat) x d,cs[j]? = some x->caps[j]? = some d->Rd S w ρ x d) :
   Rd S w ρ (.func f xs.toArray cs.toArray) (.fn f first caps)
 | any {v:Value} (h1:v.oneCell'=true):Rd S w ρ v .any
 | nq {b:Bool} {rows:List (List Pd)} (h:b=true->rows=[]):Rd S w ρ (.bool b) (.nq rows)
def Pre (ρ ρ':List Value):Prop:=∀ (i:Nat) v,ρ[i]? = some v->ρ'[i]? = some v
theorem Pre.refl (ρ:List Value):Pre ρ ρ:=λ _ _ h=>h
theorem Pre.append (ρ l:List Value):Pre ρ (ρ++l):=λ i v h=>by
 grind
theorem Pre.trans {a b c:List Value} (h:Pre a b) (k:Pre b c):Pre a c:=λ i v e=>k i v (h i v e)
def Pb (ρ ρ':List Value):Prop:=∀ (i:Nat) v,ρ[i]? = some v->v.oneCell'=true->ρ'[i]? = some v
theorem Pre.a {a b:List Value} (h:Pre a b):Pb a b:=λ i v e _=>h i v e
section
variable {S S':Nat->Prop} {w w':World} {ρ ρ':List Value}
theorem Rd.monoA {x:Value} {d:D} (h:Rd S w ρ x d) (hS:∀ b,S b->S' b) (hw:∀ b,S b->w'.heap[b]? = w.heap[b]?) (hρ:Pb ρ ρ'):Rd S' w' ρ' x d:=by
 induction h with
 | p h=>exact .p (h.mono hS hw)
 | o h=>exact .o (hρ _ _ h rfl)
 | os h h1=>exact .os (hρ _ _ h h1) h1
 | oe h=>exact .oe (hρ _ _ h rfl)
 | osb h hl hc hq hq2=>exact .osb (hρ _ _ h rfl) hl hc hq hq2
 | any h1=>exact .any h1
 | nq h=>exact .nq h
 | oi h hx h1=>exact .oi (hρ _ _ h rfl) hx h1
 | ip h=>exact .ip (h.mono hS hw)
 | fn hl hm _ _ ih1 ih2=>exact .fn hl hm ih1 ih2
theorem Rd.mono {x:Value} {d:D} (h:Rd S w ρ x d) (hS:∀ b,S b->S' b) (hw:∀ b,S b->w'.heap[b]? = w.heap[b]?) (hρ:Pre ρ ρ'):Rd S' w' ρ' x d:=h.monoA hS hw hρ.a
theorem Rd.one {x:Value} {d:D} (h:Rd S w ρ x d):x.oneCell'=true:=by
 cases h with
 | p h=>exact h.one
 | os h h1=>exact h1
 | oi h hx h1=>exact h1
 | any h1=>exact h1
 | _=>rfl
end
def A5 {α β:Type} (R:α->β->Prop):List α->List β->Prop
 | [],[]=>True
 | x::xs,d::ds=>R x d/\A5 R xs ds
 | _,_=>False
section
variable {α β:Type} {R R':α->β->Prop}
theorem A5.length:∀ {xs:List α} {ds:List β},A5 R xs ds->xs.length=ds.length
 | [],[],_=>rfl
 | _::_,_::_,h=>by simp [A5.length h.2]
 | [],_::_,h=>h.elim
 | _::_,[],h=>h.elim
theorem A5.mono (hm:∀ x d,R x d->R' x d):∀ {xs:List α} {ds:List β},A5 R xs ds->A5 R' xs ds
 | [],[],_=>trivial
 | _::_,_::_,h=>⟨hm _ _ h.1,A5.mono hm h.2⟩
 | [],_::_,h=>h.elim
 | _::_,[],h=>h.elim
theorem A5.get:∀ {xs:List α} {ds:List β},A5 R xs ds->∀ {j:Nat} {d:β},ds[j]? = some d->∃ x,xs[j]? = some x/\R x d
 | [],[],_,j,d,hj=>by simp at hj
 | x::xs,d'::ds,h,0,d,hj=>by grind [A5]
 | x::xs,d'::ds,h,j+1,d,hj=>by simp at hj ⊢;exact A5.get h.2 hj
 | [],_::_,h,_,_,_=>h.elim
 | _::_,[],h,_,_,_=>h.elim
theorem d4:∀ {xs:List α} {ds:List β},xs.length=ds.length->(∀ (j:Nat) x d,xs[j]? = some x->ds[j]? = some d->R x d)->A5 R xs ds
 | [],[],_,_=>trivial
 | x::xs,d::ds,hl,h=>⟨h 0 x d rfl rfl,d4 (by simpa using hl) (λ j x' d' hx hd=>h (j+1) x' d' (by simpa using hx) (by simpa using hd))⟩
 | [],_::_,hl,_=>by simp at hl
 | _::_,[],hl,_=>by simp at hl
theorem A5.both {xs:List α} {ds:List β} (h:A5 R xs ds) {j:Nat} {x:α} {d:β} (hx:xs[j]? = some x) (hd:ds[j]? = some d):R x d:=by
 obtain⟨x',h1,h2⟩:=h.get hd
 rw [hx] at h1;cases h1;exact h2
theorem A5.append {xs xs':List α} {ds ds':List β} (h:A5 R xs ds) (h':A5 R xs' ds'):A5 R (xs++xs') (ds++ds'):=by
 induction xs generalizing ds with
 | nil=>grind [A5]
 | cons x xs ih=>cases ds with
  | nil=>exact h.elim
  | cons d ds=>exact⟨h.1,ih h.2⟩
theorem A5.take {xs:List α} {ds:List β} (h:A5 R xs ds) (k:Nat):A5 R (xs.take k) (ds.take k):=by
 grind [d4,A5.length,A5.both]
theorem A5.drop {xs:List α} {ds:List β} (h:A5 R xs ds) (k:Nat):A5 R (xs.drop k) (ds.drop k):=by
 grind [d4,A5.length,A5.both]
theorem A5.map_right {γ:Type} {f:γ->β} {R2:α->γ->Prop} {xs:List α} {ds:List γ} (h:A5 R2 xs ds) (hm:∀ x d,R2 x d->R x (f d)):A5 R xs (ds.map f):=by
 grind [d4,A5.length,A5.both]
end
inductive AV where
 | d (x:D)
 | agg (ds:List D)
 | tup (l:List AV)
 deriving Inhabited
inductive RdA (S:Nat->Prop) (w:World) (ρ:List Value):Value->AV->Prop
 | d {x:Value} {y:D} (h:Rd S w ρ x y):RdA S w ρ x (.d y)
 | agg {vs:List Value} {ds:List D} (h:A5 (Rd S w ρ) vs ds):RdA S w ρ (.agg vs.toArray) (.agg ds)
 | tup {vs:List Value} {l:List AV} (hl:vs.length=l.length) (h:∀ (j:Nat) x a,vs[j]? = some x->l[j]? = some a->RdA S w ρ x a):RdA S w ρ (.tuple vs.toArray) (.tup l)
section
variable {S S':Nat->Prop} {w w':World} {ρ ρ':List Value}
theorem RdA.monoA {x:Value} {d:AV} (h:RdA S w ρ x d) (hS:∀ b,S b->S' b) (hw:∀ b,S b->w'.heap[b]? = w.heap[b]?) (hρ:Pb ρ ρ'):RdA S' w' ρ' x d:=by
 induction h with
 | d h=>exact .d (h.monoA hS hw hρ)
 | agg h=>exact .agg (h.mono λ _ _ h=>h.monoA hS hw hρ)
 | tup hl _ ih=>exact .tup hl ih
theorem RdA.mono {x:Value} {d:AV} (h:RdA S w ρ x d) (hS:∀ b,S b->S' b) (hw:∀ b,S b->w'.heap[b]? = w.heap[b]?) (hρ:Pre ρ ρ'):RdA S' w' ρ' x d:=h.monoA hS hw hρ.a
theorem RdA.d_inv {x:Value} {y:D} (h:RdA S w ρ x (.d y)):Rd S w ρ x y:=by cases h;assumption
theorem RdA.agg_inv {x:Value} {ds:List D} (h:RdA S w ρ x (.agg ds)):∃ vs:List Value,x = .agg vs.toArray/\A5 (Rd S w ρ) vs ds:=by
 cases h with | agg h=>exact⟨_,rfl,h⟩
theorem RdA.exact_inv {x y:Value} (h:RdA S w ρ x (.d (.p (.v y)))):x=y:=by
 cases h with | d h=>cases h with | p h=>exact h.v_form
end
inductive Res where
 | box (t:TypeId) (cells:List D)
 | sl (e:TypeId) (size:Nat) (rows:List (List Pd))
 | zsl (e:TypeId) (size:Nat) (rows:List (List Pd))
 | dsl (e:TypeId) (size:Nat) (g:Nat)
 | gh (size:Nat) (tys:List (TypeId×Nat)) (rows:List (List Pd)) (hole:Option (Nat×Nat))
 | non
 | vec (e:TypeId) (cells:List D)
 deriving Inhabited
def Vq:TypeId->Bool:=λ t=>Nat.beq t 5
def Blk (w:World) (b:Nat) (vs:Array Value) (e:TypeId):Prop:=∃ fr:Nat×Nat,w.heap[b]? = some (.cells vs e fr)/\(fr.1=fr.2\/vs.size<=fr.1)/\(Vq e=false->fr=(0,0))
theorem Blk.of {w:World} {b:Nat} {vs:Array Value} {e:TypeId} (h:w.heap[b]? = some (.cells vs e (0,0))):Blk w b vs e:=⟨_,h,.inl rfl,λ _=>rfl⟩
theorem Blk.zero {w:World} {b:Nat} {vs:Array Value} {e:TypeId} (h:Blk w b vs e) (hm:Vq e=false):w.heap[b]? = some (.cells vs e (0,0)):=by
 obtain⟨fr,h1,_,h3⟩:=h
 rw [h1,h3 hm]
theorem Blk.mono {w w':World} {b:Nat} {vs:Array Value} {e:TypeId} (h:Blk w b vs e) (hf:w'.heap[b]? = w.heap[b]?):Blk w' b vs e:=by
 obtain⟨fr,h1,h2⟩:=h
 exact⟨fr,by rw [hf];exact h1,h2⟩
def Nc (S:Nat->Prop) (w:World) (e:TypeId) (size:Nat) (rows:List (List Pd)) (h:Value):Prop:=
 (h = .slice none 0 0/\rows=[]) \/
  ∃ b o cap vs,h = .slice (some ⟨b,o,none⟩) rows.length cap/\Blk w b vs e/\rows.length<=cap/\cap<=maxLen/\o+cap*size<=vs.size /\
   (∀ row,row∈rows->row.length=size) /\
   ∀ (i:Nat) row,rows[i]? = some row->∀ (j:Nat) d,row[j]? = some d->∃ x,vs[o+i*size+j]? = some x/\RdP S w x d
def jA:Value->Prop
 | .slice (some _) _ _=>False
 | _=>True
def Atr (x:Value):Pd->Prop
 | .v y=>x=y/\y.oneCell'=true/\jA y
 | .s r=>x = .slice none 0 0/\r=[]
def zOk (w:World) (e:TypeId) (size:Nat) (rows:List (List Pd)) (h:Value):Prop:=
 (h = .slice none 0 0/\rows=[]) \/
  ∃ b o cap vs,h = .slice (some ⟨b,o,none⟩) rows.length cap/\w.heap[b]? = some (.cells vs e (0,0))/\rows.length<=cap/\cap<=maxLen/\o+cap*size<=vs.size /\
   (∀ row,row∈rows->row.length=size) /\
   ∀ (i:Nat) row,rows[i]? = some row->∀ (j:Nat) d,row[j]? = some d->∃ x,vs[o+i*size+j]? = some x/\Atr x d
def G6 (size:Nat) (hole:Option (Nat×Nat)) (k:Nat):Prop:=∃ p,hole=some p/\k=p.1*size+p.2
def Aiz (S:Nat->Prop) (w:World) (tys:List (TypeId×Nat)) (j:Nat) (hl:Prop) (x:Value):Pd->Prop
 | .v y=>x=y/\y.oneCell'=true/\jA y
 | .s r=>x.oneCell'=true/\(¬hl->∃ e s,tys[j]? = some (e,s)/\Nc S w e s r x)
def gOk (S:Nat->Prop) (w:World) (size:Nat) (tys:List (TypeId×Nat)) (rows:List (List Pd)) (hole:Option (Nat×Nat)) (xs:Array Value):Prop:=
 (∀ row,row∈rows->row.length=size)/\xs.size=rows.length*size /\
 (∀ (i:Nat) row,rows[i]? = some row->∀ (j:Nat) d,row[j]? = some d->∃ x,xs[i*size+j]? = some x/\Aiz S w tys j (G6 size hole (i*size+j)) x d) /\
 ∀ (k1 k2:Nat) a1 n1 c1 a2 n2 c2,k1≠k2->¬G6 size hole k1->¬G6 size hole k2->xs[k1]? = some (.slice (some a1) n1 c1)->xs[k2]? = some (.slice (some a2) n2 c2)->a1.block≠a2.block
def Res.ok0 (S : Nat -> Prop) (w : World) (ρ : List Value) (h : Value) : Res -> Prop
 | .box t cells=>∃ b vs,h = .pointer (some ⟨b,0,none⟩)/\w.heap[b]? = some (.cells vs t (0,0))/\A5 (Rd S w ρ) vs.toList cells
 | .sl e size rows=>Nc S w e size rows h
 | .zsl e size rows=>zOk w e size rows h
 | .dsl e size g=>∃ f xs cs,ρ[g]? = some (.func f xs cs)/\((h = .slice none 0 0/\xs.size=0) \/
   ∃ b o len cap vs,h = .slice (some ⟨b,o,none⟩) len cap/\w.heap[b]? = some (.cells vs e (0,0))/\len<=cap/\cap<=maxLen/\o+cap*size<=vs.size/\xs.size=len*size /\
    ∀ (k:Nat) x,xs[k]? = some x->vs[o+k]? = some x)
 | .gh size tys rows hole=>∃ f xs cs,h = .func f xs cs/\gOk S w size tys rows hole xs
 | .non=>True
 | .vec e cells=>∃ b vs,h = .slice (some ⟨b,0,none⟩) cells.length cells.length/\w.heap[b]? = some (.cells vs e (0,0))/\A5 (Rd S w ρ) vs.toList cells/\cells.length<=maxLen
def Res.ok (S:Nat->Prop) (w:World) (ρ:List Value) (h:Value) (r:Res):Prop:=h.oneCell'=false\/r.ok0 S w ρ h
theorem Res.ok.live {S:Nat->Prop} {w:World} {ρ:List Value} {h:Value} {r:Res} (k:r.ok S w ρ h) (h1:h.oneCell'=true):r.ok0 S w ρ h:=by
 grind [Res.ok]
def El (h:Value) (b:Nat):Prop:=match h with
 | .slice (some a) _ _=>a.block=b
 | _=>False
def Res.foot (h:Value) (r:Res) (b:Nat):Prop:=match r with
 | .box ..=>match h with
  | .pointer (some a)=>a.block=b
  | _=>False
 | .sl ..=>match h with
  | .slice (some a) _ _=>a.block=b
  | _=>False
 | .zsl ..=>El h b
 | .dsl ..=>El h b
 | .gh size _ _ hole=>match h with
  | .func _ xs _=>∃ (k:Nat) (x:Value),xs[k]? = some x/\¬G6 size hole k/\El x b
  | _=>False
 | .non=>False
 | .vec ..=>El h b
section
variable {S S':Nat->Prop} {w w':World} {ρ ρ':List Value}
theorem d6 {r:Res} {h:Value} (hd:h.oneCell'=false) (b:Nat):¬r.foot h b:=by
 intro hf
 cases h <;> first | (cases r <;> exact hf) | cases hd
theorem Nc.mono {e size:Nat} {rows:List (List Pd)} {h:Value} (k:Nc S w e size rows h) (hS:∀ b,S b->S' b) (hw:∀ b,S b->w'.heap[b]? = w.heap[b]?)
  (hf:∀ b,El h b->w'.heap[b]? = w.heap[b]?):Nc S' w' e size rows h:=by
 rcases k with h0 | ⟨b,o,cap,vs,rfl,hb,h1,h2,h3,h4,h5⟩
 ·exact .inl h0
 ·refine .inr ⟨b,o,cap,vs,rfl,hb.mono (hf b rfl),h1,h2,h3,h4,λ i row hi j d hj=>?_⟩
  obtain⟨x,hx,hr⟩:=h5 i row hi j d hj
  exact⟨x,hx,hr.mono hS hw⟩
theorem gOk.mono {size:Nat} {tys:List (TypeId×Nat)} {rows:List (List Pd)} {hole:Option (Nat×Nat)} {xs:Array Value} (k:gOk S w size tys rows hole xs) (hS:∀ b,S b->S' b) (hw:∀ b,S b->w'.heap[b]? = w.heap[b]?)
  (hf:∀ b,(∃ (k:Nat) (x:Value),xs[k]? = some x/\¬G6 size hole k/\El x b)->w'.heap[b]? = w.heap[b]?):gOk S' w' size tys rows hole xs:=by
 obtain⟨k1,k2,k3,k4⟩:=k
 refine⟨k1,k2,λ i row hi j d hj=>?_,k4⟩
 obtain⟨x,hx,hg⟩:=k3 i row hi j d hj
 refine⟨x,hx,?_⟩
 cases d with
 | v y=>exact hg
 | s r=>
  refine⟨hg.1,λ hn=>?_⟩
  obtain⟨e,s,h1,h2⟩:=hg.2 hn
  exact⟨e,s,h1,h2.mono hS hw λ b hb=>hf b ⟨_,x,hx,hn,hb⟩⟩
theorem Res.ok0.monoA {r:Res} {h:Value} (k:r.ok0 S w ρ h) (hS:∀ b,S b->S' b) (hw:∀ b,S b->w'.heap[b]? = w.heap[b]?) (hρ:Pb ρ ρ')
  (hf:∀ b,r.foot h b->w'.heap[b]? = w.heap[b]?):r.ok0 S' w' ρ' h:=by
 cases r with
 | box t cells=>
  obtain⟨b,vs,rfl,hb,hc⟩:=k
  exact⟨b,vs,rfl,by rw [hf b rfl];exact hb,hc.mono λ _ _ h=>h.monoA hS hw hρ⟩
 | sl e size rows=>exact Nc.mono k hS hw λ b hb=>hf b hb
 | zsl e size rows=>
  rcases k with h0 | ⟨b,o,cap,vs,rfl,hb,h1⟩
  ·exact .inl h0
  ·exact .inr ⟨b,o,cap,vs,rfl,by rw [hf b rfl];exact hb,h1⟩
 | dsl e size g=>
  obtain⟨f,xs,cs,hg,k⟩:=k
  refine⟨f,xs,cs,hρ _ _ hg rfl,?_⟩
  rcases k with h0 | ⟨b,o,len,cap,vs,rfl,hb,h1⟩
  ·exact .inl h0
  ·exact .inr ⟨b,o,len,cap,vs,rfl,by rw [hf b rfl];exact hb,h1⟩
 | gh size tys rows hole=>
  obtain⟨f,xs,cs,rfl,k⟩:=k
  exact⟨f,xs,cs,rfl,k.mono hS hw λ b hb=>hf b hb⟩
 | non=>trivial
 | vec e cells=>
  obtain⟨b,vs,rfl,hb,hc,hm⟩:=k
  exact⟨b,vs,rfl,by rw [hf b rfl];exact hb,hc.mono λ _ _ h=>h.monoA hS hw hρ,hm⟩
theorem Res.ok.monoA {r:Res} {h:Value} (k:r.ok S w ρ h) (hS:∀ b,S b->S' b) (hw:∀ b,S b->w'.heap[b]? = w.heap[b]?) (hρ:Pb ρ ρ')
  (hf:∀ b,r.foot h b->w'.heap[b]? = w.heap[b]?):r.ok S' w' ρ' h:=k.imp id λ k=>k.monoA hS hw hρ hf
theorem Res.ok.mono {r:Res} {h:Value} (k:r.ok S w ρ h) (hS:∀ b,S b->S' b) (hw:∀ b,S b->w'.heap[b]? = w.heap[b]?) (hρ:Pre ρ ρ')
  (hf:∀ b,r.foot h b->w'.heap[b]? = w.heap[b]?):r.ok S' w' ρ' h:=k.monoA hS hw hρ.a hf
end
structure Ctx where
 w:World
 S:Nat->Prop
 F:Nat->Prop
 h:List Value
 df:List Deferred
def globTab:Nat->Option (List Pd):=λ _=>none
def globIf:Nat->Bool:=λ _=>false
def Pe (S:Nat->Prop) (w:World):Prop:=(∀ (g:Nat) cells,globTab g=some cells->E1 S w ⟨g,0,none⟩ cells/\S g/\∃ vs t fr,w.heap[g]? = some (.cells vs t fr)/\vs.size=cells.length) /\
 ∀ g,globIf g=true->S g/\∃ u p t fr,w.heap[g]? = some (.cells #[.iface u p] t fr)
theorem Pe.mono {S S':Nat->Prop} {w w':World} (h:Pe S w) (hS:∀ b,S b->S' b) (hw:∀ b,S b->w'.heap[b]? = w.heap[b]?):Pe S' w':=⟨λ g cells hg=>by
 obtain⟨h1,h2,h3⟩:=h.1 g cells hg
 exact⟨h1.mono hS hw,hS _ h2,by rw [hw _ h2];exact h3⟩,λ g hg=>by
 obtain⟨h1,h2⟩:=h.2 g hg
 grind⟩
def Aoa (C:Ctx):Prop:=∀ d,d∈C.df->∃ D,d={target:=.collected D,args:=#[]}/\D<C.w.heap.size/\¬C.F D/\¬C.S D/\C.w.heap[D]? = some (.deferred (some []))
def A25 (C:Ctx):Prop:=Pe C.S C.w/\(∀ b,C.S b->b<C.w.heap.size/\¬C.F b)/\Aoa C
def drw:Bool:=true
def Tp (w w':World):Prop:=w'.tape=w.tape/\(drw=true->w.drawn<=w'.drawn)
theorem Tp.trans {a b c:World} (h:Tp b c) (k:Tp a b):Tp a c:=⟨h.1.trans k.1,λ e=>aw (k.2 e) (h.2 e)⟩
structure Inv (C:Ctx) (S:Nat->Prop) (w:World) (ρ:List Value) (R:List Res):Prop where
 len:ρ.length=R.length
 ok:∀ (i:Nat) r h,R[i]? = some r->ρ[i]? = some h->r.ok S w ρ h
 dis:∀ (i j:Nat) r r' h h' b,i≠j->R[i]? = some r->R[j]? = some r'->ρ[i]? = some h->ρ[j]? = some h'->r.foot h b->r'.foot h' b->False
 own:∀ (i:Nat) r h b,R[i]? = some r->ρ[i]? = some h->r.foot h b->¬S b/\b<w.heap.size/\(C.F b\/C.w.heap.size<=b)
 sub:∀ b,C.S b->S b
 sup:∀ b,S b->b<w.heap.size/\(C.S b\/C.F b\/C.w.heap.size<=b)
 frm:∀ b,b<C.w.heap.size->¬C.F b->w.heap[b]? = C.w.heap[b]?
 size:C.w.heap.size<=w.heap.size
 os:w.os=C.w.os
 tape:Tp C.w w
 output:w.output=C.w.output
 pre:Pre C.h ρ
 gl:A25 C
def Dz (ρ:List Value) (R:List Res) (b:Nat):Prop:=∃ (i:Nat) (r:Res) (h:Value),R[i]? = some r/\ρ[i]? = some h/\r.foot h b
structure Start (S:Nat->Prop) (w:World) (ρ:List Value) (R:List Res):Prop where
 len:ρ.length=R.length
 ok:∀ (i:Nat) r h,R[i]? = some r->ρ[i]? = some h->r.ok S w ρ h
 dis:∀ (i j:Nat) r r' h h' b,i≠j->R[i]? = some r->R[j]? = some r'->ρ[i]? = some h->ρ[j]? = some h'->r.foot h b->r'.foot h' b->False
 own:∀ (i:Nat) r h b,R[i]? = some r->ρ[i]? = some h->r.foot h b->¬S b/\b<w.heap.size
 sup:∀ b,S b->b<w.heap.size
 gl:Pe S w
theorem Start.inv {S:Nat->Prop} {w:World} {ρ:List Value} {R:List Res} (h:Start S w ρ R):Inv ⟨w,S,Dz ρ R,ρ,[]⟩ S w ρ R where
 len:=h.len
 ok:=h.ok
 dis:=h.dis
 own i r v b h1 h2 h3:=⟨(h.own i r v b h1 h2 h3).1,(h.own i r v b h1 h2 h3).2,.inl ⟨i,r,v,h1,h2,h3⟩⟩
 sub _ h:=h
 sup b hb:=⟨h.sup b hb,.inl hb⟩
 frm _ _ _:=rfl
 size:=af _
 os:=rfl
 tape:=⟨rfl,λ _=>af _⟩
 output:=rfl
 pre:=Pre.refl _
 gl:=⟨h.gl,λ b hb=>⟨h.sup b hb,λ ⟨i,r,v,h1,h2,h3⟩=>(h.own i r v b h1 h2 h3).1 hb⟩,λ d hd=>by cases hd⟩
def CallOk (P:Program) (f:FuncId) (args:List AV) (R:List Res) (res:AV) (R2:List Res):Prop:=
 ∀ (S:Nat->Prop) (w:World) (ρ:List Value) (vs:List Value),Start S w ρ R->A5 (RdA S w ρ) vs args ->
  Calls P f vs.toArray w λ e w'=>∃ v S' ρ',e = .returned v/\RdA S' w' ρ' v res/\Inv ⟨w,S,Dz ρ R,ρ,[]⟩ S' w' ρ' R2
section
variable {C:Ctx} {S S':Nat->Prop} {w w':World} {ρ ρ':List Value} {R R2:List Res}
theorem Inv.grow (h:Inv C S w ρ R) (hS:∀ b,S b->S' b) (hnew:∀ b,S' b->S b\/w.heap.size<=b/\b<w'.heap.size) (hw:∀ b,b<w.heap.size->w'.heap[b]? = w.heap[b]?)
  (hsz:w.heap.size<=w'.heap.size) (ho:w'.os=w.os) (ht:Tp w w') (hp:w'.output=w.output):Inv C S' w' ρ R where
 len:=h.len
 ok i r v h1 h2:=(h.ok i r v h1 h2).mono hS (λ b hb=>hw b (h.sup b hb).1) (Pre.refl _) (λ b hb=>hw b (h.own i r v b h1 h2 hb).2.1)
 dis:=h.dis
 own i r v b h1 h2 h3:=by
  obtain⟨k1,k2,k3⟩:=h.own i r v b h1 h2 h3
  grind
 sub b hb:=hS b (h.sub b hb)
 sup b hb:=by
  rcases hnew b hb with hb | hb
  ·obtain⟨k1,k2⟩:=h.sup b hb
   grind
  ·exact⟨hb.2,.inr (.inr (aw h.size hb.1))⟩
 frm b hb hf:=(hw b (aK hb h.size)).trans (h.frm b hb hf)
 size:=aw h.size hsz
 os:=ho.trans h.os
 tape:=ht.trans h.tape
 output:=hp.trans h.output
 pre:=h.pre
 gl:=h.gl
theorem Inv.glOk (h:Inv C S w ρ R):Pe S w:=h.gl.1.mono h.sub λ b hb=>h.frm b (h.gl.2.1 b hb).1 (h.gl.2.1 b hb).2
end
end Go.SL
namespace Go.SL
theorem Dj (w:World) (g:Nat) (cs old:Array Value) (t:TypeId) (fr:Nat×Nat) (h:w.heap[g]? = some (.cells old t fr)) :
  (w.setRow g cs).heap[g]? = some (.cells cs t fr):=by
 simp [World.setRow,Array.getElem?_modify,h]
theorem B8 (w:World) (g k:Nat) (cs:Array Value) (h:k≠g):(w.setRow g cs).heap[k]? = w.heap[k]?:=by
 simp [World.setRow,Array.getElem?_modify,Ne.symm h]
theorem Ik {w:World} {b:Nat} {cs:Array Value} {t:TypeId} {fr:Nat×Nat} (h:w.heap[b]? = some (.cells cs t fr)) (j:Nat):w.cell? ⟨b,j,none⟩=cs[j]?:=
 cell_of_row w b j cs t fr h
theorem Blk.cell {w:World} {b:Nat} {cs:Array Value} {t:TypeId} (h:Blk w b cs t) (j:Nat):w.cell? ⟨b,j,none⟩=cs[j]?:=by
 obtain⟨fr,h1,_⟩:=h
 exact Ik h1 j
theorem Blk.put {w:World} {b:Nat} {cs old:Array Value} {t:TypeId} (h:Blk w b old t) (hs:cs.size=old.size):Blk (w.setRow b cs) b cs t:=by
 obtain⟨fr,h1,h2⟩:=h
 exact⟨fr,Dj _ _ _ _ _ _ h1,h2.1.imp id (λ h=>by omega),h2.2⟩
section
variable {C:Ctx} {S S':Nat->Prop} {w w':World} {ρ ρ':List Value} {R R2:List Res}
theorem Du {α:Type} {l:List α} {x y:α} {i:Nat} (h:(l++[x])[i]? = some y):l[i]? = some y\/i=l.length/\y=x:=by
 grind
theorem Inv.push (h:Inv C S w ρ R) (r:Res) (v:Value) (hw:∀ b,b<w.heap.size->w'.heap[b]? = w.heap[b]?) (hsz:w.heap.size<=w'.heap.size)
  (ho:w'.os=w.os) (ht:Tp w w') (hp:w'.output=w.output) (hok:r.ok S w' (ρ++[v]) v)
  (hf:∀ b,r.foot v b->w.heap.size<=b/\b<w'.heap.size):Inv C S w' (ρ++[v]) (R++[r]) where
 len:=by simp [h.len]
 ok i r' v' h1 h2:=by
  rcases Du h1 with h1 | ⟨rfl,rfl⟩
  ·rcases Du h2 with h2 | ⟨rfl,rfl⟩
   ·exact (h.ok i r' v' h1 h2).mono (λ _ h=>h) (λ b hb=>hw b (h.sup b hb).1) (Pre.append _ _) (λ b hb=>hw b (h.own i r' v' b h1 h2 hb).2.1)
   ·have:=(aa.1 h1).1;rw [h.len] at this;omega
  ·rcases Du h2 with h2 | ⟨_,rfl⟩
   ·have:=(aa.1 h2).1;rw [h.len] at this;omega
   ·exact hok
 dis i j r1 r2 v1 v2 b hij h1 h2 h3 h4 h5 h6:=by
  have key:∀ (i:Nat) r1 v1,(R++[r])[i]? = some r1->(ρ++[v])[i]? = some v1->r1.foot v1 b->(R[i]? = some r1/\ρ[i]? = some v1/\b<w.heap.size)\/(i=R.length/\w.heap.size<=b):=by
   intro i r1 v1 h1 h3 h5
   rcases Du h1 with h1 | ⟨rfl,rfl⟩
   ·rcases Du h3 with h3 | ⟨rfl,rfl⟩
    ·exact .inl ⟨h1,h3,(h.own i r1 v1 b h1 h3 h5).2.1⟩
    ·have:=(aa.1 h1).1;rw [h.len] at this;omega
   ·rcases Du h3 with h3 | ⟨_,rfl⟩
    ·have:=(aa.1 h3).1;rw [h.len] at this;omega
    ·exact .inr ⟨rfl,(hf b h5).1⟩
  rcases key i r1 v1 h1 h3 h5 with⟨a1,a2,a3⟩ | ⟨a1,a2⟩
  ·rcases key j r2 v2 h2 h4 h6 with⟨b1,b2,b3⟩ | ⟨b1,b2⟩
   ·exact h.dis i j r1 r2 v1 v2 b hij a1 b1 a2 b2 h5 h6
   ·omega
  grind
 own i r' v' b h1 h2 h3:=by
  rcases Du h1 with h1 | ⟨rfl,rfl⟩
  ·rcases Du h2 with h2 | ⟨rfl,rfl⟩
   ·obtain⟨k1,k2,k3⟩:=h.own i r' v' b h1 h2 h3
    exact⟨k1,aK k2 hsz,k3⟩
   ·have:=(aa.1 h1).1;rw [h.len] at this;omega
  ·rcases Du h2 with h2 | ⟨_,rfl⟩
   ·have:=(aa.1 h2).1;rw [h.len] at this;omega
   ·obtain⟨k1,k2⟩:=hf b h3
    exact⟨λ hb=>by have:=(h.sup b hb).1;omega,k2,.inr (aw h.size k1)⟩
 sub:=h.sub
 sup b hb:=⟨aK (h.sup b hb).1 hsz,(h.sup b hb).2⟩
 frm b hb hf:=(hw b (aK hb h.size)).trans (h.frm b hb hf)
 size:=aw h.size hsz
 os:=ho.trans h.os
 tape:=ht.trans h.tape
 output:=hp.trans h.output
 pre:=h.pre.trans (Pre.append _ _)
 gl:=h.gl
theorem Inv.put (h:Inv C S w ρ R) {i:Nat} {r r':Res} {v:Value} (hi:R[i]? = some r) (hv:ρ[i]? = some v) {b:Nat} (hb:r.foot v b) (hb':∀ k,r'.foot v k->k=b)
  (hw:∀ k,k≠b->w'.heap[k]? = w.heap[k]?) (hsz:w'.heap.size=w.heap.size) (ho:w'.os=w.os) (ht:Tp w w') (hp:w'.output=w.output)
  (hok:r'.ok S w' ρ v):Inv C S w' ρ (R.set i r'):=by
 obtain⟨o1,o2,o3⟩:=h.own i r v b hi hv hb
 have hS:∀ k,S k->w'.heap[k]? = w.heap[k]?:=λ k hk=>hw k (λ e=>o1 (e ▸ hk))
 have key:∀ (j:Nat) r1 v1,(R.set i r')[j]? = some r1->ρ[j]? = some v1->(j=i/\r1=r'/\v1=v)\/(j≠i/\R[j]? = some r1):=by
  grind
 refine⟨by simp [h.len],?_,?_,?_,h.sub,?_,?_,by rw [hsz];exact h.size,ho.trans h.os,ht.trans h.tape,hp.trans h.output,h.pre,h.gl⟩
 ·intro j r1 v1 h1 h2
  rcases key j r1 v1 h1 h2 with⟨rfl,rfl,rfl⟩ | ⟨hj,h1⟩
  ·exact hok
  ·refine (h.ok j r1 v1 h1 h2).mono (λ _ h=>h) hS (Pre.refl _) (λ k hk=>hw k (λ e=>?_))
   subst e
   exact h.dis j i r1 r v1 v k hj h1 hi h2 hv hk hb
 ·intro j k r1 r2 v1 v2 c hjk h1 h2 h3 h4 h5 h6
  rcases key j r1 v1 h1 h3 with⟨ej,er,ev⟩ | ⟨hj,g1⟩
  ·rcases key k r2 v2 h2 h4 with⟨ek,er2,ev2⟩ | ⟨hk,g2⟩
   ·exact hjk (ej.trans ek.symm)
   ·subst er;subst ev
    exact h.dis i k r r2 v1 v2 c (Ne.symm hk) hi g2 hv h4 (by rw [hb' c h5];exact hb) h6
  ·rcases key k r2 v2 h2 h4 with⟨ek,er2,ev2⟩ | ⟨hk,g2⟩
   ·subst er2;subst ev2
    exact h.dis j i r1 r v1 v2 c hj g1 hi h3 hv h5 (by rw [hb' c h6];exact hb)
   ·exact h.dis j k r1 r2 v1 v2 c hjk g1 g2 h3 h4 h5 h6
 ·intro j r1 v1 c h1 h2 h3
  rcases key j r1 v1 h1 h2 with⟨rfl,rfl,rfl⟩ | ⟨hj,h1⟩
  ·grind
  ·rw [hsz]
   exact h.own j r1 v1 c h1 h2 h3
 ·intro c hc
  rw [hsz]
  exact h.sup c hc
 ·intro c hc hf
  refine (hw c (λ e=>?_)).trans (h.frm c hc hf)
  subst e
  rcases o3 with o3 | o3
  ·exact hf o3
  ·omega
theorem Inv.freeze (h:Inv C S w ρ R) {i:Nat} {r:Res} {v:Value} (hi:R[i]? = some r) (hv:ρ[i]? = some v) :
  Inv C (λ b=>S b\/r.foot v b) w ρ (R.set i .non):=by
 have key:∀ (j:Nat) r1,(R.set i .non)[j]? = some r1->r1 = .non\/(j≠i/\R[j]? = some r1):=by
  grind
 refine⟨by simp [h.len],?_,?_,?_,λ b hb=>.inl (h.sub b hb),?_,h.frm,h.size,h.os,h.tape,h.output,h.pre,h.gl⟩
 ·intro j r1 v1 h1 h2
  rcases key j r1 h1 with rfl | ⟨hj,h1⟩
  ·exact .inr trivial
  ·exact (h.ok j r1 v1 h1 h2).mono (λ _ h=>.inl h) (λ _ _=>rfl) (Pre.refl _) (λ _ _=>rfl)
 ·intro j k r1 r2 v1 v2 c hjk h1 h2 h3 h4 h5 h6
  rcases key j r1 h1 with rfl | ⟨hj,h1⟩
  ·simp [Res.foot] at h5
  ·rcases key k r2 h2 with rfl | ⟨hk,h2⟩
   ·simp [Res.foot] at h6
   ·exact h.dis j k r1 r2 v1 v2 c hjk h1 h2 h3 h4 h5 h6
 ·intro j r1 v1 c h1 h2 h3
  rcases key j r1 h1 with rfl | ⟨hj,h1⟩
  ·simp [Res.foot] at h3
  ·obtain⟨k1,k2,k3⟩:=h.own j r1 v1 c h1 h2 h3
   refine⟨λ hc=>?_,k2,k3⟩
   rcases hc with hc | hc
   ·exact k1 hc
   ·exact h.dis j i r1 r v1 v c hj h1 hi h2 hv h3 hc
 ·intro c hc
  rcases hc with hc | hc
  ·obtain⟨k1,k2⟩:=h.sup c hc
   exact⟨k1,k2.imp id (λ k=>k)⟩
  ·obtain⟨k1,k2,k3⟩:=h.own i r v c hi hv hc
   exact⟨k2,.inr k3⟩
theorem Res.ok0.frozen {e size:Nat} {rows:List (List Pd)} {v:Value} (h:(Res.sl e size rows).ok0 S w ρ v) :
  RdP (λ b=>S b\/(Res.sl e size rows).foot v b) w v (.s rows):=by
 rcases h with⟨rfl,rfl⟩ | ⟨b,o,cap,vs,rfl,hb,h1,h2,h3,h4,h5⟩
 ·exact .s none ⟨0,0,none⟩ 0 0 [] (λ _ _=>undef) (af _) (by simp [maxLen]) (λ _=>rfl) (by simp) (by simp) (by simp)
 ·refine .s (some ⟨b,o,none⟩) ⟨b,o,none⟩ cap size rows (λ i j=>vs.getD (o+i*size+j) undef) h1 h2 (by simp) h4 (λ i row hi j d hj=>?_) (λ i row hi j d hj=>?_)
  ·obtain⟨x,hx,_⟩:=h5 i row hi j d hj
   refine⟨rfl,.inr rfl,?_⟩
   rw [Cx,hb.cell,←bj,hx]
   simp [Array.getD_eq_getD_getElem?,hx]
  ·obtain⟨x,hx,hr⟩:=h5 i row hi j d hj
   rw [aM,hx]
   exact hr.mono (λ _ h=>.inl h) (λ _ _=>rfl)
theorem zOk.frozen {e size:Nat} {rows:List (List Pd)} {v:Value} (h:zOk w e size rows v):RdP (λ b=>S b\/El v b) w v (.s rows):=by
 rcases h with⟨rfl,rfl⟩ | ⟨b,o,cap,vs,rfl,hb,h1,h2,h3,h4,h5⟩
 ·exact .s none ⟨0,0,none⟩ 0 0 [] (λ _ _=>undef) (af _) (by simp [maxLen]) (λ _=>rfl) (by simp) (by simp) (by simp)
 ·refine .s (some ⟨b,o,none⟩) ⟨b,o,none⟩ cap size rows (λ i j=>vs.getD (o+i*size+j) undef) h1 h2 (by simp) h4 (λ i row hi j d hj=>?_) (λ i row hi j d hj=>?_)
  ·obtain⟨x,hx,_⟩:=h5 i row hi j d hj
   refine⟨rfl,.inr rfl,?_⟩
   rw [Cx,Ik hb,←bj,hx]
   simp [Array.getD_eq_getD_getElem?,hx]
  ·obtain⟨x,hx,hr⟩:=h5 i row hi j d hj
   rw [aM,hx]
   cases d with
   | v y=>obtain⟨rfl,g,_⟩:=hr;exact .v _ g
   | s r=>
    obtain⟨rfl,rfl⟩:=hr
    exact .s none ⟨0,0,none⟩ 0 0 [] (λ _ _=>undef) (af _) (by simp [maxLen]) (λ _=>rfl) (by simp) (by simp) (by simp)
end
end Go.SL
namespace Go.SL
abbrev C_:=List (Nat×Bool)
structure Ent where
 t:Nat
 p:C_
 v:AV
 deriving Inhabited
inductive Cl where
 | call (f:FuncId) (args:List AV) (R:List Res) (res:AV) (R2:List Res) (pi:List Nat)
 | callB (f:FuncId) (args:List AV) (res:AV) (rows:List (List Pd)) (k:Nat) (rw:List Pd)
 | appD (rows:List (List Pd)) (k:Nat) (row:List Pd) (off:Nat) (rows1 rows2:List (List Pd)) (size:Nat) (n:Nat) (rows':List (List Pd))
 | updD (rows:List (List Pd)) (k0 k:Nat) (row row':List Pd) (rows':List (List Pd))
 | roomZ (n:Int) (rows rows':List (List Pd))
 | bnd (k:Nat) (lo hi hi2:Int)
 | bnd3 (k:Nat) (lo hi mx:Int)
 | appP (rows src:List (List Pd)) (size n m:Nat) (l rows':List (List Pd))
 | eqr (rows rows':List (List Pd))
 | cpy (src:List (List Pd)) (size n m:Nat) (rows rows':List (List Pd))
 | row (rows:List (List Pd)) (n:Int) (row:List Pd)
 | upd (rows:List (List Pd)) (k:Nat) (row row':List Pd) (rows':List (List Pd))
 | nz (n:Int)
 | len (k n:Int)
 | cut (rows:List (List Pd)) (size:Nat) (lo hi:Int) (rows':List (List Pd))
 | room (n:Int) (rows rows':List (List Pd))
 | app (rows1 rows2:List (List Pd)) (size:Nat) (n:Nat) (rows':List (List Pd))
 | own
 | byte (s:ByteArray) (n:Int) (b:UInt8)
 | fnv (x:Value) (g:FuncId)
 | idx (rows:List (List Pd)) (n:Int) (row:List Pd)
 | strb (rows:List (List Pd)) (s:ByteArray)
 | when (Gj:List (Bool×Bool)) (c:Cl)
 | whenR (Gj:List (Bool×Bool)) (c:Cl)
 | flts (rs:List Res)
 | flt (i:Nat) (r r':Res)
 | fltm (i:Nat) (c:Cl) (r r':Res)
 | nop
 deriving Inhabited
def Dc:List (Bool×Bool)->Prop
 | []=>True
 | (a,b)::r=>a=b/\Dc r
def Cl.keeps:Cl->Prop
 | .call _ _ R _ R2 pi=>R2.take pi.length=R
 | _=>False
def Em (P:Program) (f:FuncId):Prop:=∀ (args:Array Value) (w:World),(callFunc f args).run P w = .ok (.enter f args) w
def Cl.ok (P:Program):Cl->Prop
 | .call f args R res R2 _=>Em P f/\CallOk P f args R res R2
 | .callB f args res rows k rw=>(Em P f/\CallOk P f args [] res [])/\rows[k]? = some rw
 | .appD rows k l0 off rows1 rows2 size n rows'=>(rows[k]? = some l0/\l0[off]? = some (.s rows1))/\(n<=140737488355328/\(∀ l,l∈rows2->l.length=size)/\rows1++rows2=rows')
 | .updD rows k0 k l l' rows'=>k0=k/\rows[k]? = some l/\rows.set k l'=rows'
 | .roomZ n rows rows'=>0<=n/\n<=140737488355328/\rows=rows'
 | .bnd k lo hi hi2=>0<=lo/\lo<=hi/\hi<=k/\hi=hi2
 | .bnd3 k lo hi mx=>0<=lo/\lo<=hi/\hi<=mx/\mx<=k
 | .appP rows src size n m l rows'=>(n+src.length=m/\m<=rows.length)/\(∀ x,x∈src->x.length=size)/\l=rows'
 | .eqr rows rows'=>rows=rows'
 | .cpy src size n m rows rows'=>Nat.min src.length n=m/\(∀ l,l∈src->l.length=size)/\rows=rows'
 | .row rows n l=>0<=n/\rows[n.toNat]? = some l
 | .upd rows k l l' rows'=>rows[k]? = some l/\rows.set k l'=rows'
 | .nz n=>n≠0
 | .len k n=>k=n
 | .cut rows size lo hi rows'=>0<=lo/\lo<=hi/\hi<=rows.length/\(∀ l,l∈rows->l.length=size)/\(rows.take hi.toNat).drop lo.toNat=rows'
 | .room n rows rows'=>0<=n/\n<=140737488355328/\rows=rows'
 | .app rows1 rows2 size n rows'=>n<=140737488355328/\(∀ l,l∈rows2->l.length=size)/\rows1++rows2=rows'
 | .own=>True
 | .byte s n b=>0<=n/\s.data[n.toNat]? = some b
 | .fnv x g=>x = .func (.func g) #[] #[]
 | .idx rows n l=>0<=n/\rows[n.toNat]? = some l
 | .strb rows s=>rows=s.data.toList.map λ b=>[Pd.v (.int .u8 (b.toNat:Int))]
 | .when Gj c=>Dc Gj->c.ok P
 | .whenR Gj c=>(Dc Gj->c.ok P)/\(¬Dc Gj->c.keeps)
 | .flts _=>True
 | .flt _ r r'=>r=r'
 | .fltm _ c r r'=>c.ok P/\r=r'
 | .nop=>True
def C1 (P:Program):List Cl->Prop
 | []=>True
 | c::r=>c.ok P/\C1 P r
def D7:List Ent->Nat->Option Ent
 | [],_=>none
 | e::r,t=>bif Nat.beq e.t t then some e else D7 r t
def F4:C_->C_->Bool
 | [],_=>true
 | (a,x)::p,(b,y)::q=>Nat.beq a b&&(x==y)&&F4 p q
 | _::_,[]=>false
def dOf (v:Value):Option D:=bif v.oneCell' then some (.p (.v v)) else none
def Ft:List Value->Option (List D)
 | []=>some []
 | v::r=>match dOf v,Ft r with
  | some d,some ds=>some (d::ds)
  | _,_=>none
def N4:Value->Option AV
 | .agg cs=>(Ft cs.toList).map .agg
 | .tuple _=>none
 | v=>(dOf v).map .d
def look (L:List Ent) (cur:C_):Operand->Option AV
 | .const v=>N4 v
 | .tmp t=>match D7 L t with
  | some e=>bif F4 e.p cur then some e.v else none
  | none=>none
 | .func f=>some (.d (.fn (.func f) [] []))
 | .global _=>none
def D.norm:D->D
 | .p (.v (.slice none 0 0))=>.p (.s [])
 | d=>d
def AV.norm:AV->AV
 | .d x=>.d x.norm
 | .agg ds=>.agg (ds.map D.norm)
 | .tup l=>.tup l
def Nt:TypeDesc->Bool
 | .struct _ | .array _ _=>true
 | _=>false
def Qq (P:Program) (t:TypeId):Option Bool:=(P.underlying t).map Nt
def B2 (P:Program) (t:TypeId):Option Nat:=(P.info? t).map (·.size)
def Et (P:Program) (t:TypeId):Option Value:=(P.info? t).bind (·.zero)
def Hv:AV->Option (List D)
 | .d x=>some [x]
 | .agg ds=>some ds
 | .tup _=>none
def Gt (P:Program) (t:TypeId) (ds:List D):Option AV:=
 match Qq P t,B2 P t with
 | some true,some n=>bif Nat.beq ds.length n then some (.agg ds) else none
 | some false,some 1=>match ds with
  | [d]=>some (.d d)
  | _=>none
 | _,_=>none
def Nb (cells:List D) (off:Nat) (ds:List D):List D:=cells.take off++(ds++cells.drop (off+ds.length))
def H3 (places:List (Nat×Nat)):List D->List (Nat×List D)->Option (List D)
 | cells,[]=>some cells
 | cells,(i,ds)::r=>match places[i]? with
  | some (off,size)=>bif Nat.beq ds.length size&&Nat.ble (off+ds.length) cells.length then H3 places (Nb cells off ds) r else none
  | none=>none
def A0u (k:IntKind) (a b:Int):Int:=k.wrap (BitVec.ofInt k.bits a &&& BitVec.ofInt k.bits b).toNat
def orI (k:IntKind) (a b:Int):Int:=k.wrap (BitVec.ofInt k.bits a ||| BitVec.ofInt k.bits b).toNat
def Axf (k:IntKind) (a b:Int):Int:=k.wrap (BitVec.ofInt k.bits a ^^^ BitVec.ofInt k.bits b).toNat
def Sq (k:IntKind) (a:Int) (n:Nat):Int:=a.fdiv (2 ^ min n k.bits)
def Axi (k:IntKind) (a:Int) (n:Nat):Int:=k.wrap (a*2 ^ min n k.bits)
def bin (op:BinOp) (x y:Value):Option Value:=
 match op,x,y with
 | .and,.int k a,.int k' b=>if k=k' then some (.int k (A0u k a b)) else none
 | .or,.int k a,.int k' b=>if k=k' then some (.int k (orI k a b)) else none
 | .xor,.int k a,.int k' b=>if k=k' then some (.int k (Axf k a b)) else none
 | .shr,.int k a,.int _ (.ofNat n)=>some (.int k (Sq k a n))
 | .shl,.int k a,.int _ (.ofNat n)=>some (.int k (Axi k a n))
 | .add,.int k a,.int k' b=>if k=k' then some (.int k (k.wrap (a+b))) else none
 | .sub,.int k a,.int k' b=>if k=k' then some (.int k (k.wrap (a-b))) else none
 | .mul,.int k a,.int k' b=>if k=k' then some (.int k (k.wrap (a*b))) else none
 | .eql,.int k a,.int k' b=>if k=k' then some (.bool (a==b)) else none
 | .neq,.int k a,.int k' b=>if k=k' then some (.bool (a != b)) else none
 | .lss,.int k a,.int k' b=>if k=k' then some (.bool (decide (a<b))) else none
 | .leq,.int k a,.int k' b=>if k=k' then some (.bool (decide (a<=b))) else none
 | .gtr,.int k a,.int k' b=>if k=k' then some (.bool (decide (a>b))) else none
 | .geq,.int k a,.int k' b=>if k=k' then some (.bool (decide (a>=b))) else none
 | .eql,.string a,.string b=>some (.bool (a.toList==b.toList))
 | .neq,.string a,.string b=>some (.bool !(a.toList==b.toList))
 | _,_,_=>none
def Ash (op:BinOp) (x y:Value):Option Value:=
 match op,x,y with
 | .eql,.bool a,.bool b=>some (.bool (a==b))
 | .neq,.bool a,.bool b=>some (.bool !(a==b))
 | _,_,_=>none
def Acl (a b:ByteArray):Int:=bif decide (((a.size+b.size:Nat):Int)<=9223372036854775807) then 1 else 0
def Asg (op:BinOp) (x y:Value):Option (Value×Int):=
 match op,x,y with
 | .quo,.int k a,.int k' b=>if k=k' then some (.int k (k.wrap (a.tdiv b)),b) else none
 | .rem,.int k a,.int k' b=>if k=k' then some (.int k (a.tmod b),b) else none
 | .add,.string a,.string b=>some (.string (a++b),Acl a b)
 | _,_,_=>none
def un (op:UnOp) (x:Value):Option Value:=
 match op,x with
 | .neg,.int k n=>some (.int k (k.wrap (0-n)))
 | .not,.bool b=>some (.bool !b)
 | _,_=>none
def C9:AV->Option Value
 | .d (.p (.v x))=>some x
 | _=>none
def N0:List AV->Option (List Value)
 | []=>some []
 | a::r=>match C9 a,N0 r with
  | some x,some xs=>some (x::xs)
  | _,_=>none
def ofV (v:Value):AV:=.d (.p (.v v))
def Ln:AV->Option Bool
 | .d (.p (.v (.bool b)))=>some b
 | _=>none
def Aba:Int->List Value->Option Int
 | m,[]=>some m
 | m,x::r=>match x with
  | .int .i64 y=>Aba (max m y) r
  | _=>none
def Aa8:Int->List Value->Option Int
 | m,[]=>some m
 | m,x::r=>match x with
  | .int .i64 y=>Aa8 (min m y) r
  | _=>none
mutual
def D.ren (f:Nat->Option Nat):D->Option D
 | .p x=>some (.p x)
 | .o i off=>match f i with
  | some j=>some (.o j off)
  | none=>none
 | .os i=>match f i with
  | some j=>some (.os j)
  | none=>none
 | .oe i k size off=>match f i with
  | some j=>some (.oe j k size off)
  | none=>none
 | .osb i lo n size=>match f i with
  | some j=>some (.osb j lo n size)
  | none=>none
 | .oi i g k size off=>match f i,f g with
  | some j,some q=>some (.oi j q k size off)
  | _,_=>none
 | .ip cells=>some (.ip cells)
 | .fn g a b=>match D.renL f a,D.renL f b with
  | some a',some b'=>some (.fn g a' b')
  | _,_=>none
 | .any=>some .any
 | .nq rows=>some (.nq rows)
def D.renL (f:Nat->Option Nat):List D->Option (List D)
 | []=>some []
 | d::r=>match D.ren f d,D.renL f r with
  | some d',some r'=>some (d'::r')
  | _,_=>none
end
mutual
def AV.ren (f:Nat->Option Nat):AV->Option AV
 | .d x=>match x.ren f with
  | some y=>some (.d y)
  | none=>none
 | .agg ds=>match D.renL f ds with
  | some es=>some (.agg es)
  | none=>none
 | .tup l=>match AV.renL f l with
  | some m=>some (.tup m)
  | none=>none
def AV.renL (f:Nat->Option Nat):List AV->Option (List AV)
 | []=>some []
 | a::r=>match AV.ren f a,AV.renL f r with
  | some a',some r'=>some (a'::r')
  | _,_=>none
end
def Res.ren (f:Nat->Option Nat):Res->Option Res
 | .box t cells=>match D.renL f cells with
  | some cs=>some (.box t cs)
  | none=>none
 | .sl e size rows=>some (.sl e size rows)
 | .zsl e size rows=>some (.zsl e size rows)
 | .dsl e size g=>match f g with
  | some q=>some (.dsl e size q)
  | none=>none
 | .gh size tys rows hole=>some (.gh size tys rows hole)
 | .non=>some .non
 | .vec e cells=>match D.renL f cells with
  | some cs=>some (.vec e cs)
  | none=>none
def H0 (f:Nat->Option Nat):List Res->Option (List Res)
 | []=>some []
 | r::l=>match r.ren f,H0 f l with
  | some r',some l'=>some (r'::l')
  | _,_=>none
def Ev:List Nat->Nat->Option Nat
 | [],_=>none
 | a::r,i=>bif Nat.beq a i then some 0 else match Ev r i with
  | some j=>some (j+1)
  | none=>none
def Fo:List Nat->Bool
 | []=>true
 | a::r=>(Ev r a).isNone&&Fo r
def Kj (R:List Res):List Nat->Option (List Res)
 | []=>some []
 | i::r=>match R[i]?,Kj R r with
  | some x,some xs=>some (x::xs)
  | _,_=>none
def Fx (pi:List Nat) (n:Nat) (j:Nat):Option Nat:=
 match pi[j]? with
 | some i=>some i
 | none=>some (n+(j-pi.length))
def Fh:List Res->List Nat->List Res->List Res
 | R,i::pi,r::l=>Fh (R.set i r) pi l
 | R,_,_=>R
structure Out where
 v:AV
 R:List Res
 c:Option Cl
 deriving Inhabited
def Kb (R:List Res):D->Option Pd
 | .p x=>some x
 | .os i=>match R[i]? with
  | some (.sl _ _ rows)=>some (.s rows)
  | some (.zsl _ _ rows)=>some (.s rows)
  | _=>none
 | _=>none
def Hr (R:List Res):List D->Option (List Pd)
 | []=>some []
 | d::r=>match Kb R d,Hr R r with
  | some x,some l=>some (x::l)
  | _,_=>none
mutual
def D.view (R:List Res) (rw:List Pd):D->Option D
 | .p x=>some (.p x)
 | .ip c=>some (.ip c)
 | .os i=>match R[i]? with
  | some (.sl _ _ rows)=>some (.p (.s rows))
  | some (.zsl _ _ rows)=>some (.p (.s rows))
  | _=>none
 | .o i off=>match R[i]? with
  | some (.box _ cells)=>match Hr R cells with
   | some ps=>some (.ip (ps.drop off))
   | none=>none
  | _=>none
 | .oe _ _ _ _=>none
 | .osb i lo n size=>match R[i]? with
  | some (.sl _ s rows)=>bif Nat.beq s size then some (.p (.s ((rows.drop lo).take n))) else none
  | _=>none
 | .oi _ g _ size off=>match R[g]? with
  | some (.gh s _ _ none)=>bif Nat.beq s size&&Nat.blt off s then match rw[off]? with
   | some (.s r)=>some (.p (.s r))
   | _=>none
   else none
  | _=>none
 | .fn g a b=>match D.viewL R rw a,D.viewL R rw b with
  | some a',some b'=>some (.fn g a' b')
  | _,_=>none
 | .any=>some .any
 | .nq rows=>some (.nq rows)
def D.viewL (R:List Res) (rw:List Pd):List D->Option (List D)
 | []=>some []
 | d::r=>match D.view R rw d,D.viewL R rw r with
  | some d',some r'=>some (d'::r')
  | _,_=>none
end
def AV.view (R:List Res) (rw:List Pd):AV->Option AV
 | .d x=>match x.view R rw with
  | some y=>some (.d y)
  | none=>none
 | .agg ds=>match D.viewL R rw ds with
  | some es=>some (.agg es)
  | none=>none
 | .tup _=>none
def AV.viewL (R:List Res) (rw:List Pd):List AV->Option (List AV)
 | []=>some []
 | a::r=>match AV.view R rw a,AV.viewL R rw r with
  | some a',some r'=>some (a'::r')
  | _,_=>none
def D.flat:D->Bool
 | .p (.v _)=>true
 | _=>false
mutual
def AV.flat:AV->Bool
 | .d x=>x.flat
 | .agg ds=>ds.all D.flat
 | .tup l=>dw l
def dw:List AV->Bool
 | []=>true
 | a::r=>a.flat&&dw r
end
mutual
def D.ois:D->List (Nat×Nat)
 | .oi _ g k _ _=>[(g,k)]
 | .fn _ a b=>da a++da b
 | _=>[]
def da:List D->List (Nat×Nat)
 | []=>[]
 | d::r=>D.ois d++da r
end
def AV.ois:AV->List (Nat×Nat)
 | .d x=>x.ois
 | .agg ds=>da ds
 | .tup _=>[]
def oisL:List AV->List (Nat×Nat)
 | []=>[]
 | a::r=>a.ois++oisL r
def Gw (R : List Res) (args : List AV) (f : FuncId) : Cl -> Option Out
 | .callB f' _ res _ _ rw=>bif Nat.beq f f'&&res.flat then
   match oisL args with
   | []=>match AV.viewL R [] (args.map AV.norm) with
    | some args'=>some ⟨res,R,some (.callB f args' res [[]] 0 [])⟩
    | none=>none
   | [(g,k)]=>match R[g]?,AV.viewL R rw (args.map AV.norm) with
    | some (.gh _ _ rows none),some args'=>some ⟨res,R,some (.callB f args' res rows k rw)⟩
    | _,_=>none
   | _=>none
  else none
 | .call f' _ _ res R2 pi=>
  bif Nat.beq f f'&&Fo pi&&Nat.ble pi.length R2.length then
   match AV.renL (Ev pi) (args.map AV.norm),Kj R pi with
   | some args',some Rp=>match H0 (Ev pi) Rp,res.ren (Fx pi R.length),H0 (Fx pi R.length) R2 with
    | some Rp',some res',some R2'=>some ⟨res',Fh R pi R2'++R2'.drop pi.length,some (.call f args' Rp' res R2 pi)⟩
    | _,_,_=>none
   | _,_=>none
  else none
 | _=>none
def Dw (L:List Ent) (cur:C_):List Operand->Option (List AV)
 | []=>some []
 | x::r=>match look L cur x,Dw L cur r with
  | some a,some l=>some (a::l)
  | _,_=>none
def J1 (L:List Ent) (cur:C_):List (Nat×Operand)->Option (List (Nat×List D))
 | []=>some []
 | (i,x)::r=>match (look L cur x).bind Hv,J1 L cur r with
  | some a,some l=>some ((i,a)::l)
  | _,_=>none
def Py (P:Program) (s:TypeId) (f:Nat):Option (Nat×TypeId):=
 match P.underlying s with
 | some (.struct fields)=>match fields[f]? with
  | some x=>some (x.offset,x.type)
  | none=>none
 | _=>none
def K6 (P:Program):List Field->Option (List (Nat×Nat))
 | []=>some []
 | f::r=>match B2 P f.type,K6 P r with
  | some n,some l=>some ((f.offset,n)::l)
  | _,_=>none
def Ly (R:List Res):List AV->Option Int
 | [.d (.p (.s rows))]=>some rows.length
 | [.d (.p (.v (.slice none 0 _)))]=>some 0
 | [.d (.os i)]=>match R[i]? with
  | some (.sl _ _ rows)=>some rows.length
  | some (.dsl _ s g)=>match R[g]? with
   | some (.gh s2 _ rows _)=>bif Nat.beq s s2&&Nat.blt 0 s then some rows.length else none
   | _=>none
  | some (.vec _ cells)=>some cells.length
  | _=>none
 | [.d (.osb _ _ n _)]=>some n
 | _=>none
def Ab2:List AV->Option Int
 | [.d (.p (.v (.string s)))]=>some s.size
 | _=>none
def Ayl (b:Builtin) (l:List AV):Option Int:=
 match N0 l with
 | some (.int .i64 x::r)=>match b with
  | .max=>Aba x r
  | .min=>Aa8 x r
  | _=>none
 | _=>none
def Lv (ops : Array Oper) (L : List Ent) (o : Oper) : Option C_ :=
 match o.guard with
 | none=>some []
 | some (j,want)=>match (ops[j]?).bind (·.dst) with
  | none=>none
  | some t=>match D7 L t with
   | some e=>match Ln e.v with
    | some _=>some (e.p++[(t,want)])
    | none=>none
   | none=>none
def Gj (L:List Ent):C_->Option (List (Bool×Bool))
 | []=>some []
 | (t,want)::p=>match D7 L t with
  | some e=>match Ln e.v,Gj L p with
   | some c,some l=>some ((c,want)::l)
   | _,_=>none
  | none=>none
def jP:Operand->Bool
 | .const (.bool b)=>b
 | _=>false
def Wx:Operand->Bool
 | .const (.bool b)=>!b
 | _=>false
def Ab1 (L : List Ent) (cur : C_) (c a b : Operand) : Option AV :=
 match c with
 | .tmp t=>match (look L cur (.tmp t)).bind Ln with
  | some x=>
   bif jP a then match (look L (cur++[(t,false)]) b).bind Ln with
    | some y=>some (ofV (.bool (x || y)))
    | none=>none
   else bif Wx b then match (look L (cur++[(t,true)]) a).bind Ln with
    | some y=>some (ofV (.bool (x&&y)))
    | none=>none
   else none
  | none=>none
 | _=>none
def qH (P : Program) (same : TypeId -> AV -> AV -> Option Bool) : List Field -> List D -> List D -> Option Bool
 | [],_,_=>some true
 | f :: fs, ds, es => bif f.name == "_" then qH P same fs ds es else match B2 P f.type with
  | some n=>match Gt P f.type ((ds.drop f.offset).take n),Gt P f.type ((es.drop f.offset).take n) with
   | some a,some b=>match same f.type a b,qH P same fs ds es with
    | some r,some q=>some (r&&q)
    | _,_=>none
   | _,_=>none
  | none=>none
def eqA (P:Program):Nat->TypeId->AV->AV->Option Bool
 | 0,_,_,_=>none
 | m+1,t,a,b=>match P.underlying t with
  | some .bool=>match a,b with
   | .d (.p (.v (.bool x))),.d (.p (.v (.bool y)))=>some (x==y)
   | _,_=>none
  | some (.int _)=>match a,b with
   | .d (.p (.v (.int k x))),.d (.p (.v (.int k' y)))=>if k=k' then some (x==y) else none
   | _,_=>none
  | some .string=>match a,b with
   | .d (.p (.v (.string x))),.d (.p (.v (.string y)))=>some (x.toList==y.toList)
   | _,_=>none
  | some (.struct fs)=>match a,b with
   | .agg ds,.agg es=>bif P.stoodInHeld t then none else qH P (eqA P m) fs.toList ds es
   | _,_=>none
  | _=>none
def Ai6 (P:Program) (L:List Ent) (cur:C_) (R:List Res) (b:BinOp) (t:TypeId) (x y:Operand):Option (AV×Option Cl):=
 match look L cur x,look L cur y with
 | some (.d (.p (.s rows))),some (.d (.p (.v (.slice none 0 0))))=>match b,P.underlying t with
  | .eql,some (.slice _)=>some (.d (.nq rows),none)
  | _,_=>none
 | some (.d (.os i)),some (.d (.p (.v (.slice none 0 0))))=>match b,P.underlying t,R[i]? with
  | .eql,some (.slice _),some (.sl _ _ rows)=>some (.d (.nq rows),none)
  | _,_,_=>none
 | some (.agg ds),some (.agg es)=>bif P.eqGuardType P.depth t then none else match b with
  | .eql=>(eqA P 100 t (.agg ds) (.agg es)).map λ z=>(ofV (.bool z),none)
  | .neq=>(eqA P 100 t (.agg ds) (.agg es)).map λ z=>(ofV (.bool !z),none)
  | _=>none
 | _,_=>none
def Ij (i g k size:Nat):Nat->List Pd->List D
 | _,[]=>[]
 | off,.v x::r=>.p (.v x)::Ij i g k size (off+1) r
 | off,.s _::r=>.oi i g k size off::Ij i g k size (off+1) r
def fnV (P:Program) (t:TypeId) (c:Cl) (v:AV):Option (AV×Option Cl):=
 match v,c,P.underlying t with
 | .d (.p (.v y)),.fnv _ g,some (.func _ _ _)=>some (.d (.fn (.func g) [] []),some (.fnv y g))
 | v,_,_=>some (v,none)
def Tu (P:Program) (L:List Ent) (cur:C_) (R:List Res) (c:Cl) (t:TypeId) (x:Operand):Option (AV×Option Cl):=
 match look L cur x,B2 P t with
 | some (.d (.o i off)),some n=>match R[i]? with
  | some (.box _ cells)=>(Gt P t ((cells.drop off).take n)).bind (fnV P t c)
  | _=>none
 | some (.d (.ip cells)),some n=>(Gt P t ((cells.take n).map D.p)).map λ v=>(v,none)
 | some (.d (.oe i k size off)),some n=>match R[i]?,c with
  | some (.sl _ s rows),.row _ _ row=>bif Nat.beq s size then (Gt P t (((row.drop off).take n).map D.p)).map λ v=>(v,some (.row rows k row)) else none
  | some (.dsl _ s g),.row _ _ row=>match R[g]? with
   | some (.gh s2 _ rows none)=>bif Nat.blt 0 s&&(Nat.beq s size&&Nat.beq s s2) then (Gt P t (Ij i g k size off ((row.drop off).take n))).map λ v=>(v,some (.row rows k row)) else none
   | _=>none
  | some (.vec _ cells),_=>(Gt P t ((cells.drop (k*size+off)).take n)).map λ v=>(v,none)
  | _,_=>none
 | _,_=>none
def Ai5 (P:Program) (L:List Ent) (cur:C_) (R:List Res) (c:Cl) (t:TypeId) (x i:Operand):Option (AV×Option Cl):=
 match P.underlying t,look L cur x,(look L cur i).bind C9 with
 | some (.slice e),some (.d (.p (.s rows))),some (.int _ n)=>match c with
  | .row _ _ row=>match B2 P e with
   | some (k+1)=>bif Nat.beq row.length (k+1) then some (.d (.ip row),some (.row rows n row)) else none
   | _=>none
  | _=>none
 | some (.slice e),some (.d (.os j)),some (.int _ n)=>match R[j]?,c with
  | some (.sl _ s rows),.row _ _ row=>match B2 P e with
   | some (k+1)=>bif Nat.beq s (k+1) then some (.d (.oe j n.toNat (k+1) 0),some (.row rows n row)) else none
   | _=>none
  | some (.dsl _ s g),.row _ _ row=>match B2 P e,R[g]? with
   | some (k+1),some (.gh s2 _ rows _)=>bif Nat.beq s (k+1)&&Nat.beq s s2 then some (.d (.oe j n.toNat (k+1) 0),some (.row rows n row)) else none
   | _,_=>none
  | some (.vec _ cells),_=>match B2 P e with
   | some (k+1)=>bif Nat.beq k 0&&(decide (0<=n)&&Nat.blt n.toNat cells.length) then some (.d (.oe j n.toNat (k+1) 0),none) else none
   | _=>none
  | _,_=>none
 | some (.array m e),some (.d (.o j off)),some (.int _ (.ofNat k))=>match B2 P e with
  | some s=>bif Nat.blt k m then some (.d (.o j (off+k*s)),none) else none
  | _=>none
 | some (.array m e),some (.d (.ip cells)),some (.int _ (.ofNat k))=>match B2 P e with
  | some s=>bif Nat.blt k m then some (.d (.ip (cells.drop (k*s))),none) else none
  | _=>none
 | some (.slice _),some (.d (.p (.v (.slice none 0 0)))),some (.int _ n)=>match c with
  | .row _ _ row=>some (.d (.ip row),some (.row [] n row))
  | _=>none
 | _,_,_=>none
def dP:D->Option Pd
 | .p x=>some x
 | .fn f [] []=>some (.v (.func f #[] #[]))
 | _=>none
def dPs:List D->Option (List Pd)
 | []=>some []
 | d::r=>match dP d,dPs r with
  | some x,some l=>some (x::l)
  | _,_=>none
def D4 {α:Type} (size:Nat):Nat->List α->List (List α)
 | 0,_=>[]
 | n+1,l=>l.take size::D4 size n (l.drop size)
def Amo (P:Program) (n:Nat) (e:TypeId) (ds:List D) (k:Int) (row:List Pd):Option (AV×Option Cl):=
 match B2 P e,dPs ds with
 | some (s+1),some ps=>bif Nat.beq ps.length (n*(s+1)) then (Gt P e (row.map D.p)).map λ v=>(v,some (.idx (D4 (s+1) n ps) k row)) else none
 | _,_=>none
def Ait:Cl->Option (List Pd)
 | .idx _ _ row=>some row
 | _=>none
def Yh (P:Program) (L:List Ent) (cur:C_) (R:List Res) (c:Cl) (s d:TypeId) (x:Operand):Option (AV×Option Cl):=
 match P.underlying s,P.underlying d,c with
 | some (.slice e),some .string,.strb _ b=>match P.underlying e,look L cur x with
  | some (.int .u8),some (.d (.os i))=>match R[i]? with
   | some (.sl _ z rows)=>bif Nat.beq z 1 then some (ofV (.string b),some (.strb rows b)) else none
   | _=>none
  | some (.int .u8),some (.d (.p (.s rows)))=>some (ofV (.string b),some (.strb rows b))
  | _,_=>none
 | _,_,_=>none
def Cq (P : Program) (L : List Ent) (cur : C_) (R : List Res) (c : Cl) (op : Op) : Option (AV × Option Cl) :=
 match op with
 | .move x | .assign x=>(look L cur x).map λ v=>(v,none)
 | .pick k a b=>(Ab1 L cur k a b).map λ v=>(v,none)
 | .build t parts=>match (Et P t).bind λ z=>Ft z.cells.toList,P.underlying t,J1 L cur parts.toList with
  | some zs,some (.struct fields),some ps=>match (K6 P fields.toList).bind λ pl=>H3 pl zs ps with
   | some ds=>some (.agg ds,none)
   | none=>none
  | some zs,some (.array n e),some ps=>match B2 P e with
   | some s=>match H3 ((List.range n).map λ i=>(i*s,s)) zs ps with
    | some ds=>some (.agg ds,none)
    | none=>none
   | none=>none
  | _,_,_=>none
 | .load t (.global g)=>match globTab g,B2 P t with
  | some cells,some n=>(Gt P t ((cells.take n).map D.p)).map λ v=>(v,none)
  | _,_=>none
 | .load t x=>Tu P L cur R c t x
 | .nilCheck x=>match look L cur x with
  | some (.d (.o i off))=>some (.d (.o i off),none)
  | some (.d (.oe i k s off))=>some (.d (.oe i k s off),none)
  | some (.d (.ip cells))=>some (.d (.ip cells),none)
  | _=>none
 | .binOp b t x y _=>match (look L cur x).bind C9,(look L cur y).bind C9 with
  | some u,some v=>match bin b u v with
   | some z=>some (ofV z,none)
   | none=>match Asg b u v with
    | some (z,n)=>some (ofV z,some (.nz n))
    | none=>match P.underlying t with
     | some .bool=>(Ash b u v).map λ z=>(ofV z,none)
     | _=>none
  | _,_=>Ai6 P L cur R b t x y
 | .unOp u _ x=>match (look L cur x).bind C9 with
  | some v=>(un u v).map λ z=>(ofV z,none)
  | none=>none
 | .convert s d x=>match P.underlying s,P.underlying d,(look L cur x).bind C9 with
  | some (.int _),some (.int k),some (.int _ n)=>some (ofV (.int k (k.wrap n)),none)
  | _,_,_=>Yh P L cur R c s d x
 | .makeFunc f first caps=>match Dw L cur first.toList,Dw L cur caps.toList with
  | some a,some b=>match (a.mapM fun | .d x=>some x | _=>none),(b.mapM fun | .d x=>some x | _=>none) with
   | some a',some b'=>some (.d (.fn f a' b'),none)
   | _,_=>none
  | _,_=>none
 | .fieldAddr s x f=>match look L cur x,Py P s f with
  | some (.d (.o i off)),some (k,ft)=>match B2 P ft with
   | some (_+1)=>some (.d (.o i (off+k)),none)
   | _=>none
  | some (.d (.ip cells)),some (k,ft)=>match B2 P ft with
   | some (_+1)=>some (.d (.ip (cells.drop k)),none)
   | _=>none
  | some (.d (.oe i r size off)),some (k,ft)=>match B2 P ft with
   | some (_+1)=>some (.d (.oe i r size (off+k)),none)
   | _=>none
  | _,_=>none
 | .field s x f=>match look L cur x,Py P s f with
  | some (.agg ds),some (k,ft)=>match B2 P ft with
   | some n=>(Gt P ft ((ds.drop k).take n)).map λ v=>(v,none)
   | none=>none
  | _,_=>none
 | .indexAddr t x i=>Ai5 P L cur R c t x i
 | .index t x i=>match P.underlying t,look L cur x,(look L cur i).bind C9 with
  | some (.array n e),some (.agg ds),some (.int _ kk)=>match Ait c with
   | some row=>Amo P n e ds kk row
   | none=>match kk,B2 P e with
    | .ofNat k,some s=>bif Nat.blt k n&&Nat.ble ((k+1)*s) ds.length then (Gt P e ((ds.drop (k*s)).take s)).map λ v=>(v,none) else none
    | _,_=>none
  | some .string,some (.d (.p (.v (.string s)))),some (.int _ n)=>match c with
   | .byte _ _ b=>some (ofV (.int .u8 b.toNat),some (.byte s n b))
   | _=>none
  | _,_,_=>none
 | .extract x i=>match look L cur x with
  | some (.tup l)=>(l[i]?).map λ v=>(v,none)
  | _=>none
 | .slice t x lo hi none=>match P.underlying t,look L cur x with
  | some (.slice e),some (.d (.p (.s rows)))=>match B2 P e,(match lo with | none=>some (Value.int .i64 0) | some y=>(look L cur y).bind C9),(match hi with | none=>some (Value.int .i64 rows.length) | some y=>(look L cur y).bind C9) with
   | some n,some (.int _ l),some (.int _ h)=>match c with
    | .cut _ _ _ _ rows'=>some (.d (.p (.s rows')),some (.cut rows n l h rows'))
    | _=>none
   | _,_,_=>none
  | some (.slice e),some (.d (.os i))=>match R[i]? with
   | some (.sl _ s rows)=>match B2 P e,(match lo with | none=>some (Value.int .i64 0) | some y=>(look L cur y).bind C9),(match hi with | none=>some (Value.int .i64 rows.length) | some y=>(look L cur y).bind C9) with
    | some n,some (.int _ l),some (.int _ h)=>match c with
     | .bnd _ _ _ h2=>bif Nat.beq s n then some (.d (.osb i l.toNat (h2.toNat-l.toNat) n),some (.bnd rows.length l h h2)) else none
     | _=>none
    | _,_,_=>none
   | _=>none
  | some (.slice e),some (.d (.osb i o0 n0 s0))=>match R[i]? with
   | some (.sl _ s rows)=>match B2 P e,(match lo with | none=>some (Value.int .i64 0) | some y=>(look L cur y).bind C9),(match hi with | none=>some (Value.int .i64 n0) | some y=>(look L cur y).bind C9) with
    | some n,some (.int _ l),some (.int _ h)=>match c with
     | .bnd _ _ _ h2=>bif Nat.beq s n&&Nat.beq s0 n then some (.d (.osb i (o0+l.toNat) (h2.toNat-l.toNat) n),some (.bnd (rows.length-o0) l h h2)) else none
     | _=>none
    | _,_,_=>none
   | _=>none
  | some .string,some (.d (.p (.v (.string s))))=>match (match lo with | none=>some (Value.int .i64 0) | some y=>(look L cur y).bind C9),(match hi with | none=>some (Value.int .i64 s.size) | some y=>(look L cur y).bind C9) with
   | some (.int _ l),some (.int _ h)=>match c with
    | .bnd _ _ _ h2=>some (ofV (.string (s.extract l.toNat h2.toNat)),some (.bnd s.size l h h2))
    | _=>none
   | _,_=>none
  | _,_=>none
 | .slice t x (some lo) (some hi) (some mx)=>match P.underlying t,look L cur x with
  | some (.slice e),some (.d (.os i))=>match R[i]? with
   | some (.sl _ _ rows)=>match (look L cur lo).bind C9,(look L cur hi).bind C9,(look L cur mx).bind C9 with
    | some (.int _ l),some (.int _ h),some (.int _ m)=>match c,B2 P e with
     | .bnd3 _ _ _ _,some _=>some (.d .any,some (.bnd3 rows.length l h m))
     | _,_=>none
    | _,_,_=>none
   | _=>none
  | _,_=>none
 | .call k=>match k.callee with
  | .builtin b=>match Dw L cur k.args.toList with
   | some args=>match b,k.argTypes[0]? with
    | .len,some t=>match P.underlying t with
     | some (.slice _)=>match c with
      | .len _ n=>(Ly R args).map λ k=>(ofV (.int .i64 n),some (.len k n))
      | _=>(Ly R args).map λ n=>(ofV (.int .i64 n),none)
     | some .string=>(Ab2 args).map λ n=>(ofV (.int .i64 n),none)
     | _=>none
    | _,_=>(Ayl b args).map λ n=>(ofV (.int .i64 n),none)
   | none=>none
  | _=>none
 | _=>none
def Ea {α:Type}:Nat->List α->List α
 | 0,_=>[]
 | n+1,l=>l++Ea n l
def Pd.nz:Pd->Pd
 | .v (.slice none 0 0)=>.s []
 | x=>x
def Li:Cl->Bool
 | .own=>true
 | _=>false
def G8 (P : Program) (R : List Res) (c : Cl) (t : TypeId) (len : Nat) (parts : List (Nat × List D)) : Option Out :=
 match P.underlying t with
 | some (.slice e)=>match B2 P e,(Et P e).bind λ z=>Ft z.cells.toList with
  | some (size+1),some zs=>
   bif Nat.beq zs.length (size+1)&&Nat.ble (len*(size+1)) 16777216 then
    match (H3 ((List.range len).map λ i=>(i*(size+1),size+1)) (Ea len zs) parts).bind dPs with
    | some ps=>bif Li c then some ⟨.d (.os R.length),R++[.sl e (size+1) (D4 (size+1) len (ps.map Pd.nz))],some .own⟩ else some ⟨.d (.p (.s (D4 (size+1) len (ps.map Pd.nz)))),R,none⟩
    | none=>bif Li c&&Nat.beq size 0 then (H3 ((List.range len).map λ i=>(i*(size+1),size+1)) (Ea len zs) parts).map λ ds=>⟨.d (.os R.length),R++[.vec e ds],some .own⟩ else none
   else none
  | _,_=>none
 | _=>none
def Hs (R:List Res) (size:Nat):AV->Option (List (List Pd))
 | .d (.p (.s rows))=>some rows
 | .d (.p (.v (.slice none 0 0)))=>some []
 | .d (.os i)=>match R[i]? with
  | some (.sl _ s rows)=>bif Nat.beq s size then some rows else none
  | _=>none
 | .d (.osb i lo n s2)=>match R[i]? with
  | some (.sl _ s rows)=>bif Nat.beq s size&&Nat.beq s2 s then some ((rows.drop lo).take n) else none
  | _=>none
 | _=>none
def C3 (P : Program) (R : List Res) (c : Cl) (ts : List TypeId) (args : List AV) : Option Out :=
 match ts,args with
 | [t, u], [x, y] => bif Nat.beq t u then match P.underlying t with
  | some (.slice e)=>match B2 P e,(P.info? e).map (·.bytes),(Et P e).map (λ z=>z.cells.size) with
   | some (size+1),some bytes,some zn=>match c,Hs R (size+1) y with
    | .app _ _ _ _ rows',some rows2=>bif Nat.beq zn (size+1) then match x with
     | .d (.p (.v (.slice none 0 0)))=>some ⟨.d (.os (R.length+1)),R++[.non,.sl e (size+1) rows'],some (.app [] rows2 (size+1) (rows2.length*(bytes+1)) rows')⟩
     | .d (.os i)=>match R[i]? with
      | some (.sl e' s' rows)=>bif Nat.beq e' e&&Nat.beq s' (size+1) then some ⟨.d (.os R.length),R.set i .non++[.sl e (size+1) rows'],some (.app rows rows2 (size+1) ((rows.length+rows2.length)*(bytes+1)) rows')⟩ else none
      | _=>none
     | _=>none
     else none
    | _,_=>none
   | _,_,_=>none
  | _=>none
  else none
 | _,_=>none
def zB:Pd->Bool
 | .v (.slice none 0 0)=>true
 | .v (.slice _ _ _)=>false
 | .v _=>true
 | .s _=>false
def J4 (P:Program) (R:List Res) (c:Cl) (ts:List TypeId) (i g k size off:Nat) (y:AV):Option Out:=
 match R[i]?,R[g]?,c with
 | some (.dsl e s g'),some (.gh s2 tys rows none),.appD _ _ row _ r1 r2 sz n rows'=>match tys[off]? with
  | some (e2,sz2)=>bif (Nat.beq g g'&&Nat.beq s s2)&&(Nat.beq s size&&Nat.blt off s) then
   match C3 P ((R.set g .non).set i (.dsl e s R.length)++[.gh s tys rows (some (k,off)),.sl e2 sz2 r1]) (.app r1 r2 sz n rows') ts [.d (.os (R.length+1)),y] with
   | some ⟨v,R',some (.app _ b z m r')⟩=>some ⟨v,R',some (.appD rows k row off r1 b z m r')⟩
   | _=>none
   else none
  | none=>none
 | _,_,_=>none
def Tt (R : List Res) (c : Cl) (o : Oper) (i k size off : Nat) (ds : List D) (n : Nat) : Option Out :=
 match R[i]?,ds,c with
 | some (.dsl e s g),[.os m],.updD _ _ _ row _ rows'=>match R[g]?,R[m]? with
  | some (.gh s2 tys rows (some (k0,off0))),some (.sl e2 sz2 r1)=>match tys[off]? with
   | some (e3,sz3)=>
    bif (Nat.beq s size&&Nat.beq s s2)&&((Nat.beq off off0&&Nat.beq n 1)&&((Nat.blt off s&&o.dst.isNone)&&(Nat.beq e2 e3&&Nat.beq sz2 sz3))) then
     some ⟨.tup [],(((R.set m .non).set g .non).set i (.dsl e s R.length))++[.gh s tys rows' none],some (.updD rows k0 k row (row.take off++(.s r1::row.drop (off+1))) rows')⟩
    else none
   | none=>none
  | _,_=>none
 | _,_,_=>none
def L3 (P : Program) (R : List Res) (c : Cl) (ts : List TypeId) (i n s : Nat) (y : AV) : Option Out :=
 match ts with
 | [t, u] => bif Nat.beq t u then match P.underlying t with
  | some (.slice e)=>match B2 P e,Hs R s y,R[i]? with
   | some (size+1),some src,some (.sl e' s' rows)=>match c with
    | .appP _ _ _ _ m _ rows'=>bif Nat.beq s' s&&Nat.beq s (size+1) then
      some ⟨.d (.osb i 0 m s),R.set i (.sl e' s' rows'),some (.appP rows src s n m (rows.take n++(src++rows.drop (n+src.length))) rows')⟩
     else none
    | _=>none
   | _,_,_=>none
  | _=>none
  else none
 | _=>none
def Lz (P:Program) (R:List Res) (c:Cl) (ts:List TypeId) (i n s:Nat) (y:AV):Option Out:=
 match R[i]? with
 | some (.sl e s' rows)=>bif Nat.beq s' s then C3 P (R.set i .non++[.sl e s' (rows.take n)]) c ts [.d (.os R.length),y] else none
 | _=>none
def Om (P:Program) (R:List Res) (c:Cl) (ts:List TypeId) (i n s:Nat) (y:AV):Option Out:=
 match c with
 | .appP ..=>L3 P R c ts i n s y
 | _=>Lz P R c ts i n s y
def Vt (R:List Res):AV->Option (Nat×Nat×Nat×Nat)
 | .d (.os i)=>match R[i]? with
  | some (.sl _ s rows)=>some (i,0,rows.length,s)
  | _=>none
 | .d (.osb i lo n s)=>some (i,lo,n,s)
 | _=>none
def P0 (P : Program) (R : List Res) (c : Cl) (ts : List TypeId) (args : List AV) : Option Out :=
 match ts,args with
 | [t], [x] => match P.underlying t with
  | some (.slice e)=>match B2 P e,(Et P e).bind λ z=>Ft z.cells.toList,Vt R x with
   | some (size+1),some zd,some (i,lo,n,s)=>match dPs zd,R[i]?,c with
    | some zs,some (.sl e' s2 rows),.eqr _ rows'=>bif (Nat.beq s s2&&Nat.beq s (size+1))&&Nat.beq zs.length (size+1) then
      some ⟨.tup [],R.set i (.sl e' s2 rows'),some (.eqr (rows.take lo++(List.replicate n (zs.map Pd.nz)++rows.drop (lo+n))) rows')⟩
     else none
    | _,_,_=>none
   | _,_,_=>none
  | _=>none
 | _,_=>none
def Tv (P : Program) (R : List Res) (c : Cl) (ts : List TypeId) (args : List AV) : Option Out :=
 match ts,args with
 | t :: _, [x, y] => match P.underlying t with
  | some (.slice e)=>match B2 P e,Vt R x with
   | some (size+1),some (i,lo,n,s)=>match Hs R (size+1) y,R[i]?,c with
    | some src,some (.sl e' s2 rows),.cpy _ _ _ m _ rows'=>bif Nat.beq s s2&&Nat.beq s (size+1) then
      some ⟨ofV (.int .i64 m),R.set i (.sl e' s2 rows'),some (.cpy src (size+1) n m (rows.take lo++(src.take m++rows.drop (lo+m))) rows')⟩
     else none
    | _,_,_=>none
   | _,_=>none
  | _=>none
 | _,_=>none
def Lx (P:Program) (R:List Res) (c:Cl) (t:TypeId) (len:Option Value):Option Out:=
 match P.underlying t,len,c with
 | some (.slice e),some (.int .i64 l),.room _ _ rows'=>match B2 P e,(P.info? e).map (·.bytes),(Et P e).bind λ z=>Ft z.cells.toList with
  | some (size+1),some bytes,some ds=>match dPs ds with
   | some zs=>bif Nat.beq zs.length (size+1) then some ⟨.d (.os R.length),R++[.sl e (size+1) rows'],some (.room (l*(bytes+1)) (List.replicate l.toNat zs) rows')⟩ else none
   | none=>none
  | _,_,_=>none
 | some (.slice e),some (.int .i64 l),.roomZ _ _ rows'=>match B2 P e,(P.info? e).map (·.bytes),(Et P e).bind λ z=>Ft z.cells.toList with
  | some (size+1),some bytes,some ds=>match dPs ds with
   | some zs=>bif Nat.beq zs.length (size+1)&&zs.all zB then some ⟨.d (.os R.length),R++[.zsl e (size+1) rows'],some (.roomZ (l*(bytes+1)) (List.replicate l.toNat (zs.map Pd.nz)) rows')⟩ else none
   | none=>none
  | _,_,_=>none
 | _,_,_=>none
def Ku (s:ByteArray):List Int:=s.data.toList.map λ b=>(b.toNat:Int)
def G_ (s:ByteArray):List (List Pd):=(Ku s).map λ n=>[Pd.v (.int .u8 n)]
def Tw (P:Program) (R:List Res) (c:Cl) (s d:TypeId) (x:Option Value):Option Out:=
 match P.underlying s,P.underlying d,x,c with
 | some .string,some (.slice e),some (.string b),.room _ _ rows'=>match P.underlying e with
  | some (.int .u8)=>some ⟨.d (.p (.s rows')),R,some (.room b.size (G_ b) rows')⟩
  | _=>none
 | _,_,_,_=>none
def M7 (P:Program) (R:List Res) (c:Cl) (s d:TypeId) (x:Option Value):Option Out:=
 match P.underlying s,P.underlying d,x,c with
 | some .string,some (.slice e),some (.string b),.roomZ _ _ rows'=>match P.underlying e with
  | some (.int .u8)=>bif Vq e then some ⟨.d (.os R.length),R++[.sl e 1 rows'],some (.roomZ b.size (G_ b) rows')⟩ else none
  | _=>none
 | _,_,_,_=>none
def M8 (P:Program) (R:List Res) (c:Cl) (s d:TypeId) (x:Option AV):Option Out:=
 match P.underlying d,x,c with
 | some (.slice e),some (.d (.os i)),.own=>match R[i]?,P.underlying e with
  | some (.sl et _ (_::_)),some (.int .u8)=>bif Nat.beq s d&&Vq et then some ⟨.d (.os i),R,some .own⟩ else none
  | _,_=>none
 | _,_,_=>none
def Pz (P:Program) (R:List Res) (c:Cl) (s d:TypeId) (x:Option AV):Option Out:=
 match Tw P R c s d (x.bind C9) with
 | some o=>some o
 | none=>match M7 P R c s d (x.bind C9) with
  | some o=>some o
  | none=>M8 P R c s d x
def isZ:Cl->Bool
 | .own=>true
 | .roomZ ..=>true
 | _=>false
def K1:Operand->Operand->Bool
 | .tmp a,.tmp b=>Nat.beq a b
 | .const (.int .i64 a),.const (.int .i64 b)=>a==b
 | _,_=>false
def Ail:Cl->Bool
 | .call _ _ _ _ R2 pi=>R2.isEmpty&&pi.isEmpty
 | _=>false
def Rf (R:List Res) (c:Cl) (o:Oper) (i k size off:Nat) (ds:List D) (n:Nat):Option Out:=
 match R[i]?,c,dPs ds with
 | some (.sl e s rows),.upd _ _ row _ rows',some ps=>
  bif Nat.beq s size&&(Nat.beq ds.length n&&(Nat.ble (off+n) size&&o.dst.isNone)) then some ⟨.tup [],R.set i (.sl e s rows'),some (.upd rows k row (row.take off++(ps++row.drop (off+n))) rows')⟩ else none
 | _,_,_=>none
def Ts (R:List Res) (c:Cl) (o:Oper) (i k size off:Nat) (ds:List D) (n:Nat):Option Out:=
 match ds with
 | [.os m]=>match R[m]? with
  | some (.sl _ _ rows2)=>bif Nat.beq m i then none else Rf (R.set m .non) c o i k size off [.p (.s rows2)] n
  | _=>none
 | _=>none
def I8 (P : Program) (L : List Ent) (cur : C_) (R : List Res) (c : Cl) (o : Oper) : Option Out :=
 match Cq P L cur R c o.op with
 | some (v,k)=>some ⟨v,R,k⟩
 | none=>match o.op with
  | .box t x=>match (look L cur x).bind Hv,B2 P t with
    | some cells,some n=>bif Nat.beq cells.length n then some ⟨.d (.o R.length 0),R++[.box t cells],none⟩ else none
    | _,_=>none
  | .alloc t=>match (Et P t).bind λ z=>Ft z.cells.toList with
    | some cells=>some ⟨.d (.o R.length 0),R++[.box t cells],none⟩
    | none=>none
  | .store t a x=>bif cur.isEmpty then match look L cur a,(look L cur x).bind Hv,B2 P t with
    | some (.d (.o i off)),some ds,some n=>match R[i]? with
     | some (.box u cells)=>bif Nat.beq ds.length n&&Nat.ble (off+n) cells.length&&o.dst.isNone then some ⟨.tup [],R.set i (.box u (Nb cells off ds)),none⟩ else none
     | _=>none
    | some (.d (.oe i k size off)),some ds,some n=>match Rf R c o i k size off ds n with
     | some x=>some x
     | none=>match Tt R c o i k size off ds n with
      | some x=>some x
      | none=>Ts R c o i k size off ds n
    | _,_,_=>none
   else none
  | .buildSlice t len parts=>match J1 L cur parts.toList with
    | some ps=>G8 P R c t len ps
    | none=>none
  | .convert s d x=>Pz P R c s d (look L cur x)
  | .makeSlice t l k=>bif K1 l k then Lx P R c t ((look L cur l).bind C9) else none
  | .call k=>match k.callee with
   | .value f=>match look L cur f,Dw L cur k.args.toList with
    | some (.d (.fn (.func g) first caps)),some args=>Gw R (first.map AV.d++args++caps.map AV.d) g c
    | _,_=>none
   | .builtin .append=>match Dw L cur k.args.toList with
    | some [.d (.oi i g q size off),y]=>J4 P R c k.argTypes.toList i g q size off y
    | some [.d (.osb i 0 n s),y]=>Om P R c k.argTypes.toList i n s y
    | some args=>C3 P R c k.argTypes.toList args
    | none=>none
   | .builtin .clear=>match Dw L cur k.args.toList with
    | some args=>P0 P R c k.argTypes.toList args
    | none=>none
   | .builtin .copy=>match Dw L cur k.args.toList with
    | some args=>Tv P R c k.argTypes.toList args
    | none=>none
   | _=>none
  | _=>none
def Aqu:Cl->Bool
 | .callB _ _ _ _ _ _=>true
 | .call _ _ _ _ _ pi=>pi.isEmpty
 | _=>false
def isW:Cl->Bool
 | .appD ..=>true
 | .appP ..=>true
 | _=>false
def Nf (r:Bool) (c:Cl) (o:Oper):Bool:=
 match o.op with
 | .store ..=>false
 | .call k=>match k.callee with
  | .value _=>r || Aqu c
  | .builtin .clear | .builtin .copy=>false
  | _=>!isW c
 | _=>true
def isR:Cl->Bool
 | .whenR _ _=>true
 | _=>false
def Gi:Cl->Cl
 | .when _ c=>c
 | .whenR _ c=>c
 | c=>c
def Sf (L:List Ent):C_->C_->Bool
 | _,[]=>true
 | acc,(t,b)::p=>match D7 L t with
  | some e=>F4 e.p acc&&Sf L (acc++[(t,b)]) p
  | none=>false
def Nv (L:List Ent) (cur:C_) (r:Bool) (c:Cl) (o:Oper):Bool:=cur.isEmpty || (Nf r c o&&(!r || Sf L [] cur))
def J9 (cur:C_) (r:Bool) (cs:List (Bool×Bool)) (x:Cl):Cl:=bif cur.isEmpty then x else bif r then .whenR cs x else .when cs x
def Sz (L:List Ent) (t:Nat) (p:C_) (v:AV):List Ent:=
 ⟨t,p,v⟩::L.filter λ e=>!(Nat.beq e.t t)&&e.p.all λ g=>!(Nat.beq g.1 t)
def A4g:Op->Bool
 | .binOp .quo .. | .binOp .rem .. | .indexAddr .. | .slice ..=>true
 | _=>false
def Abz (P:Program) (n:Nat) (ops:Array Oper) (L:List Ent) (R:List Res) (c:Cl) (o:Oper):Option (List Ent×List Res×Option Cl):=
 match Lv ops L o with
 | none=>none
 | some cur=>
  match I8 P L cur R (Gi c) o,Gj L cur with
  | some out,some cs=>bif Nv L cur (isR c) (Gi c) o then
   let k:=out.c.map (J9 cur (isR c) cs)
   match o.dst with
   | some d=>bif Nat.blt d n&&cur.all (λ g=>!(Nat.beq g.1 d)) then some (Sz L d cur out.v,out.R,k) else none
   | none=>bif cur.isEmpty then some (L,out.R,k) else none
   else none
  | _,_=>none
def Ri (P : Program) (n : Nat) (ops : Array Oper) : List Nat -> List Ent -> List Res -> List Cl -> Option (List Ent × List Res × List Cl)
 | [],L,R,_=>some (L,R,[])
 | i::is,L,R,cls=>match ops[i]? with
  | none=>none
  | some o=>match Abz P n ops L R (cls.headD .nop) o with
   | none=>none
   | some (L',R',some c)=>match Ri P n ops is L' R' cls.tail with
    | some (L2,R2,cs)=>some (L2,R2,c::cs)
    | none=>none
   | some (L',R',none)=>Ri P n ops is L' R' cls
end Go.SL
namespace Go.SL
def pt (a:Act) (p:C_):Prop:=∀ g,g∈p->a.tmps[g.1]? = some (.bool g.2)
def V3 (S:Nat->Prop) (w:World) (ρ:List Value) (a:Act) (e:Ent):Prop:=
 (pt a e.p->∃ v,a.tmps[e.t]? = some v/\RdA S w ρ v e.v)/\(¬pt a e.p->a.tmps[e.t]? = some undef)
def Ci (S:Nat->Prop) (w:World) (ρ:List Value) (a:Act) (L:List Ent):Prop:=∀ e,e∈L->V3 S w ρ a e
def Sat (n:Nat) (C:Ctx) (L:List Ent) (R:List Res) (a:Act) (w:World):Prop:=
 a.defers=C.df/\a.tmps.size=n/\∃ S ρ,Inv C S w ρ R/\Ci S w ρ a L
theorem C5:∀ {L:List Ent} {t:Nat} {e:Ent},D7 L t=some e->e∈L/\e.t=t
 | [],_,_,h=>by simp [D7] at h
 | x::r,t,e,h=>by
  simp only [D7] at h
  cases hb:Nat.beq x.t t with
  | true=>rw [hb] at h;simp at h;subst h;exact⟨ak,aj hb⟩
  | false=>rw [hb] at h;simp at h;obtain⟨h1,h2⟩:=C5 h;grind
theorem Q1 {a:Act}:∀ {p q:C_},F4 p q=true->pt a q->pt a p
 | [],_,_,_=>λ g hg=>by cases hg
 | (t,x)::p,(u,y)::q,h,hq=>by
  simp only [F4,ab,dG] at h
  obtain⟨⟨h1,h2⟩,h3⟩:=h
  have ht:=aj h1
  subst ht;subst h2
  intro g hg
  rcases ag.1 hg with rfl | hg
  ·exact hq _ ak
  ·exact Q1 h3 (λ g hg=>hq g (al _ hg)) g hg
 | _::_,[],h,_=>by simp [F4] at h
section
variable {P:Program} {C:Ctx} {S:Nat->Prop} {w:World} {ρ:List Value} {R:List Res} {L:List Ent} {cur:C_} {a:Act}
theorem Am0 {v:Value} {d:D} (h:dOf v=some d):Rd S w ρ v d:=by
 unfold dOf at h
 cases hb:v.oneCell' with
 | true=>rw [hb] at h;simp at h;subst h;exact .p (.v v hb)
 | false=>rw [hb] at h;simp at h
theorem Iy:∀ {l:List Value} {ds:List D},Ft l=some ds->A5 (Rd S w ρ) l ds
 | [],ds,h=>by simp [Ft] at h;subst h;trivial
 | v::r,ds,h=>by
  simp only [Ft] at h
  split at h
  ·rename_i d ds' h1 h2
   simp at h;subst h
   exact⟨Am0 h1,Iy h2⟩
  ·cases h
theorem Av4 {v:Value} {av:AV} (h:N4 v=some av):RdA S w ρ v av:=by
 unfold N4 at h
 split at h
 ·rename_i cs
  cases hd:Ft cs.toList with
  | none=>rw [hd] at h;cases h
  | some ds=>
   rw [hd] at h;simp at h;subst h
   have:=RdA.agg (S:=S) (w:=w) (ρ:=ρ) (Iy (S:=S) (w:=w) (ρ:=ρ) hd)
   simpa using this
 ·cases h
 ·cases hd:dOf v with
  | none=>rw [hd] at h;cases h
  | some d=>rw [hd] at h;simp at h;subst h;exact .d (Am0 hd)
theorem Bw (hL:Ci S w ρ a L) (hp:pt a cur) {x:Operand} {av:AV} (h:look L cur x=some av):RdA S w ρ (a.eval x) av:=by
 unfold look at h
 split at h
 ·exact Av4 h
 ·rename_i t
  split at h
  ·rename_i e he
   obtain⟨hm,ht⟩:=C5 he
   cases hb:F4 e.p cur with
   | false=>rw [hb] at h;simp at h
   | true=>
    rw [hb] at h;simp at h;subst h
    obtain⟨v,hv,hr⟩:=(hL e hm).1 (Q1 hb hp)
    rw [ht] at hv
    have:a.eval (.tmp t)=v:=by simp [Act.eval,Array.getD_eq_getD_getElem?,hv]
    rw [this];exact hr
  ·cases h
 ·simp at h;subst h
  exact .d (.fn (xs:=[]) (cs:=[]) rfl rfl (by simp) (by simp))
 ·cases h
theorem Fc (hL:Ci S w ρ a L) (hp:pt a cur):∀ {l:List Operand} {avs:List AV},Dw L cur l=some avs->A5 (RdA S w ρ) (l.map a.eval) avs
 | [],avs,h=>by simp [Dw] at h;subst h;trivial
 | x::r,avs,h=>by
  simp only [Dw] at h
  split at h
  ·rename_i v l h1 h2
   simp at h;subst h
   exact⟨Bw hL hp h1,Fc hL hp h2⟩
  ·cases h
theorem Bq (hL:Ci S w ρ a L) (hp:pt a cur) {x:Operand} {v:Value} (h:(look L cur x).bind C9=some v):a.eval x=v:=by
 cases hx:look L cur x with
 | none=>rw [hx] at h;cases h
 | some av=>
  rw [hx] at h
  simp only [ac] at h
  unfold C9 at h
  split at h
  ·simp at h;subst h;exact (Bw hL hp hx).exact_inv
  ·cases h
theorem Ta (hL:Ci S w ρ a L) (hp:pt a cur) {x:Operand} {b:Bool} (h:(look L cur x).bind Ln=some b):a.eval x = .bool b:=by
 cases hx:look L cur x with
 | none=>rw [hx] at h;cases h
 | some av=>
  rw [hx] at h
  simp only [ac] at h
  unfold Ln at h
  split at h
  ·simp at h;subst h;exact (Bw hL hp hx).exact_inv
  ·cases h
theorem M2 {v:Value} {av:AV} {ds:List D} (hr:RdA S w ρ v av) (h:Hv av=some ds):A5 (Rd S w ρ) v.cells.toList ds:=by
 cases av with
 | d x=>
  simp [Hv] at h;subst h
  have hx:=hr.d_inv
  have h1:=hx.one
  have:v.cells = #[v]:=by cases v <;> first | rfl | simp [Value.oneCell'] at h1
  rw [this]
  exact⟨hx,trivial⟩
 | agg ds'=>
  simp [Hv] at h;subst h
  obtain⟨vs,rfl,h2⟩:=hr.agg_inv
  simpa [Value.cells] using h2
 | tup l=>simp [Hv] at h
theorem Eb {v:Value} (h:v.oneCell'=true):RdA S w ρ v (ofV v):=.d (.p (.v v h))
theorem Of {t:TypeId} {d:TypeDesc} (h:P.underlying t=some d):(isAgg t).run P w = .ok (Nt d) w:=by
 cases d <;> simp [isAgg,run_underlying h,Nt]
theorem Co {t:TypeId} {n:Nat} (h:B2 P t=some n):(sizeOf t).run P w = .ok n w:=by
 unfold B2 at h
 cases hi:P.info? t with
 | none=>rw [hi] at h;cases h
 | some i=>
  rw [hi] at h;simp at h
  simp [sizeOf,typeInfo,hi,h]
theorem E3 {t:TypeId} {z:Value} (h:Et P t=some z):(zeroValue t).run P w = .ok z w:=by
 unfold Et at h
 cases hi:P.info? t with
 | none=>rw [hi] at h;cases h
 | some i=>
  rw [hi] at h;simp at h
  simp [zeroValue,typeInfo,hi,h]
theorem F7 {t : TypeId} {ad : Addr} {ds : List D} {av : AV} (h : Gt P t ds = some av)
  (hc:∀ (j:Nat) d,ds[j]? = some d->∃ x,w.cell? (ad.add j)=some x/\Rd S w ρ x d) :
  ∃ v,(loadVar t ad).run P w = .ok v w/\RdA S w ρ v av:=by
 unfold Gt at h
 cases hu:P.underlying t with
 | none=>simp [Qq,hu] at h
 | some td =>
  have ha:Qq P t=some (Nt td):=by simp [Qq,hu]
  rw [ha] at h
  cases hb:Nt td with
  | true=>
   rw [hb] at h
   split at h
   ·rename_i n hn hsz
    cases hl:Nat.beq ds.length n with
    | false=>rw [hl] at h;simp at h
    | true=>
     rw [hl] at h;simp at h;subst h
     have hlen:ds.length=n:=aj hl
     have hxs:∃ xs:List Value,xs.length=ds.length/\∀ (j:Nat) x,xs[j]? = some x->w.cell? (ad.add j)=some x/\∀ d,ds[j]? = some d->Rd S w ρ x d:=by
      refine⟨(List.range ds.length).map λ j=>(w.cell? (ad.add j)).getD undef,by simp,λ j x hx=>?_⟩
      rw [az] at hx
      cases hj:(List.range ds.length)[j]? with
      | none=>rw [hj] at hx;cases hx
      | some k=>
       rw [hj] at hx
       have hk:j<ds.length/\k=j:=by
        obtain⟨h1,h2⟩:=aa.1 hj
        simp at h1 h2;exact⟨h1,h2.symm⟩
       obtain⟨hk1,rfl⟩:=hk
       obtain⟨y,hy,hR⟩:=hc k ds[k] (ai hk1)
       grind
     obtain⟨xs,hxl,hx⟩:=hxs
     have hlc:=run_loadCells_list (P:=P) w ad xs (λ j v hv=>(hx j v hv).1)
     refine⟨.agg xs.toArray,?_,.agg (d4 hxl λ j x d h1 h2=>(hx j x h1).2 d h2)⟩
     simp [loadVar,Of hu,hb,Co hsz,←hlen,←hxl,hlc]
   all_goals simp_all
  | false=>
   rw [hb] at h
   split at h
   ·simp_all
   ·split at h
    ·rename_i d
     simp at h;subst h
     obtain⟨x,hx,hR⟩:=hc 0 d rfl
     rw [Ug] at hx
     refine⟨x,?_,.d hR⟩
     simp [loadVar,Of hu,hb,hx]
    ·cases h
   ·cases h
end
end Go.SL
namespace Go.SL
section
variable {P:Program} {C:Ctx} {S:Nat->Prop} {w:World} {ρ:List Value} {R:List Res} {L:List Ent} {cur:C_} {a:Act}
def A0y (P:Program) (S:Nat->Prop) (w:World) (ρ:List Value) (a:Act) (o:Oper) (v:AV):Prop:=
 ∃ x,(execOp a.eval o).run P w = .ok (.value x) w/\RdA S w ρ x v
theorem A0s {op:BinOp} {x y z:Value} (h:bin op x y=some z) (t:TypeId) (u v:Operand) :
    (do eqGuard op t u v x y;binOp op t x y:Sem Value).run P w = .ok z w/\z.oneCell'=true:=by
  unfold bin at h
  split at h <;> first
    | (cases h;done)
    | (split at h
       · rename_i hk;subst hk;simp at h;subst h
         exact⟨by simp [eqGuard,binOp,Op.intArith,Op.intCmp,Op.intBits,A0u,orI,Axf],rfl⟩
       · cases h)
    | (rename_i n; simp at h; subst h
       exact⟨by simp [eqGuard,binOp,Op.shift,Sq,Axi];omega,rfl⟩)
    | (simp at h; subst h
       exact⟨by simp [eqGuard,binOp,Op.stringOp],rfl⟩)
theorem run_equalIn_bool (t:TypeId) (ht:P.underlying t=some .bool) (a b:Bool) (d:Nat):(Op.equalIn (d+1) t (.bool a) (.bool b)).run P w = .ok (a==b) w:=by
 simp [Op.equalIn,run_underlying ht]
theorem Pl (t:TypeId) (ht:P.underlying t=some .bool) (a b:Bool):(Op.equal t (.bool a) (.bool b)).run P w = .ok (a==b) w:=
 run_equalIn_bool t ht a b 9999
theorem Av2 {op:BinOp} {x y z:Value} (h:Ash op x y=some z) (t:TypeId) (ht:P.underlying t=some .bool) (u v:Operand) :
  (do eqGuard op t u v x y;binOp op t x y:Sem Value).run P w = .ok z w/\z.oneCell'=true:=by
 unfold Ash at h
 split at h
 ·simp at h;subst h
  refine⟨?_,rfl⟩
  simp only [eqGuard,binOp,Sem.run_bind,Pl t ht,Result.andThen_ok]
  rfl
 ·simp at h;subst h
  refine⟨?_,rfl⟩
  simp only [eqGuard,binOp,Sem.run_bind,Pl t ht,Result.andThen_ok]
  rfl
 ·cases h
theorem Av1 {op:BinOp} {x y z:Value} {n:Int} (h:Asg op x y=some (z,n)) (hn:n≠0) (t:TypeId) (u v:Operand) :
    (do eqGuard op t u v x y;binOp op t x y:Sem Value).run P w = .ok z w/\z.oneCell'=true:=by
  unfold Asg at h
  split at h <;> first
    | (cases h;done)
    | (split at h
       · rename_i hk;subst hk;simp at h;obtain⟨rfl,rfl⟩:=h
         exact⟨by simp [eqGuard,binOp,Op.intDiv,hn],rfl⟩
       · cases h)
    | (rename_i a b
       simp only [ah,aq] at h
       obtain⟨rfl,rfl⟩:=h
       have hb:¬(((a.size+b.size:Nat):Int)>IntKind.i64.max):=by
         have e:IntKind.i64.max=9223372036854775807:=by decide
         rw [e]
         unfold Acl at hn
         cases hd:decide (((a.size+b.size:Nat):Int)<=9223372036854775807) with
         | true=>have:=dN hd;omega
         | false=>rw [hd] at hn;exact absurd rfl hn
       exact⟨by simp only [eqGuard,binOp,Op.stringOp,if_neg hb,Sem.run_bind,Sem.run_pure];rfl,rfl⟩)
theorem A2h {op:UnOp} {x z:Value} (h:un op x=some z):(Op.unary op x).run P w = .ok z w/\z.oneCell'=true:=by
 unfold un at h
 split at h <;> first
  | (cases h;done)
  | (simp at h;subst h;exact⟨by simp [Op.unary,Op.intArith],rfl⟩)
theorem Aga:∀ {l:List Value} {m n:Int},Aba m l=some n->(l.foldlM Builtin.max2 (.int .i64 m):Sem Value).run P w = .ok (.int .i64 n) w
 | [],m,n,h=>by simp [Aba] at h;subst h;simp
 | x::r,m,n,h=>by
  simp only [Aba] at h
  split at h
  ·rename_i y
   have:=Aga h
   have e:(if y>m then y else m)=max m y:=by rw [Int.max_def];split <;> split <;> omega
   simp only [List.foldlM_cons,Builtin.max2,e]
   simpa using this
  ·cases h
theorem Af9:∀ {l:List Value} {m n:Int},Aa8 m l=some n->(l.foldlM Builtin.min2 (.int .i64 m):Sem Value).run P w = .ok (.int .i64 n) w
 | [],m,n,h=>by simp [Aa8] at h;subst h;simp
 | x::r,m,n,h=>by
  simp only [Aa8] at h
  split at h
  ·rename_i y
   have:=Af9 h
   have e:(if y<m then y else m)=min m y:=by rw [Int.min_def];split <;> split <;> omega
   simp only [List.foldlM_cons,Builtin.min2,e]
   simpa using this
  ·cases h
theorem Aff {l:List AV} {xs vs:List Value} (h:N0 l=some xs) (hv:A5 (RdA S w ρ) vs l):vs=xs:=by
 induction l generalizing xs vs with
 | nil=>cases vs with
  | nil=>simp [N0] at h;exact h.symm ▸ rfl
  | cons=>exact hv.elim
 | cons y l ih=>cases vs with
  | nil=>exact hv.elim
  | cons v vs=>
   simp only [N0] at h
   split at h
   ·rename_i x xs' h1 h2
    simp at h;subst h
    have:v=x:=by
     unfold C9 at h1
     split at h1
     ·simp at h1;subst h1;exact hv.1.exact_inv
     ·cases h1
    rw [this,ih h2 hv.2]
   ·cases h
theorem Oo (hI:Inv C S w ρ R) {i g e s:Nat} {tys:List (TypeId×Nat)} {rows:List (List Pd)} {hole:Option (Nat×Nat)} {h:Value} (hi:R[i]? = some (.dsl e s g)) (hg:R[g]? = some (.gh s tys rows hole))
  (hρ:ρ[i]? = some h) (h1:h.oneCell'=true) (hs:0<s):∃ f xs cs,ρ[g]? = some (.func f xs cs)/\gOk S w s tys rows hole xs /\
   ((h = .slice none 0 0/\rows=[])\/∃ b o cap vs,h = .slice (some ⟨b,o,none⟩) rows.length cap/\w.heap[b]? = some (.cells vs e (0,0))/\rows.length<=cap/\cap<=maxLen/\o+cap*s<=vs.size /\
    ∀ (k:Nat) x,xs[k]? = some x->vs[o+k]? = some x):=by
 obtain⟨f,xs,cs,k1,k2⟩:=(hI.ok i _ h hi hρ).live h1
 obtain⟨f',xs',cs',k3,k4⟩:=(hI.ok g _ _ hg k1).live rfl
 cases k3
 have hsz:=k4.2.1
 refine⟨f,xs,cs,k1,k4,?_⟩
 rcases k2 with⟨k2,k5⟩ | ⟨b,o,len,cap,vs,k2,k5,k6,k7,k8,k9,k10⟩
 ·refine .inl ⟨k2,?_⟩
  rw [k5] at hsz
  have:rows.length=0:=by
   rcases Nat.eq_zero_or_pos rows.length with h | h
   ·exact h
   ·have:=Nat.mul_pos h hs;omega
  exact bo this
 ·have:len=rows.length:=by
   rw [k9] at hsz
   exact Nat.eq_of_mul_eq_mul_right hs hsz
  subst this
  exact .inr ⟨b,o,cap,vs,k2,k5,k6,k7,k8,k10⟩
theorem Amn (hI:Inv C S w ρ R) {vs:List Value} {l:List AV} (hr:A5 (RdA S w ρ) vs l) {n:Int} (h:Ly R l=some n) :
  ∃ (b:Option Addr) (k c:Nat),vs=[.slice b k c]/\n=k:=by
 have one:∀ {av:AV},A5 (RdA S w ρ) vs [av]->∃ x,vs=[x]/\RdA S w ρ x av:=by
  intro av h
  match vs,h with
  | [x],h=>exact⟨x,rfl,h.1⟩
  | [],h=>exact h.elim
  | _::_::_,h=>exact h.2.elim
 unfold Ly at h
 split at h
 ·simp at h;subst h
  obtain⟨x,rfl,hx⟩:=one hr
  cases hx.d_inv with
  | p h=>
   obtain⟨b,c,rfl,_⟩:=h.slice_form
   exact⟨b,_,c,rfl,rfl⟩
 ·simp at h;subst h
  obtain⟨x,rfl,hx⟩:=one hr
  rw [hx.exact_inv]
  exact⟨none,0,_,rfl,rfl⟩
 ·rename_i i
  split at h
  ·rename_i e size rows hi
   simp at h;subst h
   obtain⟨x,rfl,hx⟩:=one hr
   cases hx.d_inv with
   | os hρ h1=>
    rcases (hI.ok i _ x hi hρ).live h1 with⟨rfl,rfl⟩ | ⟨b,o,cap,vs,rfl,_⟩
    ·exact⟨none,0,0,rfl,rfl⟩
    ·exact⟨_,_,_,rfl,rfl⟩
  ·rename_i e s g hi
   split at h
   ·rename_i s2 tys rows hole hg
    cases hb:(Nat.beq s s2&&Nat.blt 0 s) with
    | false=>rw [hb] at h;simp at h
    | true=>
     rw [hb] at h
     simp at h;subst h
     simp only [ab] at hb
     have:=aj hb.1
     subst this
     obtain⟨x,rfl,hx⟩:=one hr
     cases hx.d_inv with
     | os hρ h1=>
      obtain⟨_,_,_,_,_,k⟩:=Oo hI hi hg hρ h1 (by have:=hb.2;simpa [Nat.blt_eq] using this)
      rcases k with⟨rfl,rfl⟩ | ⟨b,o,cap,vs,rfl,_⟩
      ·exact⟨none,0,0,rfl,rfl⟩
      ·exact⟨_,_,_,rfl,rfl⟩
   ·cases h
  ·rename_i e cells hi
   simp at h;subst h
   obtain⟨x,rfl,hx⟩:=one hr
   cases hx.d_inv with
   | os hρ h1=>
    obtain⟨b,vs,rfl,_⟩:=(hI.ok i _ x hi hρ).live h1
    exact⟨_,_,_,rfl,rfl⟩
  ·cases h
 ·simp at h;subst h
  obtain⟨x,rfl,hx⟩:=one hr
  cases hx.d_inv with
  | osb _ _ _ _ _=>exact⟨_,_,_,rfl,rfl⟩
 ·cases h
theorem Amm {vs:List Value} {l:List AV} (hr:A5 (RdA S w ρ) vs l) {n:Int} (h:Ab2 l=some n):∃ s:ByteArray,vs=[.string s]/\n=s.size:=by
 unfold Ab2 at h
 split at h
 ·simp at h;subst h
  match vs,hr with
  | [x],hr=>rw [hr.1.exact_inv];exact⟨_,rfl,rfl⟩
  | [],hr=>exact hr.elim
  | _::_::_,hr=>exact hr.2.elim
 ·cases h
theorem Yd {s:TypeId} {f k:Nat} {ft:TypeId} (h:Py P s f=some (k,ft)) :
  ∃ fields x,P.underlying s=some (.struct fields)/\fields[f]? = some x/\x.offset=k/\x.type=ft:=by
 unfold Py at h
 split at h
 ·rename_i fields hu
  split at h
  ·rename_i x hx
   simp at h
   exact⟨fields,x,hu,hx,h.1,h.2⟩
  ·cases h
 ·cases h
theorem O0 {s:TypeId} {f k:Nat} {ft:TypeId} {ad:Addr} {n:Nat} (h:Py P s f=some (k,ft)) (hn:B2 P ft=some (n+1)) :
  (Instr.fieldAt s (.pointer (some ad)) f).run P w = .ok (.pointer (some (ad.add k))) w:=by
 obtain⟨fields,x,hu,hx,rfl,rfl⟩:=Yd h
 simp [Instr.fieldAt,run_underlying hu,hx,Instr.sureAddr,fieldPlace,Co hn]
theorem Ua (hI:Inv C S w ρ R) {i:Nat} {t:TypeId} {cells:List D} (hi:R[i]? = some (.box t cells)) {b:Nat} (hb:ρ[i]? = some (.pointer (some ⟨b,0,none⟩))) :
  ∃ vs,w.heap[b]? = some (.cells vs t (0,0))/\A5 (Rd S w ρ) vs.toList cells:=by
 obtain⟨b',vs,he,h1,h2⟩:=(hI.ok i _ _ hi hb).live rfl
 cases he
 exact⟨vs,h1,h2⟩
theorem Ac5 (hI:Inv C S w ρ R) {i:Nat} {t:TypeId} {cells:List D} (hi:R[i]? = some (.box t cells)) {b:Nat} (hb:ρ[i]? = some (.pointer (some ⟨b,0,none⟩)))
  (off n:Nat) (j:Nat) (d:D) (hd:((cells.drop off).take n)[j]? = some d):∃ x,w.cell? ((⟨b,off,none⟩:Addr).add j)=some x/\Rd S w ρ x d:=by
 obtain⟨vs,h1,h2⟩:=Ua hI hi hb
 rw [an] at hd
 split at hd
 ·rw [ar] at hd
  obtain⟨x,hx,hR⟩:=h2.get hd
  refine⟨x,?_,hR⟩
  rw [Cx,Ik h1]
  simpa using hx
 ·cases hd
theorem Pp {t:TypeId} {vs:List Value} {ds:List D} (hv:A5 (Rd S w ρ) vs ds) {k n:Nat} (hn:B2 P t=some n) {av:AV} (h:Gt P t ((ds.drop k).take n)=some av) :
  ∃ x,(part t vs.toArray k).run P w = .ok x w/\RdA S w ρ x av:=by
 unfold Gt at h
 cases hu:P.underlying t with
 | none=>simp [Qq,hu] at h
 | some td=>
  have ha:Qq P t=some (Nt td):=by simp [Qq,hu]
  rw [ha,hn] at h
  cases hb:Nt td with
  | true=>
   simp only [hb] at h
   cases hl:Nat.beq ((ds.drop k).take n).length n with
   | false=>rw [hl] at h;simp at h
   | true=>
    rw [hl] at h;simp at h;subst h
    have:=(hv.drop k).take n
    refine⟨.agg ((vs.drop k).take n).toArray,?_,.agg this⟩
    simp [part,Of hu,hb,Co hn]
  | false=>
   rw [hb] at h
   split at h
   ·simp_all
   ·rename_i hs
    cases hs
    split at h
    ·rename_i d hd
     simp at h;subst h
     have hk:ds[k]? = some d:=by
      have:((ds.drop k).take 1)[0]? = some d:=by rw [hd];rfl
      rw [an] at this
      simpa using this
     obtain⟨x,hx,hR⟩:=hv.get hk
     refine⟨x,?_,.d hR⟩
     simp [part,Of hu,hb,hx]
    ·cases h
   ·cases h
end
end Go.SL
namespace Go.SL
section
variable {P:Program} {C:Ctx} {S:Nat->Prop} {w:World} {ρ:List Value} {R:List Res} {L:List Ent} {cur:C_} {a:Act}
theorem Dk {α β:Type} {x:Option α} {f:α->Option β} {y:β} (h:x.bind f=some y):∃ z,x=some z/\f z=some y:=by
 cases x with
 | none=>cases h
 | some z=>exact⟨z,rfl,h⟩
theorem Dl {α β:Type} {x:Option α} {f:α->β} {y:β} (h:x.map f=some y):∃ z,x=some z/\f z=y:=by
 cases x with
 | none=>cases h
 | some z=>exact⟨z,rfl,by simpa using h⟩
theorem Amk (hL : Ci S w ρ a L) (hp : pt a cur) {k x y : Operand} {v : AV} (h : Ab1 L cur k x y = some v) :
  ∃ b,a.eval k = .bool b/\RdA S w ρ (if b then a.eval x else a.eval y) v:=by
 unfold Ab1 at h
 split at h
 ·rename_i t
  split at h
  ·rename_i b hb
   have hk:=Ta hL hp hb
   refine⟨b,hk,?_⟩
   have hslot:a.tmps[t]? = some (.bool b):=by
    simp only [Act.eval,aM] at hk
    cases hs:a.tmps[t]? with
    | none=>rw [hs] at hk;simp [undef] at hk
    | some z=>rw [hs] at hk;simp at hk;rw [hk]
   cases hx:jP x with
   | true=>
    rw [hx] at h
    simp only [cond_true] at h
    have hxe:a.eval x = .bool true:=by
     unfold jP at hx
     split at hx
     ·subst hx;rfl
     ·cases hx
    split at h
    ·rename_i z hz
     simp at h;subst h
     cases b with
     | true=>simp [hxe];exact Eb rfl
     | false=>
      have hp':pt a (cur++[(t,false)]):=by
       intro g hg
       rcases am.1 hg with hg | hg
       ·exact hp g hg
       ·simp at hg;subst hg;exact hslot
      have:=Ta hL hp' hz
      simp [this];exact Eb rfl
    ·cases h
   | false=>
    rw [hx] at h
    simp only [cond_false] at h
    cases hy:Wx y with
    | false=>rw [hy] at h;simp at h
    | true=>
     rw [hy] at h
     simp only [cond_true] at h
     have hye:a.eval y = .bool false:=by
      unfold Wx at hy
      split at hy
      ·rename_i q;cases q <;> simp at hy ⊢;rfl
      ·cases hy
     split at h
     ·rename_i z hz
      simp at h;subst h
      cases b with
      | false=>simp [hye];exact Eb rfl
      | true=>
       have hp':pt a (cur++[(t,true)]):=by
        intro g hg
        rcases am.1 hg with hg | hg
        ·exact hp g hg
        ·simp at hg;subst hg;exact hslot
       have:=Ta hL hp' hz
       simp [this];exact Eb rfl
     ·cases h
  ·cases h
 ·cases h
theorem Vs (places:Nat->Option (Nat×Nat)) (pl:List (Nat×Nat)) (hpl:∀ (i:Nat) x,pl[i]? = some x->places i=some x) :
  ∀ (ps:List (Nat×Value)) (qs:List (Nat×List D)) (cs:Array Value) (ds out:List D),
   A5 (λ (p:Nat×Value) (q:Nat×List D)=>p.1=q.1/\A5 (Rd S w ρ) p.2.cells.toList q.2) ps qs->A5 (Rd S w ρ) cs.toList ds->H3 pl ds qs=some out ->
   ∃ r,Instr.fill places cs ps=some r/\A5 (Rd S w ρ) r.toList out
 | [],[],cs,ds,out,_,h2,h3=>by simp [H3] at h3;subst h3;exact⟨cs,rfl,h2⟩
 | [],_::_,_,_,_,h1,_,_=>h1.elim
 | _::_,[],_,_,_,h1,_,_=>h1.elim
 | (i, v) :: ps, (j, es) :: qs, cs, ds, out, h1, h2, h3 => by
  obtain⟨⟨e,hv⟩,h1⟩:=h1
  simp only at e;subst e
  simp only [H3] at h3
  split at h3
  ·rename_i off size hp
   cases hb:(Nat.beq es.length size&&Nat.ble (off+es.length) ds.length) with
   | false=>rw [hb] at h3;simp at h3
   | true=>
    rw [hb] at h3
    simp only [cond_true] at h3
    rw [ab] at hb
    have hl1:es.length=size:=aj hb.1
    have hl2:off+es.length<=ds.length:=bq hb.2
    have hcs:cs.size=ds.length:=by have:=h2.length;simpa using this
    have hvl:v.cells.size=es.length:=by have:=hv.length;simpa using this
    have step:∀ (l:List Value) (k:Nat) (cs:Array Value),off+k+l.length<=cs.size ->
      ((l.zipIdx k).foldl (λ cs (x:Value×Nat)=>cs.setIfInBounds (off+x.2) x.1) cs).toList=cs.toList.take (off+k)++(l++cs.toList.drop (off+k+l.length)):=by
     intro l
     induction l with
     | nil=>intro k cs _;simp
     | cons x l ih=>
      intro k cs hk
      simp only [List.zipIdx_cons,bA]
      simp only [aL] at hk
      rw [ih (k+1) _ (by simp;omega)]
      have hlt:off+k<cs.toList.length:=by simp;omega
      rw [Array.toList_setIfInBounds]
      rw [show off+(k+1)=off+k+1 from by omega]
      rw [List.take_succ_eq_append_getElem (by simpa using hlt)]
      rw [List.take_set_of_le (af _)]
      rw [List.drop_set_of_lt (by omega)]
      simp only [List.getElem_set_self,bB,List.cons_append,List.nil_append,aL]
      congr 4
      omega
    have hz:=step v.cells.toList 0 cs (by simp;omega)
    simp only [bx] at hz
    obtain⟨r,hr1,hr2⟩:=Vs places pl hpl ps qs ((v.cells.zipIdx).foldl (λ cs (x:Value×Nat)=>cs.setIfInBounds (off+x.2) x.1) cs) (Nb ds off es) out h1 (by
     have e:(v.cells.zipIdx).foldl (λ cs (x:Value×Nat)=>cs.setIfInBounds (off+x.2) x.1) cs=(v.cells.toList.zipIdx).foldl (λ cs (x:Value×Nat)=>cs.setIfInBounds (off+x.2) x.1) cs:=by
      rw [←Array.foldl_toList,Array.toList_zipIdx]
     rw [e,hz]
     unfold Nb
     refine (h2.take off).append (hv.append ?_)
     have hl:v.cells.toList.length=es.length:=hv.length
     rw [hl]
     exact h2.drop _) h3
    refine⟨r,?_,hr2⟩
    simp only [Instr.fill,hpl _ _ hp]
    rw [if_neg (by simp [hvl,hl1,hcs];omega)]
    exact hr1
  ·cases h3
theorem Kl (hL:Ci S w ρ a L) (hp:pt a cur):∀ {l:List (Nat×Operand)} {qs:List (Nat×List D)},J1 L cur l=some qs ->
  A5 (λ (p:Nat×Value) (q:Nat×List D)=>p.1=q.1/\A5 (Rd S w ρ) p.2.cells.toList q.2) (l.map λ x=>(x.1,a.eval x.2)) qs
 | [],qs,h=>by simp [J1] at h;subst h;trivial
 | (i,x)::r,qs,h=>by
  simp only [J1] at h
  split at h
  ·rename_i v l h1 h2
   simp at h;subst h
   obtain⟨av,ha,hc⟩:=Dk h1
   exact⟨⟨rfl,M2 (Bw hL hp ha) hc⟩,Kl hL hp h2⟩
  ·cases h
theorem Wc:∀ {l:List Field} {pl:List (Nat×Nat)},K6 P l=some pl ->
  (l.mapM λ f=>do pure (f.offset,←sizeOf f.type):Sem (List (Nat×Nat))).run P w = .ok pl w
 | [],pl,h=>by simp [K6] at h;subst h;simp
 | f::r,pl,h=>by
  simp only [K6] at h
  split at h
  ·rename_i n l h1 h2
   simp at h;subst h
   have ih:=Wc h2
   simp only [List.mapM_cons,Sem.run_bind,Sem.run_pure,Co h1,Result.andThen_ok]
   rw [ih]
   simp
  ·cases h
theorem Ss {α β:Type} (f:α->Sem β) (xs:Array α):(xs.mapM f:Sem (Array β)).run P w=((xs.toList.mapM f:Sem (List β)).run P w).andThen λ l w'=>.ok l.toArray w':=by
 rw [Array.mapM_eq_mapM_toList]
 simp
theorem Wr {t:TypeId} {fields:Array Field} {z:Value} {pl:List (Nat×Nat)} {parts:Array (Nat×Value)} {r:Array Value} (hz:Et P t=some z) (hu:P.underlying t=some (.struct fields))
  (hpl:K6 P fields.toList=some pl) (hf:Instr.fill (λ (x:Nat)=>pl[x]?) z.cells parts.toList=some r):(Instr.build t parts).run P w = .ok (.agg r) w:=by
 have:=Wc (P:=P) (w:=w) hpl
 simp only [Instr.build,Sem.run_bind,E3 hz,run_underlying hu,Result.andThen_ok,Ss,this]
 have e:(λ (x:Nat)=>(pl.toArray)[x]?)=(λ (x:Nat)=>pl[x]?):=by funext x;simp
 simp only [e,hf]
 rfl
theorem X1 {t e:TypeId} {n s:Nat} {z:Value} {parts:Array (Nat×Value)} {r:Array Value} (hz:Et P t=some z) (hu:P.underlying t=some (.array n e)) (hs:B2 P e=some s)
  (hf:Instr.fill (λ i=>some (i*s,s)) z.cells parts.toList=some r):(Instr.build t parts).run P w = .ok (.agg r) w:=by
 simp only [Instr.build,Sem.run_bind,E3 hz,run_underlying hu,Result.andThen_ok,Co hs,hf]
 rfl
end
end Go.SL
