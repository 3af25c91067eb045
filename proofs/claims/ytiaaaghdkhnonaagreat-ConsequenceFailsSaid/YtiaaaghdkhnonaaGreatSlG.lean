import Derived.WalkKit
import Derived.ProofKit
import Derived.OpenShut
import Derived.Laws.StructEq
import Derived.Laws.BytesString
set_option linter.defProp false
namespace Go.SL
variable{ad:Addr}{vs xs:Array Value}{b i j n size:Nat}{e:TypeId}{h x y:Value}
abbrev eQ:=List Int
abbrev eR:=List Nat
abbrev eT:=List Bool
abbrev eU:=List Value
def eu:=@Array.getD_eq_getD_getElem?
theorem ez:type_of% @cond_true:=@cond_true
theorem eB:type_of% @cond_false:=@cond_false
def eC:=@if_pos
def eF:=@if_neg
def eG:=@Sem.run_bind
theorem eI:type_of% @Sem.run_pure:=@Sem.run_pure
theorem eJ:type_of% @Result.andThen_ok:=@Result.andThen_ok
def eK:=@run_underlying
def eN:=@Nat.blt_eq
def eO:=@List.getElem?_append_left
def dM:=@decide_eq_true_eq
def dN:=@decide_eq_false_iff_not
def dQ:=@beq_iff_eq
def dR:=@beq_eq_false_iff_ne
def dU:=@decide_eq_true
def dV:=@decide_eq_false
def dW:=@bne_eq_false_iff_eq
def dX:=@of_decide_eq_true
def aa:=@List.getElem?_eq_some_iff
theorem ab:type_of% @Option.bind_some:=@Option.bind_some
def ac:=@Bool.and_eq_true
def ae:=@List.mem_of_getElem?
def af:=@Nat.le_refl
def ag:=@List.mem_cons
def ah:=@Option.some.injEq
def ai:=@List.mem_cons_self
def aj:=@List.getElem?_eq_getElem
def ak:=@Nat.eq_of_beq_eq_true
def al:=@List.mem_cons_of_mem
def am:=@List.mem_append
def an:=@List.mem_map
def ao:=@List.length_map
def aq:=@List.getElem?_take
def ar:=@List.mem_filter
def au:=@Prod.mk.injEq
def aw:=@List.getElem?_drop
theorem ax:type_of% @Int.toNat_natCast:=@Int.toNat_natCast
def ay:=@List.take_length
def aA:=@Nat.le_trans
def aB:=@List.getElem?_map
def aC:=@Bool.or_eq_true
def aD:=@List.getElem?_append_left
def aE:=@List.length_append
def aF:=@Nat.add_mul
def aG:=@List.all_eq_true
def aH:=@Bool.not_true
def aI:=@List.foldl_append
def aJ:=@Nat.lt_of_lt_of_le
def aK:=@List.append_nil
def aL:=@List.pairwise_cons
def aM:=@Nat.lt_or_ge
def aN:=@Nat.zero_add
def aO:=@Nat.le_succ
def aP:=@Array.getElem?_eq_some_iff
def aQ:=@Bool.false_or
def aR:=@Array.getD_eq_getD_getElem?
def aS:=@List.getElem?_set
def aT:=@List.getElem?_append_right
def aU:=@List.mem_singleton
def aV:=@List.length_take
def aW:=@Bool.not_eq_true'
def aX:=@List.filter_cons
def aY:=@List.filter_append
def aZ:=@Bool.or_eq_false_iff
def ba:=@List.mem_range
def bc:=@List.length_filter_le
theorem be:type_of% @Option.map_some:=@Option.map_some
def bf:=@Nat.mul_le_mul_right
def bg:=@List.mem_of_mem_take
def bh:=@Int.toNat_of_nonneg
theorem bi:type_of% @List.length_cons:=@List.length_cons
def bj:=@Option.some.inj
def bk:=@List.map_congr_left
def bl:=@Nat.add_assoc
def bm:=@List.pairwise_iff_getElem
def bn:=@Array.getElem?_eq_getElem
def bo:=@List.append_assoc
def bp:=@List.mem_append_left
def bq:=@Nat.blt_eq
def bt:=@List.eq_nil_of_length_eq_zero
def bu:=@Bool.true_and
def bv:=@Nat.le_of_ble_eq_true
def bw:=@List.map_cons
def bx:=@List.mem_append_right
def bz:=@List.length_set
theorem bA:type_of% @List.foldl_cons:=@List.foldl_cons
def bB:=@List.getElem?_of_mem
def bC:=@List.drop_drop
theorem bD:type_of% @Nat.add_zero:=@Nat.add_zero
def bE:=@List.map_append
def bF:=@List.Pairwise.nil
theorem bG:type_of% @List.zip_cons_cons:=@List.zip_cons_cons
def bH:=@Nat.zero_le
def bI:=@List.take_append_drop
def bJ:=@List.getElem?_set_ne
def bK:=@List.ext_getElem?
def bL:=@Bool.eq_iff_iff
def bM:=@Nat.lt_trichotomy
def bN:=@List.any_eq_false
def bO:=@Bool.and_true
def bP:=@List.getElem?_eq_none
theorem bQ:type_of% @List.flatten_cons:=@List.flatten_cons
theorem bS:type_of% @Option.getD_some:=@Option.getD_some
def bT:=@List.getElem?_set_self
def bU:=@Bool.and_eq_false_iff
theorem bV:type_of% @List.filter_nil:=@List.filter_nil
def bW:=@Option.map_eq_some_iff
def bX:=@List.of_mem_zip
def bY:=@List.getElem?_range
def bZ:=@List.size_toArray
def b9:=@Array.getElem?_toList
def cd:=@List.filter_eq_self
def ce:=@Nat.one_mul
def cf:=@List.eq_of_mem_replicate
def cg:=@Array.getElem?_replicate
def ch:=@Bool.not_eq_false'
def ci:=@List.range_succ
def cj:=@List.findIdx?_eq_some_iff_getElem
def ck:=@Int.le_refl
def cm:=@List.filter_congr
def cq:=@Bool.eq_false_iff
def cr:=@List.any_eq_true
def cu:=@List.filter_sublist
def cv:=@Bool.and_eq_true_iff
def cw:=@List.getElem_of_mem
def cy:=@List.map_take
def cz:=@List.length_drop
def cC:=@List.flatten_append
theorem cD:type_of% @List.length_nil:=@List.length_nil
def cE:=@List.pairwise_map
def cF:=@List.filter_cons_of_pos
def cG:=@List.nodup_cons
def cH:=@List.isEmpty_iff
def cI:=@List.take_of_length_le
theorem cJ:type_of% @List.getElem?_cons_succ:=@List.getElem?_cons_succ
def cK:=@List.mem_of_mem_drop
def cL:=@List.length_eq_zero_iff
def cM:=@List.getElem?_append
theorem cN:type_of% @Array.length_toList:=@Array.length_toList
def cO:=@List.mem_or_eq_of_mem_set
def cP:=@List.filter_eq_nil_iff
def cQ:=@Int.tdiv_eq_ediv_of_nonneg
def cR:=@Bool.false_eq_true
def cS:=@List.findIdx?_eq_none_iff
def cT:=@List.take_append_of_le_length
def cU:=@List.nodup_iff_pairwise_ne
def cV:=@Option.bind_eq_some_iff
def cW:=@List.getElem?_toArray
def cX:=@Array.getElem?_setIfInBounds
def cY:=@List.mem_zipIdx_iff_getElem?
def cZ:=@List.mem_iff_getElem?
inductive Pd where
 |v (x:Value)
 |s (rows:List (List Pd))
 deriving Inhabited
theorem Hw(a:Addr)(n:Nat):(a.add n).block=a.block:=by unfold Addr.add;split <;> rfl
theorem Wh(a:Addr):a.add 0=a:=by simp[Addr.add]
theorem Ru(a:Addr)(i j:Nat):(a.add i).add j=a.add (i+j):=by unfold Addr.add;grind
theorem C9(b o n:Nat):(⟨b,o,none⟩:Addr).add n=⟨b,o+n,none⟩:=by unfold Addr.add;split <;> simp_all
inductive RdP(S:Nat->Prop)(w:World):Value->Pd->Prop
 |v (x:Value) (h:x.oneCell'=true):RdP S w x (.v x)
 | s (a:Option Addr) (ad:Addr) (cap size:Nat) (rows:List (List Pd)) (xs:Nat->Nat->Value)
   (hc:rows.length<=cap) (hm:cap<=maxLen) (hz:a=none->cap=0)
   (hsz:∀row,row∈rows->row.length=size)
   (hx:∀(i:Nat) row,rows[i]?=some row->∀(j:Nat) d,row[j]?=some d->a=some ad/\S ad.block/\w.cell? (ad.add (i*size+j))=some (xs i j))
   (hr:∀(i:Nat) row,rows[i]?=some row->∀(j:Nat) d,row[j]?=some d->RdP S w (xs i j) d) :
   RdP S w (.slice a rows.length cap) (.s rows)
section
variable{S S':Nat->Prop}{w w':World}
theorem Abz(hw:w'.heap[ad.block]?=w.heap[ad.block]?):w'.cell? (ad.add n)=w.cell? (ad.add n):=
 World.cell?_of_block (by rw[Hw];exact hw)
variable{d:Pd}
theorem RdP.mono(h:RdP S w x d)(hS:∀b,S b->S' b)(hw:∀b,S b->w'.heap[b]?=w.heap[b]?):RdP S' w' x d:=by
 induction h with
 |v x h=>exact .v x h
 |s a ad cap size rows xs hc hm hz hsz hx hr ih=>refine .s a ad cap size rows xs hc hm hz hsz (λi row hi j d hj=>?_) (λi row hi j d hj=>ih i row hi j d hj);obtain⟨h1,h2,h3⟩:=hx i row hi j d hj;exact⟨h1,hS _ h2,by rw[Abz (hw _ h2)];exact h3⟩
theorem RdP.one(h:RdP S w x d):x.oneCell'=true:=by
 cases h with
 |v x h=>exact h
 |s=>rfl
def F_(S:Nat->Prop)(w:World)(ad:Addr)(ds:List Pd):Prop:=
 ∀(j:Nat) d,ds[j]?=some d->∃x,S ad.block/\w.cell? (ad.add j)=some x/\RdP S w x d
variable{ds:List Pd}
theorem F_.mono(h:F_ S w ad ds)(hS:∀b,S b->S' b)(hw:∀b,S b->w'.heap[b]?=w.heap[b]?):F_ S' w' ad ds:=by intro j d hj;obtain⟨x,h1,h2,h3⟩:=h j d hj;exact⟨x,hS _ h1,by rw[Abz (hw _ h1)];exact h2,h3.mono hS hw⟩
theorem F_.drop(h:F_ S w ad ds)(k:Nat):F_ S w (ad.add k) (ds.drop k):=by intro j d hj;rw[aw]at hj;obtain⟨x,h1,h2,h3⟩:=h _ d hj;exact⟨x,by rw[Hw];exact h1,by rw[Ru];exact h2,h3⟩
theorem F_.take(h:F_ S w ad ds)(k:Nat):F_ S w ad (ds.take k):=by
 intro j d hj;rw[aq]at hj;split at hj
 .exact h _ d hj
 .cases hj
variable{rows:List (List Pd)}
theorem RdP.row{a:Option Addr}{cap:Nat}(h:RdP S w (.slice a n cap) (.s rows)){row:List Pd}(hi:rows[i]?=some row) :
  i<n/\(row≠[]->∃ad,a=some ad/\F_ S w (ad.add (i*row.length)) row):=by
 cases h with
 | s _ ad _ size _ xs hc hm hz hsz hx hr=>
  have hs:row.length=size:=hsz row (ae hi);refine⟨(aa.1 hi).1,λhne=>?_⟩;obtain⟨d0,h0⟩:∃d,row[0]?=some d:=by
   cases row with
   |nil=>exact absurd rfl hne
   |cons d l=>exact⟨d,rfl⟩
  refine⟨ad,(hx i row hi 0 d0 h0).1,λj d hj=>?_⟩;obtain⟨_,h2,h3⟩:=hx i row hi j d hj;exact⟨xs i j,by rw[Hw];exact h2,by rw[Ru,hs];exact h3,hr i row hi j d hj⟩
theorem RdP.slice_form(h:RdP S w x (.s rows)):∃a cap,x=.slice a rows.length cap/\rows.length<=cap/\cap<=maxLen:=by
 cases h with
 |s a ad cap size rows xs hc hm=>exact⟨a,cap,rfl,hc,hm⟩
theorem RdP.v_form(h:RdP S w x (.v y)):x=y:=by cases h;rfl
end
inductive D where
 |p (x:Pd)
 |o (i off:Nat)
 |os (i:Nat)
 |oe (i k size off:Nat)
 |osb (i lo n size:Nat)
 |oi (i g k size off:Nat)
 |ip (cells:List Pd)
 |fn (f:Fn) (first caps:List D)
 |any
 |nq (rows:List (List Pd))
 deriving Inhabited
inductive Rd(S:Nat->Prop)(w:World)(ρ:eU):Value->D->Prop
 |p {x:Value} {d:Pd} (h:RdP S w x d):Rd S w ρ x (.p d)
 |o {i b off:Nat} (h:ρ[i]?=some (.pointer (some ⟨b,0,none⟩))):Rd S w ρ (.pointer (some ⟨b,off,none⟩)) (.o i off)
 |os {i:Nat} {v:Value} (h:ρ[i]?=some v) (h1:v.oneCell'=true):Rd S w ρ v (.os i)
 |oe {i k size off b o len cap:Nat} (h:ρ[i]?=some (.slice (some ⟨b,o,none⟩) len cap)):Rd S w ρ (.pointer (some ⟨b,o+k*size+off,none⟩)) (.oe i k size off)
 |osb {i lo n size q:Nat} {a:Option Addr} {len cap:Nat} (h:ρ[i]?=some (.slice a len cap)) (hl:lo+n<=len) (hc:lo<=cap) (hq:q<=lo*size) (hq2:lo<cap->q=lo*size):Rd S w ρ (.slice (a.map (·.add q)) n (cap-lo)) (.osb i lo n size)
 |oi {i g k size off:Nat} {f:Fn} {xs cs:Array Value} {v:Value} (h:ρ[g]?=some (.func f xs cs)) (hx:xs[k*size+off]?=some v) (h1:v.oneCell'=true):Rd S w ρ v (.oi i g k size off)
 |ip {ad:Addr} {ds:List Pd} (h:F_ S w ad ds):Rd S w ρ (.pointer (some ad)) (.ip ds)
 | fn {f:Fn} {xs cs:eU} {first caps:List D} (hl:xs.length=first.length) (hm:cs.length=caps.length)
   (hx:∀(j:Nat) x d,xs[j]?=some x->first[j]?=some d->Rd S w ρ x d) (hc:∀(j:Nat) x d,cs[j]?=some x->caps[j]?=some d->Rd S w ρ x d) :
   Rd S w ρ (.func f xs.toArray cs.toArray) (.fn f first caps)
 |any {v:Value} (h1:v.oneCell'=true):Rd S w ρ v .any
 |nq {b:Bool} {rows:List (List Pd)} (h:b=true->rows=[]):Rd S w ρ (.bool b) (.nq rows)
def Pre(ρ ρ':eU):Prop:=∀(i:Nat) v,ρ[i]?=some v->ρ'[i]?=some v
theorem Pre.refl(ρ:eU):Pre ρ ρ:=λ_ _ h=>h
theorem Pre.append(ρ l:eU):Pre ρ (ρ++l):=λi v h=>by grind
theorem Pre.trans{a b c:eU}(h:Pre a b)(k:Pre b c):Pre a c:=λi v e=>k i v (h i v e)
def Qt(ρ ρ':eU):Prop:=∀(i:Nat) v,ρ[i]?=some v->v.oneCell'=true->ρ'[i]?=some v
theorem Pre.a{a b:eU}(h:Pre a b):Qt a b:=λi v e _=>h i v e
section
variable{S S':Nat->Prop}{w w':World}{ρ ρ':eU}
variable{d:D}
theorem Rd.monoA(h:Rd S w ρ x d)(hS:∀b,S b->S' b)(hw:∀b,S b->w'.heap[b]?=w.heap[b]?)(hρ:Qt ρ ρ'):Rd S' w' ρ' x d:=by
 induction h with
 |p h=>exact .p (h.mono hS hw)
 |o h=>exact .o (hρ _ _ h rfl)
 |os h h1=>exact .os (hρ _ _ h h1) h1
 |oe h=>exact .oe (hρ _ _ h rfl)
 |osb h hl hc hq hq2=>exact .osb (hρ _ _ h rfl) hl hc hq hq2
 |any h1=>exact .any h1
 |nq h=>exact .nq h
 |oi h hx h1=>exact .oi (hρ _ _ h rfl) hx h1
 |ip h=>exact .ip (h.mono hS hw)
 |fn hl hm _ _ ih1 ih2=>exact .fn hl hm ih1 ih2
theorem Rd.mono(h:Rd S w ρ x d)(hS:∀b,S b->S' b)(hw:∀b,S b->w'.heap[b]?=w.heap[b]?)(hρ:Pre ρ ρ'):Rd S' w' ρ' x d:=h.monoA hS hw hρ.a
theorem Rd.one(h:Rd S w ρ x d):x.oneCell'=true:=by
 cases h with
 |p h=>exact h.one
 |os h h1=>exact h1
 |oi h hx h1=>exact h1
 |any h1=>exact h1
 |_=>rfl
end
def A9{α β:Type}(R:α->β->Prop):List α->List β->Prop
 | [],[]=>True
 |x::xs,d::ds=>R x d/\A9 R xs ds
 |_,_=>False
section
variable{α β:Type}{R R':α->β->Prop}
theorem A9.length:∀{xs:List α}{ds:List β},A9 R xs ds->xs.length=ds.length
 | [],[],_=>rfl
 |_::_,_::_,h=>by simp[A9.length h.2]
 | [],_::_,h=>h.elim
 |_::_,[],h=>h.elim
theorem A9.mono(hm:∀x d,R x d->R' x d):∀{xs:List α}{ds:List β},A9 R xs ds->A9 R' xs ds
 | [],[],_=>trivial
 |_::_,_::_,h=>⟨hm _ _ h.1,A9.mono hm h.2⟩
 | [],_::_,h=>h.elim
 |_::_,[],h=>h.elim
theorem A9.get:∀{xs:List α}{ds:List β},A9 R xs ds->∀{j:Nat}{d:β},ds[j]?=some d->∃x,xs[j]?=some x/\R x d
 | [],[],_,j,d,hj=>by simp at hj
 |x::xs,d'::ds,h,0,d,hj=>by grind[A9]
 |x::xs,d'::ds,h,j+1,d,hj=>by simp at hj ⊢;exact A9.get h.2 hj
 | [],_::_,h,_,_,_=>h.elim
 |_::_,[],h,_,_,_=>h.elim
theorem de:∀{xs:List α}{ds:List β},xs.length=ds.length->(∀(j:Nat) x d,xs[j]?=some x->ds[j]?=some d->R x d)->A9 R xs ds
 | [],[],_,_=>trivial
 |x::xs,d::ds,hl,h=>⟨h 0 x d rfl rfl,de (by simpa using hl) (λj x' d' hx hd=>h (j+1) x' d' (by simpa using hx) (by simpa using hd))⟩
 | [],_::_,hl,_=>by simp at hl
 |_::_,[],hl,_=>by simp at hl
variable{xs:List α}{ds:List β}
theorem A9.both(h:A9 R xs ds){x:α}{d:β}(hx:xs[j]?=some x)(hd:ds[j]?=some d):R x d:=by obtain⟨x',h1,h2⟩:=h.get hd;rw[hx]at h1;cases h1;exact h2
theorem A9.append{xs':List α}{ds':List β}(h:A9 R xs ds)(h':A9 R xs' ds'):A9 R (xs++xs') (ds++ds'):=by
 induction xs generalizing ds with
 |nil=>grind[A9]
 |cons x xs ih=>cases ds with
  |nil=>exact h.elim
  |cons d ds=>exact⟨h.1,ih h.2⟩
theorem A9.take(h:A9 R xs ds)(k:Nat):A9 R (xs.take k) (ds.take k):=by grind[de,A9.length,A9.both]
theorem A9.drop(h:A9 R xs ds)(k:Nat):A9 R (xs.drop k) (ds.drop k):=by grind[de,A9.length,A9.both]
theorem A9.map_right{γ:Type}{f:γ->β}{R2:α->γ->Prop}{ds:List γ}(h:A9 R2 xs ds)(hm:∀x d,R2 x d->R x (f d)):A9 R xs (ds.map f):=by grind[de,A9.length,A9.both]
end
inductive AV where
 |d (x:D)
 |agg (ds:List D)
 |tup (l:List AV)
 deriving Inhabited
inductive RdA(S:Nat->Prop)(w:World)(ρ:eU):Value->AV->Prop
 |d {x:Value} {y:D} (h:Rd S w ρ x y):RdA S w ρ x (.d y)
 |agg {vs:eU} {ds:List D} (h:A9 (Rd S w ρ) vs ds):RdA S w ρ (.agg vs.toArray) (.agg ds)
 |tup {vs:eU} {l:List AV} (hl:vs.length=l.length) (h:∀(j:Nat) x a,vs[j]?=some x->l[j]?=some a->RdA S w ρ x a):RdA S w ρ (.tuple vs.toArray) (.tup l)
section
variable{S S':Nat->Prop}{w w':World}{ρ ρ':eU}
variable{d:AV}
theorem RdA.monoA(h:RdA S w ρ x d)(hS:∀b,S b->S' b)(hw:∀b,S b->w'.heap[b]?=w.heap[b]?)(hρ:Qt ρ ρ'):RdA S' w' ρ' x d:=by
 induction h with
 |d h=>exact .d (h.monoA hS hw hρ)
 |agg h=>exact .agg (h.mono λ_ _ h=>h.monoA hS hw hρ)
 |tup hl _ ih=>exact .tup hl ih
theorem RdA.mono(h:RdA S w ρ x d)(hS:∀b,S b->S' b)(hw:∀b,S b->w'.heap[b]?=w.heap[b]?)(hρ:Pre ρ ρ'):RdA S' w' ρ' x d:=h.monoA hS hw hρ.a
theorem RdA.d_inv{y:D}(h:RdA S w ρ x (.d y)):Rd S w ρ x y:=by cases h;assumption
theorem RdA.agg_inv{ds:List D}(h:RdA S w ρ x (.agg ds)):∃vs:eU,x=.agg vs.toArray/\A9 (Rd S w ρ) vs ds:=by cases h with|agg h=>exact⟨_,rfl,h⟩
theorem RdA.exact_inv(h:RdA S w ρ x (.d (.p (.v y)))):x=y:=by cases h with|d h=>cases h with|p h=>exact h.v_form
end
inductive Res where
 |box (t:TypeId) (cells:List D)
 |sl (e:TypeId) (size:Nat) (rows:List (List Pd))
 |zsl (e:TypeId) (size:Nat) (rows:List (List Pd))
 |dsl (e:TypeId) (size:Nat) (g:Nat)
 |gh (size:Nat) (tys:List (TypeId×Nat)) (rows:List (List Pd)) (hole:Option (Nat×Nat))
 |non
 |vec (e:TypeId) (cells:List D)
 deriving Inhabited
def Azi:TypeId->Bool:=λt=>Nat.beq t 5
def Blk(w:World)(b:Nat)(vs:Array Value)(e:TypeId):Prop:=∃fr:Nat×Nat,w.heap[b]?=some (.cells vs e fr)/\(fr.1=fr.2\/vs.size<=fr.1)/\(Azi e=false->fr=(0,0))
variable{w:World}
theorem Blk.of(h:w.heap[b]?=some (.cells vs e (0,0))):Blk w b vs e:=⟨_,h,.inl rfl,λ_=>rfl⟩
theorem Blk.zero(h:Blk w b vs e)(hm:Azi e=false):w.heap[b]?=some (.cells vs e (0,0)):=by obtain⟨fr,h1,_,h3⟩:=h;rw[h1,h3 hm]
theorem Blk.mono{w':World}(h:Blk w b vs e)(hf:w'.heap[b]?=w.heap[b]?):Blk w' b vs e:=by obtain⟨fr,h1,h2⟩:=h;exact⟨fr,by rw[hf];exact h1,h2⟩
def Ox(S:Nat->Prop)(w:World)(e:TypeId)(size:Nat)(rows:List (List Pd))(h:Value):Prop:=
 (h=.slice none 0 0/\rows=[]) \/
  ∃b o cap vs,h=.slice (some ⟨b,o,none⟩) rows.length cap/\Blk w b vs e/\rows.length<=cap/\cap<=maxLen/\o+cap*size<=vs.size /\
   (∀row,row∈rows->row.length=size) /\
   ∀(i:Nat) row,rows[i]?=some row->∀(j:Nat) d,row[j]?=some d->∃x,vs[o+i*size+j]?=some x/\RdP S w x d
def yH:Value->Prop
 |.slice (some _) _ _=>False
 |_=>True
def Azc(x:Value):Pd->Prop
 |.v y=>x=y/\y.oneCell'=true/\yH y
 |.s r=>x=.slice none 0 0/\r=[]
def zOk(w:World)(e:TypeId)(size:Nat)(rows:List (List Pd))(h:Value):Prop:=
 (h=.slice none 0 0/\rows=[]) \/
  ∃b o cap vs,h=.slice (some ⟨b,o,none⟩) rows.length cap/\w.heap[b]?=some (.cells vs e (0,0))/\rows.length<=cap/\cap<=maxLen/\o+cap*size<=vs.size /\
   (∀row,row∈rows->row.length=size) /\
   ∀(i:Nat) row,rows[i]?=some row->∀(j:Nat) d,row[j]?=some d->∃x,vs[o+i*size+j]?=some x/\Azc x d
def Ia(size:Nat)(hole:Option (Nat×Nat))(k:Nat):Prop:=∃p,hole=some p/\k=p.1*size+p.2
def Am3(S:Nat->Prop)(w:World)(tys:List (TypeId×Nat))(j:Nat)(hl:Prop)(x:Value):Pd->Prop
 |.v y=>x=y/\y.oneCell'=true/\yH y
 |.s r=>x.oneCell'=true/\(¬hl->∃e s,tys[j]?=some (e,s)/\Ox S w e s r x)
def gOk(S:Nat->Prop)(w:World)(size:Nat)(tys:List (TypeId×Nat))(rows:List (List Pd))(hole:Option (Nat×Nat))(xs:Array Value):Prop:=
 (∀row,row∈rows->row.length=size)/\xs.size=rows.length*size /\
 (∀(i:Nat) row,rows[i]?=some row->∀(j:Nat) d,row[j]?=some d->∃x,xs[i*size+j]?=some x/\Am3 S w tys j (Ia size hole (i*size+j)) x d) /\
 ∀(k1 k2:Nat) a1 n1 c1 a2 n2 c2,k1≠k2->¬Ia size hole k1->¬Ia size hole k2->xs[k1]?=some (.slice (some a1) n1 c1)->xs[k2]?=some (.slice (some a2) n2 c2)->a1.block≠a2.block
def Res.ok0(S : Nat -> Prop)(w : World)(ρ : eU)(h : Value) : Res -> Prop
 |.box t cells=>∃b vs,h=.pointer (some ⟨b,0,none⟩)/\w.heap[b]?=some (.cells vs t (0,0))/\A9 (Rd S w ρ) vs.toList cells
 |.sl e size rows=>Ox S w e size rows h
 |.zsl e size rows=>zOk w e size rows h
 | .dsl e size g=>∃f xs cs,ρ[g]?=some (.func f xs cs)/\((h=.slice none 0 0/\xs.size=0) \/
   ∃b o len cap vs,h=.slice (some ⟨b,o,none⟩) len cap/\w.heap[b]?=some (.cells vs e (0,0))/\len<=cap/\cap<=maxLen/\o+cap*size<=vs.size/\xs.size=len*size /\
    ∀(k:Nat) x,xs[k]?=some x->vs[o+k]?=some x)
 |.gh size tys rows hole=>∃f xs cs,h=.func f xs cs/\gOk S w size tys rows hole xs
 |.non=>True
 |.vec e cells=>∃b vs,h=.slice (some ⟨b,0,none⟩) cells.length cells.length/\w.heap[b]?=some (.cells vs e (0,0))/\A9 (Rd S w ρ) vs.toList cells/\cells.length<=maxLen
def Res.ok(S:Nat->Prop)(w:World)(ρ:eU)(h:Value)(r:Res):Prop:=h.oneCell'=false\/r.ok0 S w ρ h
theorem Res.ok.live{S:Nat->Prop}{ρ:eU}{r:Res}(k:r.ok S w ρ h)(h1:h.oneCell'=true):r.ok0 S w ρ h:=by grind[Res.ok]
def E9(h:Value)(b:Nat):Prop:=match h with
 |.slice (some a) _ _=>a.block=b
 |_=>False
def Res.foot(h:Value)(r:Res)(b:Nat):Prop:=match r with
 |.box ..=>match h with
  |.pointer (some a)=>a.block=b
  |_=>False
 |.sl ..=>match h with
  |.slice (some a) _ _=>a.block=b
  |_=>False
 |.zsl ..=>E9 h b
 |.dsl ..=>E9 h b
 |.gh size _ _ hole=>match h with
  |.func _ xs _=>∃(k:Nat)(x:Value),xs[k]?=some x/\¬Ia size hole k/\E9 x b
  |_=>False
 |.non=>False
 |.vec ..=>E9 h b
section
variable{S S':Nat->Prop}{w w':World}{ρ ρ':eU}
variable{r:Res}
theorem dg(hd:h.oneCell'=false)(b:Nat):¬r.foot h b:=by intro hf;cases h <;> first|(cases r <;> exact hf)|cases hd
variable{rows:List (List Pd)}
theorem Ox.mono{e:Nat}(k:Ox S w e size rows h)(hS:∀b,S b->S' b)(hw:∀b,S b->w'.heap[b]?=w.heap[b]?)
  (hf:∀b,E9 h b->w'.heap[b]?=w.heap[b]?):Ox S' w' e size rows h:=by
 rcases k with h0|⟨b,o,cap,vs,rfl,hb,h1,h2,h3,h4,h5⟩
 .exact .inl h0
 .refine .inr ⟨b,o,cap,vs,rfl,hb.mono (hf b rfl),h1,h2,h3,h4,λi row hi j d hj=>?_⟩;obtain⟨x,hx,hr⟩:=h5 i row hi j d hj;exact⟨x,hx,hr.mono hS hw⟩
theorem gOk.mono{tys:List (TypeId×Nat)}{hole:Option (Nat×Nat)}(k:gOk S w size tys rows hole xs)(hS:∀b,S b->S' b)(hw:∀b,S b->w'.heap[b]?=w.heap[b]?)
  (hf:∀b,(∃(k:Nat)(x:Value),xs[k]?=some x/\¬Ia size hole k/\E9 x b)->w'.heap[b]?=w.heap[b]?):gOk S' w' size tys rows hole xs:=by
 obtain⟨k1,k2,k3,k4⟩:=k;refine⟨k1,k2,λi row hi j d hj=>?_,k4⟩;obtain⟨x,hx,hg⟩:=k3 i row hi j d hj;refine⟨x,hx,?_⟩;cases d with
 |v y=>exact hg
 |s r=>refine⟨hg.1,λhn=>?_⟩;obtain⟨e,s,h1,h2⟩:=hg.2 hn;exact⟨e,s,h1,h2.mono hS hw λb hb=>hf b ⟨_,x,hx,hn,hb⟩⟩
theorem Res.ok0.monoA(k:r.ok0 S w ρ h)(hS:∀b,S b->S' b)(hw:∀b,S b->w'.heap[b]?=w.heap[b]?)(hρ:Qt ρ ρ')
  (hf:∀b,r.foot h b->w'.heap[b]?=w.heap[b]?):r.ok0 S' w' ρ' h:=by
 cases r with
 |box t cells=>obtain⟨b,vs,rfl,hb,hc⟩:=k;exact⟨b,vs,rfl,by rw[hf b rfl];exact hb,hc.mono λ_ _ h=>h.monoA hS hw hρ⟩
 |sl e size rows=>exact Ox.mono k hS hw λb hb=>hf b hb
 |zsl e size rows=>
  rcases k with h0|⟨b,o,cap,vs,rfl,hb,h1⟩
  .exact .inl h0
  .exact .inr ⟨b,o,cap,vs,rfl,by rw[hf b rfl];exact hb,h1⟩
 |dsl e size g=>
  obtain⟨f,xs,cs,hg,k⟩:=k;refine⟨f,xs,cs,hρ _ _ hg rfl,?_⟩;rcases k with h0|⟨b,o,len,cap,vs,rfl,hb,h1⟩
  .exact .inl h0
  .exact .inr ⟨b,o,len,cap,vs,rfl,by rw[hf b rfl];exact hb,h1⟩
 |gh size tys rows hole=>obtain⟨f,xs,cs,rfl,k⟩:=k;exact⟨f,xs,cs,rfl,k.mono hS hw λb hb=>hf b hb⟩
 |non=>trivial
 |vec e cells=>obtain⟨b,vs,rfl,hb,hc,hm⟩:=k;exact⟨b,vs,rfl,by rw[hf b rfl];exact hb,hc.mono λ_ _ h=>h.monoA hS hw hρ,hm⟩
theorem Res.ok.monoA(k:r.ok S w ρ h)(hS:∀b,S b->S' b)(hw:∀b,S b->w'.heap[b]?=w.heap[b]?)(hρ:Qt ρ ρ')
  (hf:∀b,r.foot h b->w'.heap[b]?=w.heap[b]?):r.ok S' w' ρ' h:=k.imp id λk=>k.monoA hS hw hρ hf
theorem Res.ok.mono(k:r.ok S w ρ h)(hS:∀b,S b->S' b)(hw:∀b,S b->w'.heap[b]?=w.heap[b]?)(hρ:Pre ρ ρ')
  (hf:∀b,r.foot h b->w'.heap[b]?=w.heap[b]?):r.ok S' w' ρ' h:=k.monoA hS hw hρ.a hf
end
structure Ctx where
 w:World
 S:Nat->Prop
 F:Nat->Prop
 h:eU
 df:List Deferred
def globTab:Nat->Option (List Pd):=λ_=>none
def globIf:Nat->Bool:=λ_=>false
def Qu(S:Nat->Prop)(w:World):Prop:=(∀(g:Nat) cells,globTab g=some cells->F_ S w ⟨g,0,none⟩ cells/\S g/\∃vs t fr,w.heap[g]?=some (.cells vs t fr)/\vs.size=cells.length) /\
 ∀g,globIf g=true->S g/\∃u p t fr,w.heap[g]?=some (.cells #[.iface u p] t fr)
variable{S:Nat->Prop}
theorem Qu.mono{S':Nat->Prop}{w':World}(h:Qu S w)(hS:∀b,S b->S' b)(hw:∀b,S b->w'.heap[b]?=w.heap[b]?):Qu S' w':=⟨λg cells hg=>by
 obtain⟨h1,h2,h3⟩:=h.1 g cells hg;exact⟨h1.mono hS hw,hS _ h2,by rw[hw _ h2];exact h3⟩,λg hg=>by
 obtain⟨h1,h2⟩:=h.2 g hg;grind⟩
def Atj(C:Ctx):Prop:=∀d,d∈C.df->∃D,d={target:=.collected D,args:=#[]}/\D<C.w.heap.size/\¬C.F D/\¬C.S D/\C.w.heap[D]?=some (.deferred (some []))
def A8j(C:Ctx):Prop:=Qu C.S C.w/\(∀b,C.S b->b<C.w.heap.size/\¬C.F b)/\Atj C
def drw:Bool:=true
def Tp(w w':World):Prop:=w'.tape=w.tape/\(drw=true->w.drawn<=w'.drawn)
theorem Tp.trans{a b c:World}(h:Tp b c)(k:Tp a b):Tp a c:=⟨h.1.trans k.1,λe=>aA (k.2 e) (h.2 e)⟩
structure Inv(C:Ctx)(S:Nat->Prop)(w:World)(ρ:eU)(R:List Res):Prop where
 len:ρ.length=R.length
 ok:∀(i:Nat) r h,R[i]?=some r->ρ[i]?=some h->r.ok S w ρ h
 dis:∀(i j:Nat) r r' h h' b,i≠j->R[i]?=some r->R[j]?=some r'->ρ[i]?=some h->ρ[j]?=some h'->r.foot h b->r'.foot h' b->False
 own:∀(i:Nat) r h b,R[i]?=some r->ρ[i]?=some h->r.foot h b->¬S b/\b<w.heap.size/\(C.F b\/C.w.heap.size<=b)
 sub:∀b,C.S b->S b
 sup:∀b,S b->b<w.heap.size/\(C.S b\/C.F b\/C.w.heap.size<=b)
 frm:∀b,b<C.w.heap.size->¬C.F b->w.heap[b]?=C.w.heap[b]?
 size:C.w.heap.size<=w.heap.size
 os:w.os=C.w.os
 tape:Tp C.w w
 output:w.output=C.w.output
 pre:Pre C.h ρ
 gl:A8j C
def Em(ρ:eU)(R:List Res)(b:Nat):Prop:=∃(i:Nat)(r:Res)(h:Value),R[i]?=some r/\ρ[i]?=some h/\r.foot h b
structure Start(S:Nat->Prop)(w:World)(ρ:eU)(R:List Res):Prop where
 len:ρ.length=R.length
 ok:∀(i:Nat) r h,R[i]?=some r->ρ[i]?=some h->r.ok S w ρ h
 dis:∀(i j:Nat) r r' h h' b,i≠j->R[i]?=some r->R[j]?=some r'->ρ[i]?=some h->ρ[j]?=some h'->r.foot h b->r'.foot h' b->False
 own:∀(i:Nat) r h b,R[i]?=some r->ρ[i]?=some h->r.foot h b->¬S b/\b<w.heap.size
 sup:∀b,S b->b<w.heap.size
 gl:Qu S w
theorem Start.inv{ρ:eU}{R:List Res}(h:Start S w ρ R):Inv ⟨w,S,Em ρ R,ρ,[]⟩ S w ρ R where
 len:=h.len
 ok:=h.ok
 dis:=h.dis
 own i r v b h1 h2 h3:=⟨(h.own i r v b h1 h2 h3).1,(h.own i r v b h1 h2 h3).2,.inl ⟨i,r,v,h1,h2,h3⟩⟩
 sub _ h:=h
 sup b hb:=⟨h.sup b hb,.inl hb⟩
 frm _ _ _:=rfl
 size:=af _
 os:=rfl
 tape:=⟨rfl,λ_=>af _⟩
 output:=rfl
 pre:=Pre.refl _
 gl:=⟨h.gl,λb hb=>⟨h.sup b hb,λ⟨i,r,v,h1,h2,h3⟩=>(h.own i r v b h1 h2 h3).1 hb⟩,λd hd=>by cases hd⟩
def CallOk(P:Program)(f:FuncId)(args:List AV)(R:List Res)(res:AV)(R2:List Res):Prop:=
 ∀(S:Nat->Prop)(w:World)(ρ:eU)(vs:eU),Start S w ρ R->A9 (RdA S w ρ) vs args ->
  Calls P f vs.toArray w λe w'=>∃v S' ρ',e=.returned v/\RdA S' w' ρ' v res/\Inv ⟨w,S,Em ρ R,ρ,[]⟩ S' w' ρ' R2
section
variable{C:Ctx}{S S':Nat->Prop}{w w':World}{ρ ρ':eU}{R R2:List Res}
theorem Inv.grow(h:Inv C S w ρ R)(hS:∀b,S b->S' b)(hnew:∀b,S' b->S b\/w.heap.size<=b/\b<w'.heap.size)(hw:∀b,b<w.heap.size->w'.heap[b]?=w.heap[b]?)
  (hsz:w.heap.size<=w'.heap.size)(ho:w'.os=w.os)(ht:Tp w w')(hp:w'.output=w.output):Inv C S' w' ρ R where
 len:=h.len
 ok i r v h1 h2:=(h.ok i r v h1 h2).mono hS (λb hb=>hw b (h.sup b hb).1) (Pre.refl _) (λb hb=>hw b (h.own i r v b h1 h2 hb).2.1)
 dis:=h.dis
 own i r v b h1 h2 h3:=by obtain⟨k1,k2,k3⟩:=h.own i r v b h1 h2 h3;grind
 sub b hb:=hS b (h.sub b hb)
 sup b hb:=by
  rcases hnew b hb with hb|hb
  .obtain⟨k1,k2⟩:=h.sup b hb;grind
  .exact⟨hb.2,.inr (.inr (aA h.size hb.1))⟩
 frm b hb hf:=(hw b (aJ hb h.size)).trans (h.frm b hb hf)
 size:=aA h.size hsz
 os:=ho.trans h.os
 tape:=ht.trans h.tape
 output:=hp.trans h.output
 pre:=h.pre
 gl:=h.gl
theorem Inv.glOk(h:Inv C S w ρ R):Qu S w:=h.gl.1.mono h.sub λb hb=>h.frm b (h.gl.2.1 b hb).1 (h.gl.2.1 b hb).2
end
end Go.SL
namespace Go.SL
variable{cs old:Array Value}{rows:List (List Pd)}{b e i size:Nat}{r:Res}{t:TypeId}{v:Value}
theorem D4(w:World)(g:Nat)(cs old:Array Value)(t:TypeId)(fr:Nat×Nat)(h:w.heap[g]?=some (.cells old t fr)) :
  (w.setRow g cs).heap[g]?=some (.cells cs t fr):=by
 simp[World.setRow,Array.getElem?_modify,h]
theorem Ce(w:World)(g k:Nat)(cs:Array Value)(h:k≠g):(w.setRow g cs).heap[k]?=w.heap[k]?:=by simp[World.setRow,Array.getElem?_modify,Ne.symm h]
variable{w:World}
theorem Kn{fr:Nat×Nat}(h:w.heap[b]?=some (.cells cs t fr))(j:Nat):w.cell? ⟨b,j,none⟩=cs[j]?:=
 cell_of_row w b j cs t fr h
theorem Blk.cell(h:Blk w b cs t)(j:Nat):w.cell? ⟨b,j,none⟩=cs[j]?:=by obtain⟨fr,h1,_⟩:=h;exact Kn h1 j
theorem Blk.put(h:Blk w b old t)(hs:cs.size=old.size):Blk (w.setRow b cs) b cs t:=by obtain⟨fr,h1,h2⟩:=h;exact⟨fr,D4 _ _ _ _ _ _ h1,h2.1.imp id (λh=>by omega),h2.2⟩
section
variable{C:Ctx}{S S':Nat->Prop}{w w':World}{ρ ρ':eU}{R R2:List Res}
theorem Ei{α:Type}{l:List α}{x y:α}(h:(l++[x])[i]?=some y):l[i]?=some y\/i=l.length/\y=x:=by grind
theorem Inv.push(h:Inv C S w ρ R)(r:Res)(v:Value)(hw:∀b,b<w.heap.size->w'.heap[b]?=w.heap[b]?)(hsz:w.heap.size<=w'.heap.size)
  (ho:w'.os=w.os)(ht:Tp w w')(hp:w'.output=w.output)(hok:r.ok S w' (ρ++[v]) v)
  (hf:∀b,r.foot v b->w.heap.size<=b/\b<w'.heap.size):Inv C S w' (ρ++[v]) (R++[r]) where
 len:=by simp[h.len]
 ok i r' v' h1 h2:=by
  rcases Ei h1 with h1|⟨rfl,rfl⟩
  .rcases Ei h2 with h2|⟨rfl,rfl⟩
   .exact(h.ok i r' v' h1 h2).mono (λ_ h=>h) (λb hb=>hw b (h.sup b hb).1) (Pre.append _ _) (λb hb=>hw b (h.own i r' v' b h1 h2 hb).2.1)
   .have:=(aa.1 h1).1;rw[h.len]at this;omega
  .rcases Ei h2 with h2|⟨_,rfl⟩
   .have:=(aa.1 h2).1;rw[h.len]at this;omega
   .exact hok
 dis i j r1 r2 v1 v2 b hij h1 h2 h3 h4 h5 h6:=by
  have key:∀(i:Nat) r1 v1,(R++[r])[i]?=some r1->(ρ++[v])[i]?=some v1->r1.foot v1 b->(R[i]?=some r1/\ρ[i]?=some v1/\b<w.heap.size)\/(i=R.length/\w.heap.size<=b):=by
   intro i r1 v1 h1 h3 h5;rcases Ei h1 with h1|⟨rfl,rfl⟩
   .rcases Ei h3 with h3|⟨rfl,rfl⟩
    .exact .inl ⟨h1,h3,(h.own i r1 v1 b h1 h3 h5).2.1⟩
    .have:=(aa.1 h1).1;rw[h.len]at this;omega
   .rcases Ei h3 with h3|⟨_,rfl⟩
    .have:=(aa.1 h3).1;rw[h.len]at this;omega
    .exact .inr ⟨rfl,(hf b h5).1⟩
  rcases key i r1 v1 h1 h3 h5 with⟨a1,a2,a3⟩|⟨a1,a2⟩
  .rcases key j r2 v2 h2 h4 h6 with⟨b1,b2,b3⟩|⟨b1,b2⟩
   .exact h.dis i j r1 r2 v1 v2 b hij a1 b1 a2 b2 h5 h6
   .omega
  grind
 own i r' v' b h1 h2 h3:=by
  rcases Ei h1 with h1|⟨rfl,rfl⟩
  .rcases Ei h2 with h2|⟨rfl,rfl⟩
   .obtain⟨k1,k2,k3⟩:=h.own i r' v' b h1 h2 h3;exact⟨k1,aJ k2 hsz,k3⟩
   .have:=(aa.1 h1).1;rw[h.len]at this;omega
  .rcases Ei h2 with h2|⟨_,rfl⟩
   .have:=(aa.1 h2).1;rw[h.len]at this;omega
   .obtain⟨k1,k2⟩:=hf b h3;exact⟨λhb=>by have:=(h.sup b hb).1;omega,k2,.inr (aA h.size k1)⟩
 sub:=h.sub
 sup b hb:=⟨aJ (h.sup b hb).1 hsz,(h.sup b hb).2⟩
 frm b hb hf:=(hw b (aJ hb h.size)).trans (h.frm b hb hf)
 size:=aA h.size hsz
 os:=ho.trans h.os
 tape:=ht.trans h.tape
 output:=hp.trans h.output
 pre:=h.pre.trans (Pre.append _ _)
 gl:=h.gl
theorem Inv.put(h:Inv C S w ρ R){r':Res}(hi:R[i]?=some r)(hv:ρ[i]?=some v)(hb:r.foot v b)(hb':∀k,r'.foot v k->k=b)
  (hw:∀k,k≠b->w'.heap[k]?=w.heap[k]?)(hsz:w'.heap.size=w.heap.size)(ho:w'.os=w.os)(ht:Tp w w')(hp:w'.output=w.output)
  (hok:r'.ok S w' ρ v):Inv C S w' ρ (R.set i r'):=by
 obtain⟨o1,o2,o3⟩:=h.own i r v b hi hv hb;have hS:∀k,S k->w'.heap[k]?=w.heap[k]?:=λk hk=>hw k (λe=>o1 (e ▸ hk));have key:∀(j:Nat) r1 v1,(R.set i r')[j]?=some r1->ρ[j]?=some v1->(j=i/\r1=r'/\v1=v)\/(j≠i/\R[j]?=some r1):=by grind
 refine⟨by simp[h.len],?_,?_,?_,h.sub,?_,?_,by rw[hsz];exact h.size,ho.trans h.os,ht.trans h.tape,hp.trans h.output,h.pre,h.gl⟩
 .intro j r1 v1 h1 h2;rcases key j r1 v1 h1 h2 with⟨rfl,rfl,rfl⟩|⟨hj,h1⟩
  .exact hok
  .refine(h.ok j r1 v1 h1 h2).mono (λ_ h=>h) hS (Pre.refl _) (λk hk=>hw k (λe=>?_));subst e;exact h.dis j i r1 r v1 v k hj h1 hi h2 hv hk hb
 .intro j k r1 r2 v1 v2 c hjk h1 h2 h3 h4 h5 h6;rcases key j r1 v1 h1 h3 with⟨ej,er,ev⟩|⟨hj,g1⟩
  .rcases key k r2 v2 h2 h4 with⟨ek,er2,ev2⟩|⟨hk,g2⟩
   .exact hjk (ej.trans ek.symm)
   .subst er;subst ev;exact h.dis i k r r2 v1 v2 c (Ne.symm hk) hi g2 hv h4 (by rw[hb' c h5];exact hb) h6
  .rcases key k r2 v2 h2 h4 with⟨ek,er2,ev2⟩|⟨hk,g2⟩
   .subst er2;subst ev2;exact h.dis j i r1 r v1 v2 c hj g1 hi h3 hv h5 (by rw[hb' c h6];exact hb)
   .exact h.dis j k r1 r2 v1 v2 c hjk g1 g2 h3 h4 h5 h6
 .intro j r1 v1 c h1 h2 h3;rcases key j r1 v1 h1 h2 with⟨rfl,rfl,rfl⟩|⟨hj,h1⟩
  .grind
  .rw[hsz];exact h.own j r1 v1 c h1 h2 h3
 .intro c hc;rw[hsz];exact h.sup c hc
 .intro c hc hf;refine(hw c (λe=>?_)).trans (h.frm c hc hf);subst e;rcases o3 with o3|o3
  .exact hf o3
  .omega
theorem Inv.freeze(h:Inv C S w ρ R)(hi:R[i]?=some r)(hv:ρ[i]?=some v) :
  Inv C (λb=>S b\/r.foot v b) w ρ (R.set i .non):=by
 have key:∀(j:Nat) r1,(R.set i .non)[j]?=some r1->r1=.non\/(j≠i/\R[j]?=some r1):=by grind
 refine⟨by simp[h.len],?_,?_,?_,λb hb=>.inl (h.sub b hb),?_,h.frm,h.size,h.os,h.tape,h.output,h.pre,h.gl⟩
 .intro j r1 v1 h1 h2;rcases key j r1 h1 with rfl|⟨hj,h1⟩
  .exact .inr trivial
  .exact(h.ok j r1 v1 h1 h2).mono (λ_ h=>.inl h) (λ_ _=>rfl) (Pre.refl _) (λ_ _=>rfl)
 .intro j k r1 r2 v1 v2 c hjk h1 h2 h3 h4 h5 h6;rcases key j r1 h1 with rfl|⟨hj,h1⟩
  .simp[Res.foot]at h5
  .rcases key k r2 h2 with rfl|⟨hk,h2⟩
   .simp[Res.foot]at h6
   .exact h.dis j k r1 r2 v1 v2 c hjk h1 h2 h3 h4 h5 h6
 .intro j r1 v1 c h1 h2 h3;rcases key j r1 h1 with rfl|⟨hj,h1⟩
  .simp[Res.foot]at h3
  .obtain⟨k1,k2,k3⟩:=h.own j r1 v1 c h1 h2 h3;refine⟨λhc=>?_,k2,k3⟩;rcases hc with hc|hc
   .exact k1 hc
   .exact h.dis j i r1 r v1 v c hj h1 hi h2 hv h3 hc
 .intro c hc;rcases hc with hc|hc
  .obtain⟨k1,k2⟩:=h.sup c hc;exact⟨k1,k2.imp id (λk=>k)⟩
  .obtain⟨k1,k2,k3⟩:=h.own i r v c hi hv hc;exact⟨k2,.inr k3⟩
theorem Res.ok0.frozen(h:(Res.sl e size rows).ok0 S w ρ v) :
  RdP (λb=>S b\/(Res.sl e size rows).foot v b) w v (.s rows):=by
 rcases h with⟨rfl,rfl⟩|⟨b,o,cap,vs,rfl,hb,h1,h2,h3,h4,h5⟩
 .exact .s none ⟨0,0,none⟩ 0 0 [] (λ_ _=>undef) (af _) (by simp[maxLen]) (λ_=>rfl) (by simp) (by simp) (by simp)
 .refine .s (some ⟨b,o,none⟩) ⟨b,o,none⟩ cap size rows (λi j=>vs.getD (o+i*size+j) undef) h1 h2 (by simp) h4 (λi row hi j d hj=>?_) (λi row hi j d hj=>?_)
  .obtain⟨x,hx,_⟩:=h5 i row hi j d hj;refine⟨rfl,.inr rfl,?_⟩;rw[C9,hb.cell,←bl,hx];simp[eu,hx]
  .obtain⟨x,hx,hr⟩:=h5 i row hi j d hj;rw[aR,hx];exact hr.mono (λ_ h=>.inl h) (λ_ _=>rfl)
theorem zOk.frozen(h:zOk w e size rows v):RdP (λb=>S b\/E9 v b) w v (.s rows):=by
 rcases h with⟨rfl,rfl⟩|⟨b,o,cap,vs,rfl,hb,h1,h2,h3,h4,h5⟩
 .exact .s none ⟨0,0,none⟩ 0 0 [] (λ_ _=>undef) (af _) (by simp[maxLen]) (λ_=>rfl) (by simp) (by simp) (by simp)
 .refine .s (some ⟨b,o,none⟩) ⟨b,o,none⟩ cap size rows (λi j=>vs.getD (o+i*size+j) undef) h1 h2 (by simp) h4 (λi row hi j d hj=>?_) (λi row hi j d hj=>?_)
  .obtain⟨x,hx,_⟩:=h5 i row hi j d hj;refine⟨rfl,.inr rfl,?_⟩;rw[C9,Kn hb,←bl,hx];simp[eu,hx]
  .obtain⟨x,hx,hr⟩:=h5 i row hi j d hj;rw[aR,hx];cases d with
   |v y=>obtain⟨rfl,g,_⟩:=hr;exact .v _ g
   |s r=>obtain⟨rfl,rfl⟩:=hr;exact .s none ⟨0,0,none⟩ 0 0 [] (λ_ _=>undef) (af _) (by simp[maxLen]) (λ_=>rfl) (by simp) (by simp) (by simp)
end
end Go.SL
namespace Go.SL
abbrev Dn:=List (Nat×Bool)
structure Ent where
 t:Nat
 p:Dn
 v:AV
 deriving Inhabited
inductive Cl where
 |call (f:FuncId) (args:List AV) (R:List Res) (res:AV) (R2:List Res) (pi:eR)
 |callB (f:FuncId) (args:List AV) (res:AV) (rows:List (List Pd)) (k:Nat) (rw:List Pd)
 |appD (rows:List (List Pd)) (k:Nat) (row:List Pd) (off:Nat) (rows1 rows2:List (List Pd)) (size:Nat) (n:Nat) (rows':List (List Pd))
 |updD (rows:List (List Pd)) (k0 k:Nat) (row row':List Pd) (rows':List (List Pd))
 |roomZ (n:Int) (rows rows':List (List Pd))
 |bnd (k:Nat) (lo hi hi2:Int)
 |bnd3 (k:Nat) (lo hi mx:Int)
 |appP (rows src:List (List Pd)) (size n m:Nat) (l rows':List (List Pd))
 |eqr (rows rows':List (List Pd))
 |cpy (src:List (List Pd)) (size n m:Nat) (rows rows':List (List Pd))
 |row (rows:List (List Pd)) (n:Int) (row:List Pd)
 |upd (rows:List (List Pd)) (k:Nat) (row row':List Pd) (rows':List (List Pd))
 |nz (n:Int)
 |len (k n:Int)
 |cut (rows:List (List Pd)) (size:Nat) (lo hi:Int) (rows':List (List Pd))
 |room (n:Int) (rows rows':List (List Pd))
 |app (rows1 rows2:List (List Pd)) (size:Nat) (n:Nat) (rows':List (List Pd))
 |own
 |byte (s:ByteArray) (n:Int) (b:UInt8)
 |fnv (x:Value) (g:FuncId)
 |idx (rows:List (List Pd)) (n:Int) (row:List Pd)
 |strb (rows:List (List Pd)) (s:ByteArray)
 |when (Hk:List (Bool×Bool)) (c:Cl)
 |whenR (Hk:List (Bool×Bool)) (c:Cl)
 |flts (rs:List Res)
 |flt (i:Nat) (r r':Res)
 |fltm (i:Nat) (c:Cl) (r r':Res)
 |nop
 deriving Inhabited
def Dq:List (Bool×Bool)->Prop
 | []=>True
 |(a,b)::r=>a=b/\Dq r
def Cl.keeps:Cl->Prop
 |.call _ _ R _ R2 pi=>R2.take pi.length=R
 |_=>False
def Fe(P:Program)(f:FuncId):Prop:=∀(args:Array Value)(w:World),(callFunc f args).run P w=.ok (.enter f args) w
def Cl.ok(P:Program):Cl->Prop
 |.call f args R res R2 _=>Fe P f/\CallOk P f args R res R2
 |.callB f args res rows k rw=>(Fe P f/\CallOk P f args [] res [])/\rows[k]?=some rw
 |.appD rows k l0 off rows1 rows2 size n rows'=>(rows[k]?=some l0/\l0[off]?=some (.s rows1))/\(n<=140737488355328/\(∀l,l∈rows2->l.length=size)/\rows1++rows2=rows')
 |.updD rows k0 k l l' rows'=>k0=k/\rows[k]?=some l/\rows.set k l'=rows'
 |.roomZ n rows rows'=>0<=n/\n<=140737488355328/\rows=rows'
 |.bnd k lo hi hi2=>0<=lo/\lo<=hi/\hi<=k/\hi=hi2
 |.bnd3 k lo hi mx=>0<=lo/\lo<=hi/\hi<=mx/\mx<=k
 |.appP rows src size n m l rows'=>(n+src.length=m/\m<=rows.length)/\(∀x,x∈src->x.length=size)/\l=rows'
 |.eqr rows rows'=>rows=rows'
 |.cpy src size n m rows rows'=>Nat.min src.length n=m/\(∀l,l∈src->l.length=size)/\rows=rows'
 |.row rows n l=>0<=n/\rows[n.toNat]?=some l
 |.upd rows k l l' rows'=>rows[k]?=some l/\rows.set k l'=rows'
 |.nz n=>n≠0
 |.len k n=>k=n
 |.cut rows size lo hi rows'=>0<=lo/\lo<=hi/\hi<=rows.length/\(∀l,l∈rows->l.length=size)/\(rows.take hi.toNat).drop lo.toNat=rows'
 |.room n rows rows'=>0<=n/\n<=140737488355328/\rows=rows'
 |.app rows1 rows2 size n rows'=>n<=140737488355328/\(∀l,l∈rows2->l.length=size)/\rows1++rows2=rows'
 |.own=>True
 |.byte s n b=>0<=n/\s.data[n.toNat]?=some b
 |.fnv x g=>x=.func (.func g) #[] #[]
 |.idx rows n l=>0<=n/\rows[n.toNat]?=some l
 |.strb rows s=>rows=s.data.toList.map λb=>[Pd.v (.int .u8 (b.toNat:Int))]
 |.when Hk c=>Dq Hk->c.ok P
 |.whenR Hk c=>(Dq Hk->c.ok P)/\(¬Dq Hk->c.keeps)
 |.flts _=>True
 |.flt _ r r'=>r=r'
 |.fltm _ c r r'=>c.ok P/\r=r'
 |.nop=>True
def Dc(P:Program):List Cl->Prop
 | []=>True
 |c::r=>c.ok P/\Dc P r
def Eu:List Ent->Nat->Option Ent
 | [],_=>none
 |e::r,t=>bif Nat.beq e.t t then some e else Eu r t
def G8:Dn->Dn->Bool
 | [],_=>true
 |(a,x)::p,(b,y)::q=>Nat.beq a b&&(x==y)&&G8 p q
 |_::_,[]=>false
def dOf(v:Value):Option D:=bif v.oneCell' then some (.p (.v v)) else none
def Gu:eU->Option (List D)
 | []=>some []
 |v::r=>match dOf v,Gu r with
  |some d,some ds=>some (d::ds)
  |_,_=>none
def Pm:Value->Option AV
 |.agg cs=>(Gu cs.toList).map .agg
 |.tuple _=>none
 |v=>(dOf v).map .d
def look(L:List Ent)(cur:Dn):Operand->Option AV
 |.const v=>Pm v
 |.tmp t=>match Eu L t with
  |some e=>bif G8 e.p cur then some e.v else none
  |none=>none
 |.func f=>some (.d (.fn (.func f) [] []))
 |.global _=>none
def D.norm:D->D
 |.p (.v (.slice none 0 0))=>.p (.s [])
 |d=>d
def AV.norm:AV->AV
 |.d x=>.d x.norm
 |.agg ds=>.agg (ds.map D.norm)
 |.tup l=>.tup l
def O8:TypeDesc->Bool
 |.struct _|.array _ _=>true
 |_=>false
def Sn(P:Program)(t:TypeId):Option Bool:=(P.underlying t).map O8
def B8(P:Program)(t:TypeId):Option Nat:=(P.info? t).map (·.size)
def Fp(P:Program)(t:TypeId):Option Value:=(P.info? t).bind (·.zero)
def I6:AV->Option (List D)
 |.d x=>some [x]
 |.agg ds=>some ds
 |.tup _=>none
def Hr(P:Program)(t:TypeId)(ds:List D):Option AV:=
 match Sn P t,B8 P t with
 |some true,some n=>bif Nat.beq ds.length n then some (.agg ds) else none
 |some false,some 1=>match ds with
  | [d]=>some (.d d)
  |_=>none
 |_,_=>none
def Ow(cells:List D)(off:Nat)(ds:List D):List D:=cells.take off++(ds++cells.drop (off+ds.length))
def Jc(places:List (Nat×Nat)):List D->List (Nat×List D)->Option (List D)
 |cells,[]=>some cells
 |cells,(i,ds)::r=>match places[i]? with
  |some (off,size)=>bif Nat.beq ds.length size&&Nat.ble (off+ds.length) cells.length then Jc places (Ow cells off ds) r else none
  |none=>none
def A6m(k:IntKind)(a b:Int):Int:=k.wrap (BitVec.ofInt k.bits a &&& BitVec.ofInt k.bits b).toNat
def orI(k:IntKind)(a b:Int):Int:=k.wrap (BitVec.ofInt k.bits a ||| BitVec.ofInt k.bits b).toNat
def A28(k:IntKind)(a b:Int):Int:=k.wrap (BitVec.ofInt k.bits a ^^^ BitVec.ofInt k.bits b).toNat
def Uu(k:IntKind)(a:Int)(n:Nat):Int:=a.fdiv (2 ^ min n k.bits)
def A3c(k:IntKind)(a:Int)(n:Nat):Int:=k.wrap (a*2 ^ min n k.bits)
def bin(op:BinOp)(x y:Value):Option Value:=
 match op,x,y with
 |.and,.int k a,.int k' b=>if k=k' then some (.int k (A6m k a b)) else none
 |.or,.int k a,.int k' b=>if k=k' then some (.int k (orI k a b)) else none
 |.xor,.int k a,.int k' b=>if k=k' then some (.int k (A28 k a b)) else none
 |.shr,.int k a,.int _ (.ofNat n)=>some (.int k (Uu k a n))
 |.shl,.int k a,.int _ (.ofNat n)=>some (.int k (A3c k a n))
 |.add,.int k a,.int k' b=>if k=k' then some (.int k (k.wrap (a+b))) else none
 |.sub,.int k a,.int k' b=>if k=k' then some (.int k (k.wrap (a-b))) else none
 |.mul,.int k a,.int k' b=>if k=k' then some (.int k (k.wrap (a*b))) else none
 |.eql,.int k a,.int k' b=>if k=k' then some (.bool (a==b)) else none
 |.neq,.int k a,.int k' b=>if k=k' then some (.bool (a != b)) else none
 |.lss,.int k a,.int k' b=>if k=k' then some (.bool (decide (a<b))) else none
 |.leq,.int k a,.int k' b=>if k=k' then some (.bool (decide (a<=b))) else none
 |.gtr,.int k a,.int k' b=>if k=k' then some (.bool (decide (a>b))) else none
 |.geq,.int k a,.int k' b=>if k=k' then some (.bool (decide (a>=b))) else none
 |.eql,.string a,.string b=>some (.bool (a.toList==b.toList))
 |.neq,.string a,.string b=>some (.bool !(a.toList==b.toList))
 |_,_,_=>none
def Ax5(op:BinOp)(x y:Value):Option Value:=
 match op,x,y with
 |.eql,.bool a,.bool b=>some (.bool (a==b))
 |.neq,.bool a,.bool b=>some (.bool !(a==b))
 |_,_,_=>none
def Afm(a b:ByteArray):Int:=bif decide (((a.size+b.size:Nat):Int)<=9223372036854775807)then 1 else 0
def Ax4(op:BinOp)(x y:Value):Option (Value×Int):=
 match op,x,y with
 |.quo,.int k a,.int k' b=>if k=k' then some (.int k (k.wrap (a.tdiv b)),b) else none
 |.rem,.int k a,.int k' b=>if k=k' then some (.int k (a.tmod b),b) else none
 |.add,.string a,.string b=>some (.string (a++b),Afm a b)
 |_,_,_=>none
def un(op:UnOp)(x:Value):Option Value:=
 match op,x with
 |.neg,.int k n=>some (.int k (k.wrap (0-n)))
 |.not,.bool b=>some (.bool !b)
 |_,_=>none
def Dm:AV->Option Value
 |.d (.p (.v x))=>some x
 |_=>none
def Pf:List AV->Option eU
 | []=>some []
 |a::r=>match Dm a,Pf r with
  |some x,some xs=>some (x::xs)
  |_,_=>none
def ofV(v:Value):AV:=.d (.p (.v v))
def Mu:AV->Option Bool
 |.d (.p (.v (.bool b)))=>some b
 |_=>none
def Aea:Int->eU->Option Int
 |m,[]=>some m
 |m,x::r=>match x with
  |.int .i64 y=>Aea (max m y) r
  |_=>none
def Ad8:Int->eU->Option Int
 |m,[]=>some m
 |m,x::r=>match x with
  |.int .i64 y=>Ad8 (min m y) r
  |_=>none
mutual
def D.ren(f:Nat->Option Nat):D->Option D
 |.p x=>some (.p x)
 |.o i off=>match f i with
  |some j=>some (.o j off)
  |none=>none
 |.os i=>match f i with
  |some j=>some (.os j)
  |none=>none
 |.oe i k size off=>match f i with
  |some j=>some (.oe j k size off)
  |none=>none
 |.osb i lo n size=>match f i with
  |some j=>some (.osb j lo n size)
  |none=>none
 |.oi i g k size off=>match f i,f g with
  |some j,some q=>some (.oi j q k size off)
  |_,_=>none
 |.ip cells=>some (.ip cells)
 |.fn g a b=>match D.renL f a,D.renL f b with
  |some a',some b'=>some (.fn g a' b')
  |_,_=>none
 |.any=>some .any
 |.nq rows=>some (.nq rows)
def D.renL(f:Nat->Option Nat):List D->Option (List D)
 | []=>some []
 |d::r=>match D.ren f d,D.renL f r with
  |some d',some r'=>some (d'::r')
  |_,_=>none
end
mutual
def AV.ren(f:Nat->Option Nat):AV->Option AV
 |.d x=>match x.ren f with
  |some y=>some (.d y)
  |none=>none
 |.agg ds=>match D.renL f ds with
  |some es=>some (.agg es)
  |none=>none
 |.tup l=>match AV.renL f l with
  |some m=>some (.tup m)
  |none=>none
def AV.renL(f:Nat->Option Nat):List AV->Option (List AV)
 | []=>some []
 |a::r=>match AV.ren f a,AV.renL f r with
  |some a',some r'=>some (a'::r')
  |_,_=>none
end
def Res.ren(f:Nat->Option Nat):Res->Option Res
 |.box t cells=>match D.renL f cells with
  |some cs=>some (.box t cs)
  |none=>none
 |.sl e size rows=>some (.sl e size rows)
 |.zsl e size rows=>some (.zsl e size rows)
 |.dsl e size g=>match f g with
  |some q=>some (.dsl e size q)
  |none=>none
 |.gh size tys rows hole=>some (.gh size tys rows hole)
 |.non=>some .non
 |.vec e cells=>match D.renL f cells with
  |some cs=>some (.vec e cs)
  |none=>none
def Jb(f:Nat->Option Nat):List Res->Option (List Res)
 | []=>some []
 |r::l=>match r.ren f,Jb f l with
  |some r',some l'=>some (r'::l')
  |_,_=>none
def Fy:eR->Nat->Option Nat
 | [],_=>none
 |a::r,i=>bif Nat.beq a i then some 0 else match Fy r i with
  |some j=>some (j+1)
  |none=>none
def Gq:eR->Bool
 | []=>true
 |a::r=>(Fy r a).isNone&&Gq r
def Le(R:List Res):eR->Option (List Res)
 | []=>some []
 |i::r=>match R[i]?,Le R r with
  |some x,some xs=>some (x::xs)
  |_,_=>none
def Gw(pi:eR)(n:Nat)(j:Nat):Option Nat:=
 match pi[j]? with
 |some i=>some i
 |none=>some (n+(j-pi.length))
def Gh:List Res->eR->List Res->List Res
 |R,i::pi,r::l=>Gh (R.set i r) pi l
 |R,_,_=>R
structure Out where
 v:AV
 R:List Res
 c:Option Cl
 deriving Inhabited
def K8(R:List Res):D->Option Pd
 |.p x=>some x
 |.os i=>match R[i]? with
  |some (.sl _ _ rows)=>some (.s rows)
  |some (.zsl _ _ rows)=>some (.s rows)
  |_=>none
 |_=>none
def Iz(R:List Res):List D->Option (List Pd)
 | []=>some []
 |d::r=>match K8 R d,Iz R r with
  |some x,some l=>some (x::l)
  |_,_=>none
mutual
def D.view(R:List Res)(rw:List Pd):D->Option D
 |.p x=>some (.p x)
 |.ip c=>some (.ip c)
 |.os i=>match R[i]? with
  |some (.sl _ _ rows)=>some (.p (.s rows))
  |some (.zsl _ _ rows)=>some (.p (.s rows))
  |_=>none
 | .o i off=>match R[i]? with
  |some (.box _ cells)=>match Iz R cells with
   |some ps=>some (.ip (ps.drop off))
   |none=>none
  |_=>none
 |.oe _ _ _ _=>none
 |.osb i lo n size=>match R[i]? with
  |some (.sl _ s rows)=>bif Nat.beq s size then some (.p (.s ((rows.drop lo).take n))) else none
  |_=>none
 | .oi _ g _ size off=>match R[g]? with
  |some (.gh s _ _ none)=>bif Nat.beq s size&&Nat.blt off s then match rw[off]? with
   |some (.s r)=>some (.p (.s r))
   |_=>none
   else none
  |_=>none
 |.fn g a b=>match D.viewL R rw a,D.viewL R rw b with
  |some a',some b'=>some (.fn g a' b')
  |_,_=>none
 |.any=>some .any
 |.nq rows=>some (.nq rows)
def D.viewL(R:List Res)(rw:List Pd):List D->Option (List D)
 | []=>some []
 |d::r=>match D.view R rw d,D.viewL R rw r with
  |some d',some r'=>some (d'::r')
  |_,_=>none
end
def AV.view(R:List Res)(rw:List Pd):AV->Option AV
 |.d x=>match x.view R rw with
  |some y=>some (.d y)
  |none=>none
 |.agg ds=>match D.viewL R rw ds with
  |some es=>some (.agg es)
  |none=>none
 |.tup _=>none
def AV.viewL(R:List Res)(rw:List Pd):List AV->Option (List AV)
 | []=>some []
 |a::r=>match AV.view R rw a,AV.viewL R rw r with
  |some a',some r'=>some (a'::r')
  |_,_=>none
def D.flat:D->Bool
 |.p (.v _)=>true
 |_=>false
mutual
def AV.flat:AV->Bool
 |.d x=>x.flat
 |.agg ds=>ds.all D.flat
 |.tup l=>dE l
def dE:List AV->Bool
 | []=>true
 |a::r=>a.flat&&dE r
end
mutual
def D.ois:D->List (Nat×Nat)
 |.oi _ g k _ _=>[(g,k)]
 |.fn _ a b=>dm a++dm b
 |_=>[]
def dm:List D->List (Nat×Nat)
 | []=>[]
 |d::r=>D.ois d++dm r
end
def AV.ois:AV->List (Nat×Nat)
 |.d x=>x.ois
 |.agg ds=>dm ds
 |.tup _=>[]
def oisL:List AV->List (Nat×Nat)
 | []=>[]
 |a::r=>a.ois++oisL r
def Hu(R : List Res)(args : List AV)(f : FuncId) : Cl -> Option Out
 | .callB f' _ res _ _ rw=>bif Nat.beq f f'&&res.flat then
   match oisL args with
   | []=>match AV.viewL R [] (args.map AV.norm) with
    |some args'=>some ⟨res,R,some (.callB f args' res [[]] 0 [])⟩
    |none=>none
   | [(g,k)]=>match R[g]?,AV.viewL R rw (args.map AV.norm) with
    |some (.gh _ _ rows none),some args'=>some ⟨res,R,some (.callB f args' res rows k rw)⟩
    |_,_=>none
   |_=>none
  else none
 | .call f' _ _ res R2 pi=>
  bif Nat.beq f f'&&Gq pi&&Nat.ble pi.length R2.length then
   match AV.renL (Fy pi) (args.map AV.norm),Le R pi with
   |some args',some Rp=>match Jb (Fy pi) Rp,res.ren (Gw pi R.length),Jb (Gw pi R.length) R2 with
    |some Rp',some res',some R2'=>some ⟨res',Gh R pi R2'++R2'.drop pi.length,some (.call f args' Rp' res R2 pi)⟩
    |_,_,_=>none
   |_,_=>none
  else none
 |_=>none
def Ek(L:List Ent)(cur:Dn):List Operand->Option (List AV)
 | []=>some []
 |x::r=>match look L cur x,Ek L cur r with
  |some a,some l=>some (a::l)
  |_,_=>none
def Kw(L:List Ent)(cur:Dn):List (Nat×Operand)->Option (List (Nat×List D))
 | []=>some []
 |(i,x)::r=>match (look L cur x).bind I6,Kw L cur r with
  |some a,some l=>some ((i,a)::l)
  |_,_=>none
def Rc(P:Program)(s:TypeId)(f:Nat):Option (Nat×TypeId):=
 match P.underlying s with
 |some (.struct fields)=>match fields[f]? with
  |some x=>some (x.offset,x.type)
  |none=>none
 |_=>none
def L5(P:Program):List Field->Option (List (Nat×Nat))
 | []=>some []
 |f::r=>match B8 P f.type,L5 P r with
  |some n,some l=>some ((f.offset,n)::l)
  |_,_=>none
def M9(R:List Res):List AV->Option Int
 | [.d (.p (.s rows))]=>some rows.length
 | [.d (.p (.v (.slice none 0 _)))]=>some 0
 | [.d (.os i)]=>match R[i]? with
  |some (.sl _ _ rows)=>some rows.length
  |some (.dsl _ s g)=>match R[g]? with
   |some (.gh s2 _ rows _)=>bif Nat.beq s s2&&Nat.blt 0 s then some rows.length else none
   |_=>none
  |some (.vec _ cells)=>some cells.length
  |_=>none
 | [.d (.osb _ _ n _)]=>some n
 |_=>none
def Ae4:List AV->Option Int
 | [.d (.p (.v (.string s)))]=>some s.size
 |_=>none
def A4b(b:Builtin)(l:List AV):Option Int:=
 match Pf l with
 |some (.int .i64 x::r)=>match b with
  |.max=>Aea x r
  |.min=>Ad8 x r
  |_=>none
 |_=>none
def M6(ops : Array Oper)(L : List Ent)(o : Oper) : Option Dn :=
 match o.guard with
 |none=>some []
 | some (j,want)=>match (ops[j]?).bind (·.dst) with
  |none=>none
  | some t=>match Eu L t with
   |some e=>match Mu e.v with
    |some _=>some (e.p++[(t,want)])
    |none=>none
   |none=>none
def Hk(L:List Ent):Dn->Option (List (Bool×Bool))
 | []=>some []
 | (t,want)::p=>match Eu L t with
  |some e=>match Mu e.v,Hk L p with
   |some c,some l=>some ((c,want)::l)
   |_,_=>none
  |none=>none
def yM:Operand->Bool
 |.const (.bool b)=>b
 |_=>false
def Y7:Operand->Bool
 |.const (.bool b)=>!b
 |_=>false
def Ae3(L : List Ent)(cur : Dn)(c a b : Operand) : Option AV :=
 match c with
 | .tmp t=>match (look L cur (.tmp t)).bind Mu with
  | some x=>
   bif yM a then match (look L (cur++[(t,false)]) b).bind Mu with
    |some y=>some (ofV (.bool (x || y)))
    |none=>none
   else bif Y7 b then match (look L (cur++[(t,true)]) a).bind Mu with
    |some y=>some (ofV (.bool (x&&y)))
    |none=>none
   else none
  |none=>none
 |_=>none
def yX(P : Program)(same : TypeId -> AV -> AV -> Option Bool) : List Field -> List D -> List D -> Option Bool
 | [],_,_=>some true
 | f :: fs, ds, es => bif f.name == "_" then yX P same fs ds es else match B8 P f.type with
  | some n=>match Hr P f.type ((ds.drop f.offset).take n),Hr P f.type ((es.drop f.offset).take n) with
   |some a,some b=>match same f.type a b,yX P same fs ds es with
    |some r,some q=>some (r&&q)
    |_,_=>none
   |_,_=>none
  |none=>none
def eqA(P:Program):Nat->TypeId->AV->AV->Option Bool
 |0,_,_,_=>none
 | m+1,t,a,b=>match P.underlying t with
  |some .bool=>match a,b with
   |.d (.p (.v (.bool x))),.d (.p (.v (.bool y)))=>some (x==y)
   |_,_=>none
  |some (.int _)=>match a,b with
   |.d (.p (.v (.int k x))),.d (.p (.v (.int k' y)))=>if k=k' then some (x==y) else none
   |_,_=>none
  |some .string=>match a,b with
   |.d (.p (.v (.string x))),.d (.p (.v (.string y)))=>some (x.toList==y.toList)
   |_,_=>none
  |some (.struct fs)=>match a,b with
   |.agg ds,.agg es=>bif P.stoodInHeld t then none else yX P (eqA P m) fs.toList ds es
   |_,_=>none
  |_=>none
def Anb(P:Program)(L:List Ent)(cur:Dn)(R:List Res)(b:BinOp)(t:TypeId)(x y:Operand):Option (AV×Option Cl):=
 match look L cur x,look L cur y with
 |some (.d (.p (.s rows))),some (.d (.p (.v (.slice none 0 0))))=>match b,P.underlying t with
  |.eql,some (.slice _)=>some (.d (.nq rows),none)
  |_,_=>none
 |some (.d (.os i)),some (.d (.p (.v (.slice none 0 0))))=>match b,P.underlying t,R[i]? with
  |.eql,some (.slice _),some (.sl _ _ rows)=>some (.d (.nq rows),none)
  |_,_,_=>none
 |some (.agg ds),some (.agg es)=>bif P.eqGuardType P.depth t then none else match b with
  |.eql=>(eqA P 100 t (.agg ds) (.agg es)).map λz=>(ofV (.bool z),none)
  |.neq=>(eqA P 100 t (.agg ds) (.agg es)).map λz=>(ofV (.bool !z),none)
  |_=>none
 |_,_=>none
def Jn(i g k size:Nat):Nat->List Pd->List D
 |_,[]=>[]
 |off,.v x::r=>.p (.v x)::Jn i g k size (off+1) r
 |off,.s _::r=>.oi i g k size off::Jn i g k size (off+1) r
def fnV(P:Program)(t:TypeId)(c:Cl)(v:AV):Option (AV×Option Cl):=
 match v,c,P.underlying t with
 |.d (.p (.v y)),.fnv _ g,some (.func _ _ _)=>some (.d (.fn (.func g) [] []),some (.fnv y g))
 |v,_,_=>some (v,none)
def Vx(P:Program)(L:List Ent)(cur:Dn)(R:List Res)(c:Cl)(t:TypeId)(x:Operand):Option (AV×Option Cl):=
 match look L cur x,B8 P t with
 |some (.d (.o i off)),some n=>match R[i]? with
  |some (.box _ cells)=>(Hr P t ((cells.drop off).take n)).bind (fnV P t c)
  |_=>none
 |some (.d (.ip cells)),some n=>(Hr P t ((cells.take n).map D.p)).map λv=>(v,none)
 | some (.d (.oe i k size off)),some n=>match R[i]?,c with
  |some (.sl _ s rows),.row _ _ row=>bif Nat.beq s size then (Hr P t (((row.drop off).take n).map D.p)).map λv=>(v,some (.row rows k row)) else none
  |some (.dsl _ s g),.row _ _ row=>match R[g]? with
   |some (.gh s2 _ rows none)=>bif Nat.blt 0 s&&(Nat.beq s size&&Nat.beq s s2)then (Hr P t (Jn i g k size off ((row.drop off).take n))).map λv=>(v,some (.row rows k row)) else none
   |_=>none
  |some (.vec _ cells),_=>(Hr P t ((cells.drop (k*size+off)).take n)).map λv=>(v,none)
  |_,_=>none
 |_,_=>none
def Ana(P:Program)(L:List Ent)(cur:Dn)(R:List Res)(c:Cl)(t:TypeId)(x i:Operand):Option (AV×Option Cl):=
 match P.underlying t,look L cur x,(look L cur i).bind Dm with
 | some (.slice e),some (.d (.p (.s rows))),some (.int _ n)=>match c with
  |.row _ _ row=>match B8 P e with
   |some (k+1)=>bif Nat.beq row.length (k+1)then some (.d (.ip row),some (.row rows n row)) else none
   |_=>none
  |_=>none
 | some (.slice e),some (.d (.os j)),some (.int _ n)=>match R[j]?,c with
  |some (.sl _ s rows),.row _ _ row=>match B8 P e with
   |some (k+1)=>bif Nat.beq s (k+1)then some (.d (.oe j n.toNat (k+1) 0),some (.row rows n row)) else none
   |_=>none
  |some (.dsl _ s g),.row _ _ row=>match B8 P e,R[g]? with
   |some (k+1),some (.gh s2 _ rows _)=>bif Nat.beq s (k+1)&&Nat.beq s s2 then some (.d (.oe j n.toNat (k+1) 0),some (.row rows n row)) else none
   |_,_=>none
  |some (.vec _ cells),_=>match B8 P e with
   |some (k+1)=>bif Nat.beq k 0&&(decide (0<=n)&&Nat.blt n.toNat cells.length)then some (.d (.oe j n.toNat (k+1) 0),none) else none
   |_=>none
  |_,_=>none
 |some (.array m e),some (.d (.o j off)),some (.int _ (.ofNat k))=>match B8 P e with
  |some s=>bif Nat.blt k m then some (.d (.o j (off+k*s)),none) else none
  |_=>none
 |some (.array m e),some (.d (.ip cells)),some (.int _ (.ofNat k))=>match B8 P e with
  |some s=>bif Nat.blt k m then some (.d (.ip (cells.drop (k*s))),none) else none
  |_=>none
 |some (.slice _),some (.d (.p (.v (.slice none 0 0)))),some (.int _ n)=>match c with
  |.row _ _ row=>some (.d (.ip row),some (.row [] n row))
  |_=>none
 |_,_,_=>none
def dP:D->Option Pd
 |.p x=>some x
 |.fn f [] []=>some (.v (.func f #[] #[]))
 |_=>none
def dPs:List D->Option (List Pd)
 | []=>some []
 |d::r=>match dP d,dPs r with
  |some x,some l=>some (x::l)
  |_,_=>none
def Es{α:Type}(size:Nat):Nat->List α->List (List α)
 |0,_=>[]
 |n+1,l=>l.take size::Es size n (l.drop size)
def Arn(P:Program)(n:Nat)(e:TypeId)(ds:List D)(k:Int)(row:List Pd):Option (AV×Option Cl):=
 match B8 P e,dPs ds with
 |some (s+1),some ps=>bif Nat.beq ps.length (n*(s+1))then (Hr P e (row.map D.p)).map λv=>(v,some (.idx (Es (s+1) n ps) k row)) else none
 |_,_=>none
def Amw:Cl->Option (List Pd)
 |.idx _ _ row=>some row
 |_=>none
def qG(P:Program)(L:List Ent)(cur:Dn)(R:List Res)(c:Cl)(s d:TypeId)(x:Operand):Option (AV×Option Cl):=
 match P.underlying s,P.underlying d,c with
 | some (.slice e),some .string,.strb _ b=>match P.underlying e,look L cur x with
  |some (.int .u8),some (.d (.os i))=>match R[i]? with
   |some (.sl _ z rows)=>bif Nat.beq z 1 then some (ofV (.string b),some (.strb rows b)) else none
   |_=>none
  |some (.int .u8),some (.d (.p (.s rows)))=>some (ofV (.string b),some (.strb rows b))
  |_,_=>none
 |_,_,_=>none
def Cw(P : Program)(L : List Ent)(cur : Dn)(R : List Res)(c : Cl)(op : Op) : Option (AV × Option Cl) :=
 match op with
 |.move x|.assign x=>(look L cur x).map λv=>(v,none)
 |.pick k a b=>(Ae3 L cur k a b).map λv=>(v,none)
 | .build t parts=>match (Fp P t).bind λz=>Gu z.cells.toList,P.underlying t,Kw L cur parts.toList with
  |some zs,some (.struct fields),some ps=>match (L5 P fields.toList).bind λpl=>Jc pl zs ps with
   |some ds=>some (.agg ds,none)
   |none=>none
  | some zs,some (.array n e),some ps=>match B8 P e with
   |some s=>match Jc ((List.range n).map λi=>(i*s,s)) zs ps with
    |some ds=>some (.agg ds,none)
    |none=>none
   |none=>none
  |_,_,_=>none
 |.load t (.global g)=>match globTab g,B8 P t with
  |some cells,some n=>(Hr P t ((cells.take n).map D.p)).map λv=>(v,none)
  |_,_=>none
 |.load t x=>Vx P L cur R c t x
 |.nilCheck x=>match look L cur x with
  |some (.d (.o i off))=>some (.d (.o i off),none)
  |some (.d (.oe i k s off))=>some (.d (.oe i k s off),none)
  |some (.d (.ip cells))=>some (.d (.ip cells),none)
  |_=>none
 | .binOp b t x y _=>match (look L cur x).bind Dm,(look L cur y).bind Dm with
  | some u,some v=>match bin b u v with
   |some z=>some (ofV z,none)
   | none=>match Ax4 b u v with
    |some (z,n)=>some (ofV z,some (.nz n))
    |none=>match P.underlying t with
     |some .bool=>(Ax5 b u v).map λz=>(ofV z,none)
     |_=>none
  |_,_=>Anb P L cur R b t x y
 |.unOp u _ x=>match (look L cur x).bind Dm with
  |some v=>(un u v).map λz=>(ofV z,none)
  |none=>none
 |.convert s d x=>match P.underlying s,P.underlying d,(look L cur x).bind Dm with
  |some (.int _),some (.int k),some (.int _ n)=>some (ofV (.int k (k.wrap n)),none)
  |_,_,_=>qG P L cur R c s d x
 | .makeFunc f first caps=>match Ek L cur first.toList,Ek L cur caps.toList with
  |some a,some b=>match (a.mapM fun|.d x=>some x|_=>none),(b.mapM fun|.d x=>some x|_=>none) with
   |some a',some b'=>some (.d (.fn f a' b'),none)
   |_,_=>none
  |_,_=>none
 | .fieldAddr s x f=>match look L cur x,Rc P s f with
  |some (.d (.o i off)),some (k,ft)=>match B8 P ft with
   |some (_+1)=>some (.d (.o i (off+k)),none)
   |_=>none
  |some (.d (.ip cells)),some (k,ft)=>match B8 P ft with
   |some (_+1)=>some (.d (.ip (cells.drop k)),none)
   |_=>none
  |some (.d (.oe i r size off)),some (k,ft)=>match B8 P ft with
   |some (_+1)=>some (.d (.oe i r size (off+k)),none)
   |_=>none
  |_,_=>none
 | .field s x f=>match look L cur x,Rc P s f with
  |some (.agg ds),some (k,ft)=>match B8 P ft with
   |some n=>(Hr P ft ((ds.drop k).take n)).map λv=>(v,none)
   |none=>none
  |_,_=>none
 |.indexAddr t x i=>Ana P L cur R c t x i
 | .index t x i=>match P.underlying t,look L cur x,(look L cur i).bind Dm with
  | some (.array n e),some (.agg ds),some (.int _ kk)=>match Amw c with
   |some row=>Arn P n e ds kk row
   |none=>match kk,B8 P e with
    |.ofNat k,some s=>bif Nat.blt k n&&Nat.ble ((k+1)*s) ds.length then (Hr P e ((ds.drop (k*s)).take s)).map λv=>(v,none) else none
    |_,_=>none
  |some .string,some (.d (.p (.v (.string s)))),some (.int _ n)=>match c with
   |.byte _ _ b=>some (ofV (.int .u8 b.toNat),some (.byte s n b))
   |_=>none
  |_,_,_=>none
 |.extract x i=>match look L cur x with
  |some (.tup l)=>(l[i]?).map λv=>(v,none)
  |_=>none
 | .slice t x lo hi none=>match P.underlying t,look L cur x with
  | some (.slice e),some (.d (.p (.s rows)))=>match B8 P e,(match lo with|none=>some (Value.int .i64 0)|some y=>(look L cur y).bind Dm),(match hi with|none=>some (Value.int .i64 rows.length)|some y=>(look L cur y).bind Dm) with
   |some n,some (.int _ l),some (.int _ h)=>match c with
    |.cut _ _ _ _ rows'=>some (.d (.p (.s rows')),some (.cut rows n l h rows'))
    |_=>none
   |_,_,_=>none
  | some (.slice e),some (.d (.os i))=>match R[i]? with
   | some (.sl _ s rows)=>match B8 P e,(match lo with|none=>some (Value.int .i64 0)|some y=>(look L cur y).bind Dm),(match hi with|none=>some (Value.int .i64 rows.length)|some y=>(look L cur y).bind Dm) with
    |some n,some (.int _ l),some (.int _ h)=>match c with
     |.bnd _ _ _ h2=>bif Nat.beq s n then some (.d (.osb i l.toNat (h2.toNat-l.toNat) n),some (.bnd rows.length l h h2)) else none
     |_=>none
    |_,_,_=>none
   |_=>none
  | some (.slice e),some (.d (.osb i o0 n0 s0))=>match R[i]? with
   | some (.sl _ s rows)=>match B8 P e,(match lo with|none=>some (Value.int .i64 0)|some y=>(look L cur y).bind Dm),(match hi with|none=>some (Value.int .i64 n0)|some y=>(look L cur y).bind Dm) with
    |some n,some (.int _ l),some (.int _ h)=>match c with
     |.bnd _ _ _ h2=>bif Nat.beq s n&&Nat.beq s0 n then some (.d (.osb i (o0+l.toNat) (h2.toNat-l.toNat) n),some (.bnd (rows.length-o0) l h h2)) else none
     |_=>none
    |_,_,_=>none
   |_=>none
  | some .string,some (.d (.p (.v (.string s))))=>match (match lo with|none=>some (Value.int .i64 0)|some y=>(look L cur y).bind Dm),(match hi with|none=>some (Value.int .i64 s.size)|some y=>(look L cur y).bind Dm) with
   |some (.int _ l),some (.int _ h)=>match c with
    |.bnd _ _ _ h2=>some (ofV (.string (s.extract l.toNat h2.toNat)),some (.bnd s.size l h h2))
    |_=>none
   |_,_=>none
  |_,_=>none
 | .slice t x (some lo) (some hi) (some mx)=>match P.underlying t,look L cur x with
  | some (.slice e),some (.d (.os i))=>match R[i]? with
   | some (.sl _ _ rows)=>match (look L cur lo).bind Dm,(look L cur hi).bind Dm,(look L cur mx).bind Dm with
    |some (.int _ l),some (.int _ h),some (.int _ m)=>match c,B8 P e with
     |.bnd3 _ _ _ _,some _=>some (.d .any,some (.bnd3 rows.length l h m))
     |_,_=>none
    |_,_,_=>none
   |_=>none
  |_,_=>none
 | .call k=>match k.callee with
  | .builtin b=>match Ek L cur k.args.toList with
   | some args=>match b,k.argTypes[0]? with
    | .len,some t=>match P.underlying t with
     |some (.slice _)=>match c with
      |.len _ n=>(M9 R args).map λk=>(ofV (.int .i64 n),some (.len k n))
      |_=>(M9 R args).map λn=>(ofV (.int .i64 n),none)
     |some .string=>(Ae4 args).map λn=>(ofV (.int .i64 n),none)
     |_=>none
    |_,_=>(A4b b args).map λn=>(ofV (.int .i64 n),none)
   |none=>none
  |_=>none
 |_=>none
def E0{α:Type}:Nat->List α->List α
 |0,_=>[]
 |n+1,l=>l++E0 n l
def Pd.nz:Pd->Pd
 |.v (.slice none 0 0)=>.s []
 |x=>x
def Mp:Cl->Bool
 |.own=>true
 |_=>false
def Ig(P : Program)(R : List Res)(c : Cl)(t : TypeId)(len : Nat)(parts : List (Nat × List D)) : Option Out :=
 match P.underlying t with
 | some (.slice e)=>match B8 P e,(Fp P e).bind λz=>Gu z.cells.toList with
  | some (size+1),some zs=>
   bif Nat.beq zs.length (size+1)&&Nat.ble (len*(size+1)) 16777216 then
    match (Jc ((List.range len).map λi=>(i*(size+1),size+1)) (E0 len zs) parts).bind dPs with
    |some ps=>bif Mp c then some ⟨.d (.os R.length),R++[.sl e (size+1) (Es (size+1) len (ps.map Pd.nz))],some .own⟩ else some ⟨.d (.p (.s (Es (size+1) len (ps.map Pd.nz)))),R,none⟩
    |none=>bif Mp c&&Nat.beq size 0 then (Jc ((List.range len).map λi=>(i*(size+1),size+1)) (E0 len zs) parts).map λds=>⟨.d (.os R.length),R++[.vec e ds],some .own⟩ else none
   else none
  |_,_=>none
 |_=>none
def Jr(R:List Res)(size:Nat):AV->Option (List (List Pd))
 |.d (.p (.s rows))=>some rows
 |.d (.p (.v (.slice none 0 0)))=>some []
 |.d (.os i)=>match R[i]? with
  |some (.sl _ s rows)=>bif Nat.beq s size then some rows else none
  |_=>none
 |.d (.osb i lo n s2)=>match R[i]? with
  |some (.sl _ s rows)=>bif Nat.beq s size&&Nat.beq s2 s then some ((rows.drop lo).take n) else none
  |_=>none
 |_=>none
def Dd(P : Program)(R : List Res)(c : Cl)(ts : List TypeId)(args : List AV) : Option Out :=
 match ts,args with
 | [t, u], [x, y] => bif Nat.beq t u then match P.underlying t with
  | some (.slice e)=>match B8 P e,(P.info? e).map (·.bytes),(Fp P e).map (λz=>z.cells.size) with
   | some (size+1),some bytes,some zn=>match c,Jr R (size+1) y with
    | .app _ _ _ _ rows',some rows2=>bif Nat.beq zn (size+1)then match x with
     |.d (.p (.v (.slice none 0 0)))=>some ⟨.d (.os (R.length+1)),R++[.non,.sl e (size+1) rows'],some (.app [] rows2 (size+1) (rows2.length*(bytes+1)) rows')⟩
     |.d (.os i)=>match R[i]? with
      |some (.sl e' s' rows)=>bif Nat.beq e' e&&Nat.beq s' (size+1)then some ⟨.d (.os R.length),R.set i .non++[.sl e (size+1) rows'],some (.app rows rows2 (size+1) ((rows.length+rows2.length)*(bytes+1)) rows')⟩ else none
      |_=>none
     |_=>none
     else none
    |_,_=>none
   |_,_,_=>none
  |_=>none
  else none
 |_,_=>none
def zB:Pd->Bool
 |.v (.slice none 0 0)=>true
 |.v (.slice _ _ _)=>false
 |.v _=>true
 |.s _=>false
def Kz(P:Program)(R:List Res)(c:Cl)(ts:List TypeId)(i g k size off:Nat)(y:AV):Option Out:=
 match R[i]?,R[g]?,c with
 | some (.dsl e s g'),some (.gh s2 tys rows none),.appD _ _ row _ r1 r2 sz n rows'=>match tys[off]? with
  |some (e2,sz2)=>bif (Nat.beq g g'&&Nat.beq s s2)&&(Nat.beq s size&&Nat.blt off s) then
   match Dd P ((R.set g .non).set i (.dsl e s R.length)++[.gh s tys rows (some (k,off)),.sl e2 sz2 r1]) (.app r1 r2 sz n rows') ts [.d (.os (R.length+1)),y] with
   |some ⟨v,R',some (.app _ b z m r')⟩=>some ⟨v,R',some (.appD rows k row off r1 b z m r')⟩
   |_=>none
   else none
  |none=>none
 |_,_,_=>none
def Vw(R : List Res)(c : Cl)(o : Oper)(i k size off : Nat)(ds : List D)(n : Nat) : Option Out :=
 match R[i]?,ds,c with
 | some (.dsl e s g),[.os m],.updD _ _ _ row _ rows'=>match R[g]?,R[m]? with
  | some (.gh s2 tys rows (some (k0,off0))),some (.sl e2 sz2 r1)=>match tys[off]? with
   | some (e3,sz3)=>
    bif (Nat.beq s size&&Nat.beq s s2)&&((Nat.beq off off0&&Nat.beq n 1)&&((Nat.blt off s&&o.dst.isNone)&&(Nat.beq e2 e3&&Nat.beq sz2 sz3))) then
     some ⟨.tup [],(((R.set m .non).set g .non).set i (.dsl e s R.length))++[.gh s tys rows' none],some (.updD rows k0 k row (row.take off++(.s r1::row.drop (off+1))) rows')⟩
    else none
   |none=>none
  |_,_=>none
 |_,_,_=>none
def Na(P : Program)(R : List Res)(c : Cl)(ts : List TypeId)(i n s : Nat)(y : AV) : Option Out :=
 match ts with
 | [t, u] => bif Nat.beq t u then match P.underlying t with
  | some (.slice e)=>match B8 P e,Jr R s y,R[i]? with
   | some (size+1),some src,some (.sl e' s' rows)=>match c with
    | .appP _ _ _ _ m _ rows'=>bif Nat.beq s' s&&Nat.beq s (size+1) then
      some ⟨.d (.osb i 0 m s),R.set i (.sl e' s' rows'),some (.appP rows src s n m (rows.take n++(src++rows.drop (n+src.length))) rows')⟩
     else none
    |_=>none
   |_,_,_=>none
  |_=>none
  else none
 |_=>none
def M_(P:Program)(R:List Res)(c:Cl)(ts:List TypeId)(i n s:Nat)(y:AV):Option Out:=
 match R[i]? with
 |some (.sl e s' rows)=>bif Nat.beq s' s then Dd P (R.set i .non++[.sl e s' (rows.take n)]) c ts [.d (.os R.length),y] else none
 |_=>none
def P4(P:Program)(R:List Res)(c:Cl)(ts:List TypeId)(i n s:Nat)(y:AV):Option Out:=
 match c with
 |.appP ..=>Na P R c ts i n s y
 |_=>M_ P R c ts i n s y
def qM(R:List Res):AV->Option (Nat×Nat×Nat×Nat)
 |.d (.os i)=>match R[i]? with
  |some (.sl _ s rows)=>some (i,0,rows.length,s)
  |_=>none
 |.d (.osb i lo n s)=>some (i,lo,n,s)
 |_=>none
def Ri(P : Program)(R : List Res)(c : Cl)(ts : List TypeId)(args : List AV) : Option Out :=
 match ts,args with
 | [t], [x] => match P.underlying t with
  | some (.slice e)=>match B8 P e,(Fp P e).bind λz=>Gu z.cells.toList,qM R x with
   | some (size+1),some zd,some (i,lo,n,s)=>match dPs zd,R[i]?,c with
    | some zs,some (.sl e' s2 rows),.eqr _ rows'=>bif (Nat.beq s s2&&Nat.beq s (size+1))&&Nat.beq zs.length (size+1) then
      some ⟨.tup [],R.set i (.sl e' s2 rows'),some (.eqr (rows.take lo++(List.replicate n (zs.map Pd.nz)++rows.drop (lo+n))) rows')⟩
     else none
    |_,_,_=>none
   |_,_,_=>none
  |_=>none
 |_,_=>none
def Vy(_:Program)(_:List Res)(_:Cl)(_:List TypeId)(_:List AV):Option Out:=none
def M8(P:Program)(R:List Res)(c:Cl)(t:TypeId)(len:Option Value):Option Out:=
 match P.underlying t,len,c with
 | some (.slice e),some (.int .i64 l),.room _ _ rows'=>match B8 P e,(P.info? e).map (·.bytes),(Fp P e).bind λz=>Gu z.cells.toList with
  |some (size+1),some bytes,some ds=>match dPs ds with
   |some zs=>bif Nat.beq zs.length (size+1)then some ⟨.d (.os R.length),R++[.sl e (size+1) rows'],some (.room (l*(bytes+1)) (List.replicate l.toNat zs) rows')⟩ else none
   |none=>none
  |_,_,_=>none
 | some (.slice e),some (.int .i64 l),.roomZ _ _ rows'=>match B8 P e,(P.info? e).map (·.bytes),(Fp P e).bind λz=>Gu z.cells.toList with
  |some (size+1),some bytes,some ds=>match dPs ds with
   |some zs=>bif Nat.beq zs.length (size+1)&&zs.all zB then some ⟨.d (.os R.length),R++[.zsl e (size+1) rows'],some (.roomZ (l*(bytes+1)) (List.replicate l.toNat (zs.map Pd.nz)) rows')⟩ else none
   |none=>none
  |_,_,_=>none
 |_,_,_=>none
def Pl(s:ByteArray):eQ:=s.data.toList.map λb=>(b.toNat:Int)
def Nb(s:ByteArray):List (List Pd):=(Pl s).map λn=>[Pd.v (.int .u8 n)]
def Vz(P:Program)(R:List Res)(c:Cl)(s d:TypeId)(x:Option Value):Option Out:=
 match P.underlying s,P.underlying d,x,c with
 |some .string,some (.slice e),some (.string b),.room _ _ rows'=>match P.underlying e with
  |some (.int .u8)=>some ⟨.d (.p (.s rows')),R,some (.room b.size (Nb b) rows')⟩
  |_=>none
 |_,_,_,_=>none
def Rf(_:Program)(_:List Res)(_:Cl)(_ _:TypeId)(_:Option Value):Option Out:=none
def Rh(_:Program)(_:List Res)(_:Cl)(_ _:TypeId)(_:Option AV):Option Out:=none
def Re(P:Program)(R:List Res)(c:Cl)(s d:TypeId)(x:Option AV):Option Out:=
 match Vz P R c s d (x.bind Dm) with
 |some o=>some o
 |none=>match Rf P R c s d (x.bind Dm) with
  |some o=>some o
  |none=>Rh P R c s d x
def isZ:Cl->Bool
 |.own=>true
 |.roomZ ..=>true
 |_=>false
def Ly:Operand->Operand->Bool
 |.tmp a,.tmp b=>Nat.beq a b
 |.const (.int .i64 a),.const (.int .i64 b)=>a==b
 |_,_=>false
def Amm:Cl->Bool
 |.call _ _ _ _ R2 pi=>R2.isEmpty&&pi.isEmpty
 |_=>false
def Am9(R:List Res)(c:Cl)(o:Oper)(i k size off:Nat)(ds:List D)(n:Nat):Option Out:=
 match R[i]?,c,dPs ds with
 |some (.sl e s rows),.upd _ _ row _ rows',some ps=>bif Nat.beq s size&&(Nat.beq ds.length n&&(Nat.ble (off+n) size&&o.dst.isNone))then some ⟨.tup [],R.set i (.sl e s rows'),some (.upd rows k row (row.take off++(ps++row.drop (off+n))) rows')⟩ else none
 |_,_,_=>none
def Vv(_:List Res)(_:Cl)(_:Oper)(_ _ _ _:Nat)(_:List D)(_:Nat):Option Out:=none
def J7(P : Program)(L : List Ent)(cur : Dn)(R : List Res)(c : Cl)(o : Oper) : Option Out :=
 match Cw P L cur R c o.op with
 |some (v,k)=>some ⟨v,R,k⟩
 | none=>match o.op with
  | .box t x=>match (look L cur x).bind I6,B8 P t with
    |some cells,some n=>bif Nat.beq cells.length n then some ⟨.d (.o R.length 0),R++[.box t cells],none⟩ else none
    |_,_=>none
  | .alloc t=>match (Fp P t).bind λz=>Gu z.cells.toList with
    |some cells=>some ⟨.d (.o R.length 0),R++[.box t cells],none⟩
    |none=>none
  | .store t a x=>bif cur.isEmpty then match look L cur a,(look L cur x).bind I6,B8 P t with
    |some (.d (.o i off)),some ds,some n=>match R[i]? with
     |some (.box u cells)=>bif Nat.beq ds.length n&&Nat.ble (off+n) cells.length&&o.dst.isNone then some ⟨.tup [],R.set i (.box u (Ow cells off ds)),none⟩ else none
     |_=>none
    | some (.d (.oe i k size off)),some ds,some n=>match Am9 R c o i k size off ds n with
     |some x=>some x
     |none=>match Vw R c o i k size off ds n with
      |some x=>some x
      |none=>Vv R c o i k size off ds n
    |_,_,_=>none
   else none
  | .buildSlice t len parts=>match Kw L cur parts.toList with
    |some ps=>Ig P R c t len ps
    |none=>none
  |.convert s d x=>Re P R c s d (look L cur x)
  |.makeSlice t l k=>bif Ly l k then M8 P R c t ((look L cur l).bind Dm) else none
  | .call k=>match k.callee with
   |.value f=>match look L cur f,Ek L cur k.args.toList with
    |some (.d (.fn (.func g) first caps)),some args=>Hu R (first.map AV.d++args++caps.map AV.d) g c
    |_,_=>none
   |.builtin .append=>match Ek L cur k.args.toList with
    |some [.d (.oi i g q size off),y]=>Kz P R c k.argTypes.toList i g q size off y
    |some [.d (.osb i 0 n s),y]=>P4 P R c k.argTypes.toList i n s y
    |some args=>Dd P R c k.argTypes.toList args
    |none=>none
   |.builtin .clear=>match Ek L cur k.args.toList with
    |some args=>Ri P R c k.argTypes.toList args
    |none=>none
   |.builtin .copy=>match Ek L cur k.args.toList with
    |some args=>Vy P R c k.argTypes.toList args
    |none=>none
   |_=>none
  |_=>none
def Awi:Cl->Bool
 |.callB _ _ _ _ _ _=>true
 |.call _ _ _ _ _ pi=>pi.isEmpty
 |_=>false
def isW:Cl->Bool
 |.appD ..=>true
 |.appP ..=>true
 |_=>false
def Oy(r:Bool)(c:Cl)(o:Oper):Bool:=
 match o.op with
 |.store ..=>false
 |.call k=>match k.callee with
  |.value _=>r || Awi c
  |.builtin .clear|.builtin .copy=>false
  |_=>!isW c
 |_=>true
def isR:Cl->Bool
 |.whenR _ _=>true
 |_=>false
def Hj:Cl->Cl
 |.when _ c=>c
 |.whenR _ c=>c
 |c=>c
def Ul(L:List Ent):Dn->Dn->Bool
 |_,[]=>true
 |acc,(t,b)::p=>match Eu L t with
  |some e=>G8 e.p acc&&Ul L (acc++[(t,b)]) p
  |none=>false
def O9(L:List Ent)(cur:Dn)(r:Bool)(c:Cl)(o:Oper):Bool:=cur.isEmpty || (Oy r c o&&(!r || Ul L [] cur))
def K5(cur:Dn)(r:Bool)(cs:List (Bool×Bool))(x:Cl):Cl:=bif cur.isEmpty then x else bif r then .whenR cs x else .when cs x
def U4(L:List Ent)(t:Nat)(p:Dn)(v:AV):List Ent:=
 ⟨t,p,v⟩::L.filter λe=>!(Nat.beq e.t t)&&e.p.all λg=>!(Nat.beq g.1 t)
def Ae1(P:Program)(n:Nat)(ops:Array Oper)(L:List Ent)(R:List Res)(c:Cl)(o:Oper):Option (List Ent×List Res×Option Cl):=
 match M6 ops L o with
 |none=>none
 | some cur=>
  match J7 P L cur R (Hj c) o,Hk L cur with
  |some out,some cs=>bif O9 L cur (isR c) (Hj c) o then
   let k:=out.c.map (K5 cur (isR c) cs)
   match o.dst with
   |some d=>bif Nat.blt d n&&cur.all (λg=>!(Nat.beq g.1 d))then some (U4 L d cur out.v,out.R,k) else none
   |none=>bif cur.isEmpty then some (L,out.R,k) else none
   else none
  |_,_=>none
def Ti(P : Program)(n : Nat)(ops : Array Oper) : eR -> List Ent -> List Res -> List Cl -> Option (List Ent × List Res × List Cl)
 | [],L,R,_=>some (L,R,[])
 | i::is,L,R,cls=>match ops[i]? with
  |none=>none
  | some o=>match Ae1 P n ops L R (cls.headD .nop) o with
   |none=>none
   |some (L',R',some c)=>match Ti P n ops is L' R' cls.tail with
    |some (L2,R2,cs)=>some (L2,R2,c::cs)
    |none=>none
   |some (L',R',none)=>Ti P n ops is L' R' cls
end Go.SL
namespace Go.SL
variable{av:AV}{ds:List D}{x:Operand}{t:TypeId}{v z:Value}
def pt(a:Act)(p:Dn):Prop:=∀g,g∈p->a.tmps[g.1]?=some (.bool g.2)
def Ya(S:Nat->Prop)(w:World)(ρ:eU)(a:Act)(e:Ent):Prop:=
 (pt a e.p->∃v,a.tmps[e.t]?=some v/\RdA S w ρ v e.v)/\(¬pt a e.p->a.tmps[e.t]?=some undef)
def Co(S:Nat->Prop)(w:World)(ρ:eU)(a:Act)(L:List Ent):Prop:=∀e,e∈L->Ya S w ρ a e
def Sat(n:Nat)(C:Ctx)(L:List Ent)(R:List Res)(a:Act)(w:World):Prop:=
 a.defers=C.df/\a.tmps.size=n/\∃S ρ,Inv C S w ρ R/\Co S w ρ a L
theorem Dh:∀{L:List Ent}{t:Nat}{e:Ent},Eu L t=some e->e∈L/\e.t=t
 | [],_,_,h=>by simp[Eu]at h
 |x::r,t,e,h=>by
  simp only[Eu]at h;cases hb:Nat.beq x.t t with
  |true=>rw[hb]at h;simp at h;subst h;exact⟨ai,ak hb⟩
  |false=>rw[hb]at h;simp at h;obtain⟨h1,h2⟩:=Dh h;grind
theorem Sx{a:Act}:∀{p q:Dn},G8 p q=true->pt a q->pt a p
 | [],_,_,_=>λg hg=>by cases hg
 |(t,x)::p,(u,y)::q,h,hq=>by
  simp only[G8,ac,dQ]at h;obtain⟨⟨h1,h2⟩,h3⟩:=h;have ht:=ak h1;subst ht;subst h2;intro g hg;rcases ag.1 hg with rfl|hg
  .exact hq _ ai
  .exact Sx h3 (λg hg=>hq g (al _ hg)) g hg
 |_::_,[],h,_=>by simp[G8]at h
section
variable{P:Program}{C:Ctx}{S:Nat->Prop}{w:World}{ρ:eU}{R:List Res}{L:List Ent}{cur:Dn}{a:Act}
theorem Ar1{d:D}(h:dOf v=some d):Rd S w ρ v d:=by
 unfold dOf at h;cases hb:v.oneCell' with
 |true=>rw[hb]at h;simp at h;subst h;exact .p (.v v hb)
 |false=>rw[hb]at h;simp at h
theorem J1:∀{l:eU}{ds:List D},Gu l=some ds->A9 (Rd S w ρ) l ds
 | [],ds,h=>by simp[Gu]at h;subst h;trivial
 | v::r,ds,h=>by
  simp only[Gu]at h;split at h
  .rename_i d ds' h1 h2;simp at h;subst h;exact⟨Ar1 h1,J1 h2⟩
  .cases h
theorem A16(h:Pm v=some av):RdA S w ρ v av:=by
 unfold Pm at h;split at h
 .rename_i cs;cases hd:Gu cs.toList with
  |none=>rw[hd]at h;cases h
  |some ds=>rw[hd]at h;simp at h;subst h;have:=RdA.agg (S:=S) (w:=w) (ρ:=ρ) (J1 (S:=S) (w:=w) (ρ:=ρ) hd);simpa using this
 .cases h
 .cases hd:dOf v with
  |none=>rw[hd]at h;cases h
  |some d=>rw[hd]at h;simp at h;subst h;exact .d (Ar1 hd)
theorem B4(hL:Co S w ρ a L)(hp:pt a cur)(h:look L cur x=some av):RdA S w ρ (a.eval x) av:=by
 unfold look at h;split at h
 .exact A16 h
 .rename_i t;split at h
  .rename_i e he;obtain⟨hm,ht⟩:=Dh he;cases hb:G8 e.p cur with
   |false=>rw[hb]at h;simp at h
   |true=>
    rw[hb]at h;simp at h;subst h;obtain⟨v,hv,hr⟩:=(hL e hm).1 (Sx hb hp);rw[ht]at hv;have:a.eval (.tmp t)=v:=by simp[Act.eval,eu,hv]
    rw[this];exact hr
  .cases h
 .simp at h;subst h;exact .d (.fn (xs:=[]) (cs:=[]) rfl rfl (by simp) (by simp))
 .cases h
theorem Gc(hL:Co S w ρ a L)(hp:pt a cur):∀{l:List Operand}{avs:List AV},Ek L cur l=some avs->A9 (RdA S w ρ) (l.map a.eval) avs
 | [],avs,h=>by simp[Ek]at h;subst h;trivial
 | x::r,avs,h=>by
  simp only[Ek]at h;split at h
  .rename_i v l h1 h2;simp at h;subst h;exact⟨B4 hL hp h1,Gc hL hp h2⟩
  .cases h
theorem Bv(hL:Co S w ρ a L)(hp:pt a cur)(h:(look L cur x).bind Dm=some v):a.eval x=v:=by
 cases hx:look L cur x with
 |none=>rw[hx]at h;cases h
 |some av=>
  rw[hx]at h;simp only[ab]at h;unfold Dm at h;split at h
  .simp at h;subst h;exact(B4 hL hp hx).exact_inv
  .cases h
theorem Vd(hL:Co S w ρ a L)(hp:pt a cur){b:Bool}(h:(look L cur x).bind Mu=some b):a.eval x=.bool b:=by
 cases hx:look L cur x with
 |none=>rw[hx]at h;cases h
 |some av=>
  rw[hx]at h;simp only[ab]at h;unfold Mu at h;split at h
  .simp at h;subst h;exact(B4 hL hp hx).exact_inv
  .cases h
theorem Og(hr:RdA S w ρ v av)(h:I6 av=some ds):A9 (Rd S w ρ) v.cells.toList ds:=by
 cases av with
 |d x=>
  simp[I6]at h;subst h;have hx:=hr.d_inv;have h1:=hx.one;have:v.cells = #[v]:=by cases v <;> first|rfl|simp [Value.oneCell']at h1
  rw[this];exact⟨hx,trivial⟩
 |agg ds'=>simp[I6]at h;subst h;obtain⟨vs,rfl,h2⟩:=hr.agg_inv;simpa[Value.cells]using h2
 |tup l=>simp[I6]at h
theorem Fu(h:v.oneCell'=true):RdA S w ρ v (ofV v):=.d (.p (.v v h))
theorem Pz{d:TypeDesc}(h:P.underlying t=some d):(isAgg t).run P w=.ok (O8 d) w:=by cases d <;> simp[isAgg,eK h,O8]
theorem C4{n:Nat}(h:B8 P t=some n):(sizeOf t).run P w=.ok n w:=by
 unfold B8 at h;cases hi:P.info? t with
 |none=>rw[hi]at h;cases h
 |some i=>rw[hi]at h;simp at h;simp[sizeOf,typeInfo,hi,h]
theorem Ga(h:Fp P t=some z):(zeroValue t).run P w=.ok z w:=by
 unfold Fp at h;cases hi:P.info? t with
 |none=>rw[hi]at h;cases h
 |some i=>rw[hi]at h;simp at h;simp[zeroValue,typeInfo,hi,h]
theorem G_{ad : Addr}(h : Hr P t ds = some av)
  (hc:∀(j:Nat) d,ds[j]?=some d->∃x,w.cell? (ad.add j)=some x/\Rd S w ρ x d) :
  ∃v,(loadVar t ad).run P w=.ok v w/\RdA S w ρ v av:=by
 unfold Hr at h;cases hu:P.underlying t with
 |none=>simp[Sn,hu]at h
 | some td =>
  have ha:Sn P t=some (O8 td):=by simp[Sn,hu]
  rw[ha]at h;cases hb:O8 td with
  | true=>
   rw[hb]at h;split at h
   .rename_i n hn hsz;cases hl:Nat.beq ds.length n with
    |false=>rw[hl]at h;simp at h
    | true=>
     rw[hl]at h;simp at h;subst h;have hlen:ds.length=n:=ak hl;have hxs:∃xs:eU,xs.length=ds.length/\∀(j:Nat) x,xs[j]?=some x->w.cell? (ad.add j)=some x/\∀d,ds[j]?=some d->Rd S w ρ x d:=by
      refine⟨(List.range ds.length).map λj=>(w.cell? (ad.add j)).getD undef,by simp,λj x hx=>?_⟩;rw[aB]at hx;cases hj:(List.range ds.length)[j]? with
      |none=>rw[hj]at hx;cases hx
      | some k=>
       rw[hj]at hx;have hk:j<ds.length/\k=j:=by obtain⟨h1,h2⟩:=aa.1 hj;simp at h1 h2;exact⟨h1,h2.symm⟩
       obtain⟨hk1,rfl⟩:=hk;obtain⟨y,hy,hR⟩:=hc k ds[k] (aj hk1);grind
     obtain⟨xs,hxl,hx⟩:=hxs;have hlc:=run_loadCells_list (P:=P) w ad xs (λj v hv=>(hx j v hv).1);refine⟨.agg xs.toArray,?_,.agg (de hxl λj x d h1 h2=>(hx j x h1).2 d h2)⟩;simp[loadVar,Pz hu,hb,C4 hsz,←hlen,←hxl,hlc]
   all_goals simp_all
  | false=>
   rw[hb]at h;split at h
   .simp_all
   .split at h
    .rename_i d;simp at h;subst h;obtain⟨x,hx,hR⟩:=hc 0 d rfl;rw[Wh]at hx;refine⟨x,?_,.d hR⟩;simp[loadVar,Pz hu,hb,hx]
    .cases h
   .cases h
end
end Go.SL
namespace Go.SL
variable{op:BinOp}{n:Int}{l:List AV}{cells ds:List D}{vs xs:eU}{b f i k:Nat}{ft s t:TypeId}{h x y z:Value}
section
variable{P:Program}{C:Ctx}{S:Nat->Prop}{w:World}{ρ:eU}{R:List Res}{L:List Ent}{cur:Dn}{a:Act}
def A6r(P:Program)(S:Nat->Prop)(w:World)(ρ:eU)(a:Act)(o:Oper)(v:AV):Prop:=
 ∃x,(execOp a.eval o).run P w=.ok (.value x) w/\RdA S w ρ x v
theorem A6k(h:bin op x y=some z)(t:TypeId)(u v:Operand) :
    (do eqGuard op t u v x y;binOp op t x y:Sem Value).run P w=.ok z w/\z.oneCell'=true:=by
  unfold bin at h;split at h <;> first
    |(cases h;done)
    | (split at h
       · rename_i hk;subst hk;simp at h;subst h;exact⟨by simp[eqGuard,binOp,Op.intArith,Op.intCmp,Op.intBits,A6m,orI,A28],rfl⟩
       · cases h)
    | (rename_i n; simp at h; subst h
       exact⟨by simp[eqGuard,binOp,Op.shift,Uu,A3c];omega,rfl⟩)
    | (simp at h; subst h
       exact⟨by simp[eqGuard,binOp,Op.stringOp],rfl⟩)
theorem run_equalIn_bool(t:TypeId)(ht:P.underlying t=some .bool)(a b:Bool)(d:Nat):(Op.equalIn (d+1) t (.bool a) (.bool b)).run P w=.ok (a==b) w:=by simp[Op.equalIn,eK ht]
theorem Q1(t:TypeId)(ht:P.underlying t=some .bool)(a b:Bool):(Op.equal t (.bool a) (.bool b)).run P w=.ok (a==b) w:=
 run_equalIn_bool t ht a b 9999
theorem A14(h:Ax5 op x y=some z)(t:TypeId)(ht:P.underlying t=some .bool)(u v:Operand) :
  (do eqGuard op t u v x y;binOp op t x y:Sem Value).run P w=.ok z w/\z.oneCell'=true:=by
 unfold Ax5 at h;split at h
 .simp at h;subst h;refine⟨?_,rfl⟩;simp only[eqGuard,binOp,eG,Q1 t ht,eJ];rfl
 .simp at h;subst h;refine⟨?_,rfl⟩;simp only[eqGuard,binOp,eG,Q1 t ht,eJ];rfl
 .cases h
theorem A13(h:Ax4 op x y=some (z,n))(hn:n≠0)(t:TypeId)(u v:Operand) :
    (do eqGuard op t u v x y;binOp op t x y:Sem Value).run P w=.ok z w/\z.oneCell'=true:=by
  unfold Ax4 at h;split at h <;> first
    |(cases h;done)
    | (split at h
       · rename_i hk;subst hk;simp at h;obtain⟨rfl,rfl⟩:=h;exact⟨by simp[eqGuard,binOp,Op.intDiv,hn],rfl⟩
       · cases h)
    | (rename_i a b
       simp only[ah,au]at h;obtain⟨rfl,rfl⟩:=h;have hb:¬(((a.size+b.size:Nat):Int)>IntKind.i64.max):=by
         have e:IntKind.i64.max=9223372036854775807:=by decide
         rw[e];unfold Afm at hn;cases hd:decide (((a.size+b.size:Nat):Int)<=9223372036854775807) with
         |true=>have:=dX hd;omega
         |false=>rw[hd]at hn;exact absurd rfl hn
       exact⟨by simp only[eqGuard,binOp,Op.stringOp,eF hb,eG,eI];rfl,rfl⟩)
theorem A7z{op:UnOp}(h:un op x=some z):(Op.unary op x).run P w=.ok z w/\z.oneCell'=true:=by
 unfold un at h;split at h <;> first
  |(cases h;done)
  |(simp at h;subst h;exact⟨by simp[Op.unary,Op.intArith],rfl⟩)
theorem Ajx:∀{l:eU}{m n:Int},Aea m l=some n->(l.foldlM Builtin.max2 (.int .i64 m):Sem Value).run P w=.ok (.int .i64 n) w
 | [],m,n,h=>by simp[Aea]at h;subst h;simp
 | x::r,m,n,h=>by
  simp only[Aea]at h;split at h
  .rename_i y;have:=Ajx h;have e:(if y>m then y else m)=max m y:=by rw[Int.max_def];split <;> split <;> omega
   simp only[List.foldlM_cons,Builtin.max2,e];simpa using this
  .cases h
theorem Ajw:∀{l:eU}{m n:Int},Ad8 m l=some n->(l.foldlM Builtin.min2 (.int .i64 m):Sem Value).run P w=.ok (.int .i64 n) w
 | [],m,n,h=>by simp[Ad8]at h;subst h;simp
 | x::r,m,n,h=>by
  simp only[Ad8]at h;split at h
  .rename_i y;have:=Ajw h;have e:(if y<m then y else m)=min m y:=by rw[Int.min_def];split <;> split <;> omega
   simp only[List.foldlM_cons,Builtin.min2,e];simpa using this
  .cases h
theorem Aiw(h:Pf l=some xs)(hv:A9 (RdA S w ρ) vs l):vs=xs:=by
 induction l generalizing xs vs with
 |nil=>cases vs with
  |nil=>simp[Pf]at h;exact h.symm ▸ rfl
  |cons=>exact hv.elim
 | cons y l ih=>cases vs with
  |nil=>exact hv.elim
  | cons v vs=>
   simp only[Pf]at h;split at h
   .rename_i x xs' h1 h2;simp at h;subst h;have:v=x:=by
     unfold Dm at h1;split at h1
     .simp at h1;subst h1;exact hv.1.exact_inv
     .cases h1
    rw[this,ih h2 hv.2]
   .cases h
theorem P6(hI:Inv C S w ρ R){g e s:Nat}{tys:List (TypeId×Nat)}{rows:List (List Pd)}{hole:Option (Nat×Nat)}(hi:R[i]?=some (.dsl e s g))(hg:R[g]?=some (.gh s tys rows hole))
  (hρ:ρ[i]?=some h)(h1:h.oneCell'=true)(hs:0<s):∃f xs cs,ρ[g]?=some (.func f xs cs)/\gOk S w s tys rows hole xs /\
   ((h=.slice none 0 0/\rows=[])\/∃b o cap vs,h=.slice (some ⟨b,o,none⟩) rows.length cap/\w.heap[b]?=some (.cells vs e (0,0))/\rows.length<=cap/\cap<=maxLen/\o+cap*s<=vs.size /\
    ∀(k:Nat) x,xs[k]?=some x->vs[o+k]?=some x):=by
 obtain⟨f,xs,cs,k1,k2⟩:=(hI.ok i _ h hi hρ).live h1;obtain⟨f',xs',cs',k3,k4⟩:=(hI.ok g _ _ hg k1).live rfl;cases k3;have hsz:=k4.2.1;refine⟨f,xs,cs,k1,k4,?_⟩;rcases k2 with⟨k2,k5⟩|⟨b,o,len,cap,vs,k2,k5,k6,k7,k8,k9,k10⟩
 .refine .inl ⟨k2,?_⟩;rw[k5]at hsz;have:rows.length=0:=by
   rcases Nat.eq_zero_or_pos rows.length with h|h
   .exact h
   .have:=Nat.mul_pos h hs;omega
  exact bt this
 .have:len=rows.length:=by
   rw[k9]at hsz;exact Nat.eq_of_mul_eq_mul_right hs hsz
  subst this;exact .inr ⟨b,o,cap,vs,k2,k5,k6,k7,k8,k10⟩
theorem Arm(hI:Inv C S w ρ R)(hr:A9 (RdA S w ρ) vs l)(h:M9 R l=some n) :
  ∃(b:Option Addr)(k c:Nat),vs=[.slice b k c]/\n=k:=by
 have one:∀{av:AV},A9 (RdA S w ρ) vs [av]->∃x,vs=[x]/\RdA S w ρ x av:=by
  intro av h
  match vs,h with
  | [x],h=>exact⟨x,rfl,h.1⟩
  | [],h=>exact h.elim
  |_::_::_,h=>exact h.2.elim
 unfold M9 at h;split at h
 .simp at h;subst h;obtain⟨x,rfl,hx⟩:=one hr;cases hx.d_inv with
  |p h=>obtain⟨b,c,rfl,_⟩:=h.slice_form;exact⟨b,_,c,rfl,rfl⟩
 .simp at h;subst h;obtain⟨x,rfl,hx⟩:=one hr;rw[hx.exact_inv];exact⟨none,0,_,rfl,rfl⟩
 .rename_i i;split at h
  .rename_i e size rows hi;simp at h;subst h;obtain⟨x,rfl,hx⟩:=one hr;cases hx.d_inv with
   |os hρ h1=>
    rcases(hI.ok i _ x hi hρ).live h1 with⟨rfl,rfl⟩|⟨b,o,cap,vs,rfl,_⟩
    .exact⟨none,0,0,rfl,rfl⟩
    .exact⟨_,_,_,rfl,rfl⟩
  .rename_i e s g hi;split at h
   .rename_i s2 tys rows hole hg;cases hb:(Nat.beq s s2&&Nat.blt 0 s) with
    |false=>rw[hb]at h;simp at h
    | true=>
     rw[hb]at h;simp at h;subst h;simp only[ac]at hb;have:=ak hb.1;subst this;obtain⟨x,rfl,hx⟩:=one hr;cases hx.d_inv with
     |os hρ h1=>
      obtain⟨_,_,_,_,_,k⟩:=P6 hI hi hg hρ h1 (by have:=hb.2;simpa[eN]using this);rcases k with⟨rfl,rfl⟩|⟨b,o,cap,vs,rfl,_⟩
      .exact⟨none,0,0,rfl,rfl⟩
      .exact⟨_,_,_,rfl,rfl⟩
   .cases h
  .rename_i e cells hi;simp at h;subst h;obtain⟨x,rfl,hx⟩:=one hr;cases hx.d_inv with
   |os hρ h1=>obtain⟨b,vs,rfl,_⟩:=(hI.ok i _ x hi hρ).live h1;exact⟨_,_,_,rfl,rfl⟩
  .cases h
 .simp at h;subst h;obtain⟨x,rfl,hx⟩:=one hr;cases hx.d_inv with
  |osb _ _ _ _ _=>exact⟨_,_,_,rfl,rfl⟩
 .cases h
theorem Arl(hr:A9 (RdA S w ρ) vs l)(h:Ae4 l=some n):∃s:ByteArray,vs=[.string s]/\n=s.size:=by
 unfold Ae4 at h;split at h
 .simp at h;subst h
  match vs,hr with
  | [x],hr=>rw[hr.1.exact_inv];exact⟨_,rfl,rfl⟩
  | [],hr=>exact hr.elim
  |_::_::_,hr=>exact hr.2.elim
 .cases h
theorem qD(h:Rc P s f=some (k,ft)) :
  ∃fields x,P.underlying s=some (.struct fields)/\fields[f]?=some x/\x.offset=k/\x.type=ft:=by
 unfold Rc at h;split at h
 .rename_i fields hu;split at h
  .rename_i x hx;simp at h;exact⟨fields,x,hu,hx,h.1,h.2⟩
  .cases h
 .cases h
variable{n:Nat}
theorem Qf{ad:Addr}(h:Rc P s f=some (k,ft))(hn:B8 P ft=some (n+1)) :
  (Instr.fieldAt s (.pointer (some ad)) f).run P w=.ok (.pointer (some (ad.add k))) w:=by
 obtain⟨fields,x,hu,hx,rfl,rfl⟩:=qD h;simp[Instr.fieldAt,eK hu,hx,Instr.sureAddr,fieldPlace,C4 hn]
theorem Wb(hI:Inv C S w ρ R)(hi:R[i]?=some (.box t cells))(hb:ρ[i]?=some (.pointer (some ⟨b,0,none⟩))) :
  ∃vs,w.heap[b]?=some (.cells vs t (0,0))/\A9 (Rd S w ρ) vs.toList cells:=by
 obtain⟨b',vs,he,h1,h2⟩:=(hI.ok i _ _ hi hb).live rfl;cases he;exact⟨vs,h1,h2⟩
theorem Af5(hI:Inv C S w ρ R)(hi:R[i]?=some (.box t cells))(hb:ρ[i]?=some (.pointer (some ⟨b,0,none⟩)))
  (off n:Nat)(j:Nat)(d:D)(hd:((cells.drop off).take n)[j]?=some d):∃x,w.cell? ((⟨b,off,none⟩:Addr).add j)=some x/\Rd S w ρ x d:=by
 obtain⟨vs,h1,h2⟩:=Wb hI hi hb;rw[aq]at hd;split at hd
 .rw[aw]at hd;obtain⟨x,hx,hR⟩:=h2.get hd;refine⟨x,?_,hR⟩;rw[C9,Kn h1];simpa using hx
 .cases hd
theorem Q5(hv:A9 (Rd S w ρ) vs ds)(hn:B8 P t=some n){av:AV}(h:Hr P t ((ds.drop k).take n)=some av) :
  ∃x,(part t vs.toArray k).run P w=.ok x w/\RdA S w ρ x av:=by
 unfold Hr at h;cases hu:P.underlying t with
 |none=>simp[Sn,hu]at h
 | some td=>
  have ha:Sn P t=some (O8 td):=by simp[Sn,hu]
  rw[ha,hn]at h;cases hb:O8 td with
  | true=>
   simp only[hb]at h;cases hl:Nat.beq ((ds.drop k).take n).length n with
   |false=>rw[hl]at h;simp at h
   |true=>rw[hl]at h;simp at h;subst h;have:=(hv.drop k).take n;refine⟨.agg ((vs.drop k).take n).toArray,?_,.agg this⟩;simp[part,Pz hu,hb,C4 hn]
  | false=>
   rw[hb]at h;split at h
   .simp_all
   .rename_i hs;cases hs;split at h
    .rename_i d hd;simp at h;subst h;have hk:ds[k]?=some d:=by
      have:((ds.drop k).take 1)[0]?=some d:=by rw[hd];rfl
      rw[aq]at this;simpa using this
     obtain⟨x,hx,hR⟩:=hv.get hk;refine⟨x,?_,.d hR⟩;simp[part,Pz hu,hb,hx]
    .cases h
   .cases h
end
end Go.SL
namespace Go.SL
variable{α β:Type}{parts:Array (Nat×Value)}{r:Array Value}{t:TypeId}{z:Value}
section
variable{P:Program}{C:Ctx}{S:Nat->Prop}{w:World}{ρ:eU}{R:List Res}{L:List Ent}{cur:Dn}{a:Act}
variable{x:Option α}{y:β}
theorem Db{f:α->Option β}(h:x.bind f=some y):∃z,x=some z/\f z=some y:=by
 cases x with
 |none=>cases h
 |some z=>exact⟨z,rfl,h⟩
theorem D_{f:α->β}(h:x.map f=some y):∃z,x=some z/\f z=y:=by
 cases x with
 |none=>cases h
 |some z=>exact⟨z,rfl,by simpa using h⟩
theorem Arj(hL : Co S w ρ a L)(hp : pt a cur){k x y : Operand}{v : AV}(h : Ae3 L cur k x y = some v) :
  ∃b,a.eval k=.bool b/\RdA S w ρ (if b then a.eval x else a.eval y) v:=by
 unfold Ae3 at h;split at h
 .rename_i t;split at h
  .rename_i b hb;have hk:=Vd hL hp hb;refine⟨b,hk,?_⟩;have hslot:a.tmps[t]?=some (.bool b):=by
    simp only[Act.eval,aR]at hk;cases hs:a.tmps[t]? with
    |none=>rw[hs]at hk;simp[undef]at hk
    |some z=>rw[hs]at hk;simp at hk;rw[hk]
   cases hx:yM x with
   | true=>
    rw[hx]at h;simp only[ez]at h;have hxe:a.eval x=.bool true:=by
     unfold yM at hx;split at hx
     .subst hx;rfl
     .cases hx
    split at h
    .rename_i z hz;simp at h;subst h;cases b with
     |true=>simp[hxe];exact Fu rfl
     | false=>
      have hp':pt a (cur++[(t,false)]):=by
       intro g hg;rcases am.1 hg with hg|hg
       .exact hp g hg
       .simp at hg;subst hg;exact hslot
      have:=Vd hL hp' hz;simp[this];exact Fu rfl
    .cases h
   | false=>
    rw[hx]at h;simp only[eB]at h;cases hy:Y7 y with
    |false=>rw[hy]at h;simp at h
    | true=>
     rw[hy]at h;simp only[ez]at h;have hye:a.eval y=.bool false:=by
      unfold Y7 at hy;split at hy
      .rename_i q;cases q <;> simp at hy ⊢;rfl
      .cases hy
     split at h
     .rename_i z hz;simp at h;subst h;cases b with
      |false=>simp[hye];exact Fu rfl
      | true=>
       have hp':pt a (cur++[(t,true)]):=by
        intro g hg;rcases am.1 hg with hg|hg
        .exact hp g hg
        .simp at hg;subst hg;exact hslot
       have:=Vd hL hp' hz;simp[this];exact Fu rfl
     .cases h
  .cases h
 .cases h
theorem X0(places:Nat->Option (Nat×Nat))(pl:List (Nat×Nat))(hpl:∀(i:Nat) x,pl[i]?=some x->places i=some x) :
  ∀(ps:List (Nat×Value))(qs:List (Nat×List D))(cs:Array Value)(ds out:List D),
   A9 (λ(p:Nat×Value)(q:Nat×List D)=>p.1=q.1/\A9 (Rd S w ρ) p.2.cells.toList q.2) ps qs->A9 (Rd S w ρ) cs.toList ds->Jc pl ds qs=some out ->
   ∃r,Instr.fill places cs ps=some r/\A9 (Rd S w ρ) r.toList out
 | [],[],cs,ds,out,_,h2,h3=>by simp[Jc]at h3;subst h3;exact⟨cs,rfl,h2⟩
 | [],_::_,_,_,_,h1,_,_=>h1.elim
 |_::_,[],_,_,_,h1,_,_=>h1.elim
 | (i, v) :: ps, (j, es) :: qs, cs, ds, out, h1, h2, h3 => by
  obtain⟨⟨e,hv⟩,h1⟩:=h1;simp only at e;subst e;simp only[Jc]at h3;split at h3
  .rename_i off size hp;cases hb:(Nat.beq es.length size&&Nat.ble (off+es.length) ds.length) with
   |false=>rw[hb]at h3;simp at h3
   | true=>
    rw[hb]at h3;simp only[ez]at h3;rw[ac]at hb;have hl1:es.length=size:=ak hb.1;have hl2:off+es.length<=ds.length:=bv hb.2;have hcs:cs.size=ds.length:=by have:=h2.length;simpa using this
    have hvl:v.cells.size=es.length:=by have:=hv.length;simpa using this
    have step:∀(l:eU)(k:Nat)(cs:Array Value),off+k+l.length<=cs.size ->
      ((l.zipIdx k).foldl (λcs(x:Value×Nat)=>cs.setIfInBounds (off+x.2) x.1) cs).toList=cs.toList.take (off+k)++(l++cs.toList.drop (off+k+l.length)):=by
     intro l;induction l with
     |nil=>intro k cs _;simp
     |cons x l ih=>
      intro k cs hk;simp only[List.zipIdx_cons,bA];simp only[bi]at hk;rw[ih (k+1) _ (by simp;omega)];have hlt:off+k<cs.toList.length:=by simp;omega
      rw[Array.toList_setIfInBounds];rw[show off+(k+1)=off+k+1 from by omega];rw[List.take_succ_eq_append_getElem (by simpa using hlt)];rw[List.take_set_of_le (af _)];rw[List.drop_set_of_lt (by omega)];simp only[List.getElem_set_self,bo,List.cons_append,List.nil_append,bi];congr 4;omega
    have hz:=step v.cells.toList 0 cs (by simp;omega);simp only[bD]at hz;obtain⟨r,hr1,hr2⟩:=X0 places pl hpl ps qs ((v.cells.zipIdx).foldl (λcs(x:Value×Nat)=>cs.setIfInBounds (off+x.2) x.1) cs) (Ow ds off es) out h1 (by
     have e:(v.cells.zipIdx).foldl (λcs(x:Value×Nat)=>cs.setIfInBounds (off+x.2) x.1) cs=(v.cells.toList.zipIdx).foldl (λcs(x:Value×Nat)=>cs.setIfInBounds (off+x.2) x.1) cs:=by rw[←Array.foldl_toList,Array.toList_zipIdx]
     rw[e,hz];unfold Ow;refine(h2.take off).append (hv.append ?_);have hl:v.cells.toList.length=es.length:=hv.length;rw[hl];exact h2.drop _) h3
    refine⟨r,?_,hr2⟩;simp only[Instr.fill,hpl _ _ hp];rw[eF (by simp[hvl,hl1,hcs];omega)];exact hr1
  .cases h3
theorem Lg(hL:Co S w ρ a L)(hp:pt a cur):∀{l:List (Nat×Operand)}{qs:List (Nat×List D)},Kw L cur l=some qs ->
  A9 (λ(p:Nat×Value)(q:Nat×List D)=>p.1=q.1/\A9 (Rd S w ρ) p.2.cells.toList q.2) (l.map λx=>(x.1,a.eval x.2)) qs
 | [],qs,h=>by simp[Kw]at h;subst h;trivial
 | (i,x)::r,qs,h=>by
  simp only[Kw]at h;split at h
  .rename_i v l h1 h2;simp at h;subst h;obtain⟨av,ha,hc⟩:=Db h1;exact⟨⟨rfl,Og (B4 hL hp ha) hc⟩,Lg hL hp h2⟩
  .cases h
theorem Yk:∀{l:List Field}{pl:List (Nat×Nat)},L5 P l=some pl ->
  (l.mapM λf=>do pure (f.offset,←sizeOf f.type):Sem (List (Nat×Nat))).run P w=.ok pl w
 | [],pl,h=>by simp[L5]at h;subst h;simp
 | f::r,pl,h=>by
  simp only[L5]at h;split at h
  .rename_i n l h1 h2;simp at h;subst h;have ih:=Yk h2;simp only[List.mapM_cons,eG,eI,C4 h1,eJ];rw[ih];simp
  .cases h
theorem Uw(f:α->Sem β)(xs:Array α):(xs.mapM f:Sem (Array β)).run P w=((xs.toList.mapM f:Sem (List β)).run P w).andThen λl w'=>.ok l.toArray w':=by rw[Array.mapM_eq_mapM_toList];simp
theorem Yz{fields:Array Field}{pl:List (Nat×Nat)}(hz:Fp P t=some z)(hu:P.underlying t=some (.struct fields))
  (hpl:L5 P fields.toList=some pl)(hf:Instr.fill (λ(x:Nat)=>pl[x]?) z.cells parts.toList=some r):(Instr.build t parts).run P w=.ok (.agg r) w:=by
 have:=Yk (P:=P) (w:=w) hpl;simp only[Instr.build,eG,Ga hz,eK hu,eJ,Uw,this];have e:(λ(x:Nat)=>(pl.toArray)[x]?)=(λ(x:Nat)=>pl[x]?):=by funext x;simp
 simp only[e,hf];rfl
theorem Z8{e:TypeId}{n s:Nat}(hz:Fp P t=some z)(hu:P.underlying t=some (.array n e))(hs:B8 P e=some s)
  (hf:Instr.fill (λi=>some (i*s,s)) z.cells parts.toList=some r):(Instr.build t parts).run P w=.ok (.agg r) w:=by
 simp only[Instr.build,eG,Ga hz,eK hu,eJ,C4 hs,hf];rfl
end
end Go.SL
set_option maxHeartbeats 8000000
namespace Go.SL
variable{v:AV}{ad:Addr}{c:Cl}{n:Int}{l:List AV}{ds:List D}{cells row:List Pd}{cap i len m off size sz y:Nat}{b:Option Addr}{k:Option Cl}{e t:TypeId}{x:Value}
section
variable{P:Program}{C:Ctx}{S:Nat->Prop}{w:World}{ρ:eU}{R:List Res}{L:List Ent}{cur:Dn}{a:Act}
theorem Aqq(h:(l.mapM fun|.d x=>some x|_=>none)=some ds):l=ds.map AV.d:=by
 induction l generalizing ds with
 |nil=>simp at h;subst h;rfl
 | cons x l ih=>
  simp only[List.mapM_cons]at h;cases x with
  |d y=>simp only[Option.bind_eq_bind,ab]at h;obtain⟨es,h1,h2⟩:=Db h;grind
  |_=>simp at h
theorem Atg{vs:eU}(h:A9 (RdA S w ρ) vs (ds.map AV.d)):A9 (Rd S w ρ) vs ds:=by refine de (by simpa using h.length) λj x d hx hd=>?_;have:=h.both hx (by rw[aB,hd];rfl);exact this.d_inv
variable{k:IntKind}
theorem H5(hu:P.underlying t=some (.slice e))(hs:B8 P e=some sz)(hb:b=some ad)(h0:0<=n)(h1:n<len:=by omega) :
  (Instr.indexAt t (.slice b len cap) (.int k n)).run P w=.ok (.pointer (some (ad.add (n.toNat*sz)))) w:=by
 subst hb;simp[Instr.indexAt,asIntOf,eK hu,C4 hs,h0,h1]
theorem yW{same:TypeId->AV->AV->Option Bool}{d:Nat}(hs:∀(t:TypeId)(a b:AV)(z:Bool),same t a b=some z->∀x y,RdA S w ρ x a->RdA S w ρ y b->(Op.equalIn d t x y).run P w=.ok z w){vs us:eU} :
  ∀{fs:List Field}{ds es:List D}{z:Bool},yX P same fs ds es=some z->A9 (Rd S w ρ) vs ds->A9 (Rd S w ρ) us es->(Op.eqFields d vs.toArray us.toArray fs).run P w=.ok z w
 | [],ds,es,z,h,_,_=>by simp[yX]at h;subst h;simp[Op.eqFields]
 | f :: fs, ds, es, z, h, hv, hu => by
  simp only[yX]at h
  cases hn : (f.name == "_") with
  |true=>
   rw[hn]at h
   have : ¬ (f.name ≠ "_") := by simpa using hn
   simp only[Op.eqFields,eF this];exact yW hs h hv hu
  | false=>
   rw[hn]at h;simp only[eB]at h
   have hne : f.name ≠ "_" := by simpa using hn
   split at h
   .rename_i n e1;split at h
    .rename_i a b e2 e3;split at h
     .rename_i r q e4 e5;simp at h;subst h;obtain⟨x,hx,hrx⟩:=Q5 (P:=P) hv e1 e2;obtain⟨y,hy,hry⟩:=Q5 (P:=P) hu e1 e3;have h1:=hs _ _ _ _ e4 x y hrx hry;have h2:=yW hs e5 hv hu;simp only[Op.eqFields,eC hne,eG,hx,hy,h1,eJ];cases r with
      |true=>simpa using h2
      |false=>simp
     .cases h
    .cases h
   .cases h
theorem Afb:∀{m:Nat}{t:TypeId}{a b:AV}{z:Bool},eqA P m t a b=some z->∀{N:Nat},m<=N->∀{x y:Value},RdA S w ρ x a->RdA S w ρ y b->(Op.equalIn N t x y).run P w=.ok z w
 |0,t,a,b,z,h,N,_,x,y,_,_=>by simp[eqA]at h
 | m + 1, t, a, b, z, h, N, hN, x, y, hx, hy => by
  obtain⟨N,rfl⟩:∃q,N=q+1:=⟨N-1,by omega⟩;simp only[eqA]at h;split at h
  .rename_i ht;split at h
   .simp at h;subst h;rw[hx.exact_inv,hy.exact_inv];exact Go.run_equalIn_bool w N t _ _ ht
   .cases h
  .rename_i k ht;split at h
   .split at h
    .rename_i hk;subst hk;simp at h;subst h;rw[hx.exact_inv,hy.exact_inv];exact Go.run_equalIn_int w N t _ _ _ _ ht
    .cases h
   .cases h
  .rename_i ht;split at h
   .simp at h;subst h;rw[hx.exact_inv,hy.exact_inv];exact Go.run_equalIn_string w N t _ _ ht
   .cases h
  .rename_i fs ht;split at h
   .rename_i ds es;cases hst:P.stoodInHeld t with
    |true=>rw[hst]at h;simp at h
    |false=>
     rw[hst]at h;simp only[eB]at h;obtain⟨vs,rfl,hvs⟩:=hx.agg_inv;obtain⟨us,rfl,hus⟩:=hy.agg_inv;have hfo:P.fieldsOf t=fs:=by simp[Program.fieldsOf,ht]
     rw[Go.run_equalIn_struct w N t _ _ (by rw[hfo];exact ht) hst,hfo];exact yW (λt a b z h x y hx hy=>Afb h (by omega) hx hy) h hvs hus
   .cases h
  .cases h
theorem N0{n:Nat}(hu:P.underlying t=some (.array m e))(hs:B8 P e=some sz)(h1:n<m) :
  (Instr.indexAt t (.pointer (some ad)) (.int k (Int.ofNat n))).run P w=.ok (.pointer (some (ad.add (n*sz)))) w:=by
 have h0:(0:Int)<=Int.ofNat n/\Int.ofNat n<(m:Int):=⟨Int.natCast_nonneg _,by simpa using h1⟩;have e:(Int.ofNat n).toNat=n:=rfl;simp only[Instr.indexAt,asIntOf,Instr.sureAddr,eG,eI,eJ,eK hu,C4 hs,h0,and_self,if_true,e]
theorem RdP.cut{l h:Nat}{rows:List (List Pd)}(hr:RdP S w (.slice b len cap) (.s rows))(hl:l<=h)(hh:h<=len)(hz:∀row,row∈rows->row.length=size) :
  RdP S w (.slice (if cap=l then b else b.map (·.add (l*size))) (h-l) (cap-l)) (.s ((rows.take h).drop l)):=by
 cases hr with
 | s _ ad _ sz _ xs hc hm hn hsz hx hrr =>
  have e:h-l=((rows.take h).drop l).length:=by simp;omega
  rw[e];by_cases hcl:cap=l
  .have:((rows.take h).drop l)=[]:=by
    apply List.drop_eq_nil_of_le;simp;omega
   rw[this];refine .s _ ad (cap-l) size [] xs (by simp) (by omega) (λhb=>?_) (by simp) (by simp) (by simp);omega
  .rw[eF hcl];have hmem:∀(i:Nat) row,((rows.take h).drop l)[i]?=some row->rows[l+i]?=some row:=by
    grind
   refine .s _ (ad.add (l*size)) (cap-l) size _ (λi j=>xs (l+i) j) (by rw[←e];omega) (by omega) (λhb=>?_) (λrow hrow=>?_) (λi row hi j d hj=>?_) (λi row hi j d hj=>?_)
   .cases b with
    |none=>have:=hn rfl;omega
    |some x=>simp at hb
   .exact hz row (bg (cK hrow))
   .have hi':=hmem i row hi;obtain⟨g1,g2,g3⟩:=hx _ row hi' j d hj;have hss:sz=size:=by
     grind
    subst hss;refine⟨by rw[g1];rfl,by rw[Hw];exact g2,?_⟩;rw[Ru,←g3];congr 2;rw[aF];omega
   .exact hrr _ row (hmem i row hi) j d hj
theorem Cs{c:BoundsCode}(h0:0<=n)(h1:n<=y:=by omega):(Instr.sliceBound (.int k n) y c).run P w=.ok n.toNat w:=by simp[Instr.sliceBound,asIntOf,h0,h1]
theorem Rd.o_inv(h:Rd S w ρ x (.o i off)):∃b,x=.pointer (some ⟨b,off,none⟩)/\ρ[i]?=some (.pointer (some ⟨b,0,none⟩)):=by cases h with|o h=>exact⟨_,rfl,h⟩
theorem Rd.os_inv(h:Rd S w ρ x (.os i)):ρ[i]?=some x:=by cases h with|os h _=>exact h
theorem Rd.oe_inv{k:Nat}(h:Rd S w ρ x (.oe i k size off)):∃b o len cap,x=.pointer (some ⟨b,o+k*size+off,none⟩)/\ρ[i]?=some (.slice (some ⟨b,o,none⟩) len cap):=by cases h with|oe h=>exact⟨_,_,_,_,rfl,h⟩
theorem Rd.ip_inv(h:Rd S w ρ x (.ip cells)):∃ad,x=.pointer (some ad)/\F_ S w ad cells:=by cases h with|ip h=>exact⟨_,rfl,h⟩
theorem Rd.p_inv{y:Pd}(h:Rd S w ρ x (.p y)):RdP S w x y:=by cases h with|p h=>exact h
theorem Rd.fn_inv{f:Fn}{first caps:List D}(h:Rd S w ρ x (.fn f first caps)):∃xs cs:eU,x=.func f xs.toArray cs.toArray/\A9 (Rd S w ρ) xs first/\A9 (Rd S w ρ) cs caps:=by cases h with|fn hl hm hx hc=>exact⟨_,_,rfl,de hl hx,de hm hc⟩
theorem RdA.tup_inv(h:RdA S w ρ x (.tup l)):∃vs:eU,x=.tuple vs.toArray/\A9 (RdA S w ρ) vs l:=by cases h with|tup hl h=>exact⟨_,rfl,de hl h⟩
theorem Nq{i g k size:Nat}:∀{l:List Pd}{off j:Nat}{d:D},(Jn i g k size off l)[j]?=some d->∃p,l[j]?=some p/\((∃x,p=.v x/\d=.p (.v x))\/∃r,p=.s r/\d=.oi i g k size (off+j))
 | [],off,j,d,h=>by simp[Jn]at h
 | .v x::r,off,j,d,h=>by
  simp only[Jn]at h;cases j with
  |zero=>grind
  |succ j=>simp at h;obtain⟨p,h1,h2⟩:=Nq h;grind
 | .s x::r,off,j,d,h=>by
  simp only[Jn]at h;cases j with
  |zero=>simp at h;subst h;exact⟨_,rfl,.inr ⟨x,rfl,rfl⟩⟩
  |succ j=>simp at h;obtain⟨p,h1,h2⟩:=Nq h;grind
theorem Z7(ht:P.underlying t=some (.slice e))(a:Option Addr)(n c d:Nat):(Op.equalIn (d+1) t (.slice a n c) (.slice none 0 0)).run P w=.ok a.isNone w:=by cases a <;> simp[Op.equalIn,eK ht]
theorem Ni(ht:P.underlying t=some (.slice e))(a:Option Addr)(n c:Nat):(Op.equal t (.slice a n c) (.slice none 0 0)).run P w=.ok a.isNone w:=
 Z7 ht a n c 9999
theorem Al7(hL:Co S w ρ a L)(hp:pt a cur){lo hi:Option Operand}{k1 k2:IntKind}{l hh:Int}(e3:(match lo with|none=>some (Value.int .i64 0)|some y=>(look L cur y).bind Dm)=some (.int k1 l))
  (e4:(match hi with|none=>some (Value.int .i64 len)|some y=>(look L cur y).bind Dm)=some (.int k2 hh))(h0:0<=l)(h1:l<=hh)(h2:hh<=cap) :
  (Instr.sliceBounds true len cap (lo.map a.eval) (hi.map a.eval) none).run P w=.ok (l.toNat,hh.toNat,cap) w:=by
 unfold Instr.sliceBounds;cases hi with
 | none=>
  simp only[ah,Value.int.injEq]at e4;obtain⟨_,e4⟩:=e4;subst e4;cases lo with
  |none=>simp only[ah,Value.int.injEq]at e3;obtain⟨_,e3⟩:=e3;subst e3;simp
  |some y=>simp only at e3;have:=Cs (P:=P) (w:=w) (k:=k1) (n:=l) (y:=len) (c:=.sliceB) h0;simp[Bv hL hp e3,this]
 | some z=>
  simp only at e4;have g1:=Cs (P:=P) (w:=w) (k:=k2) (n:=hh) (y:=cap) (c:=.sliceAcap) (by omega);cases lo with
  |none=>simp only[ah,Value.int.injEq]at e3;obtain⟨_,e3⟩:=e3;subst e3;simp[Bv hL hp e4,g1]
  |some y=>simp only at e3;have:=Cs (P:=P) (w:=w) (k:=k1) (n:=l) (y:=hh.toNat) (c:=.sliceB) h0;simp[Bv hL hp e3,Bv hL hp e4,this,g1]
variable{k:Option Cl}
theorem A37{v0:AV}(h:fnV P t c v0=some (v,k))(hk:∀y,k=some y->y.ok P)(hr:RdA S w ρ x v0):RdA S w ρ x v:=by
 unfold fnV at h;split at h
 .rename_i y q g _ _ _ hu;simp only[ah,au]at h;obtain⟨rfl,rfl⟩:=h;have e:=hr.exact_inv;have g1:y=.func (.func g) #[] #[]:=hk _ rfl;rw[e,g1];exact .d (Rd.fn (xs:=[]) (cs:=[]) rfl rfl (by simp) (by simp))
 .simp only[ah,au]at h;obtain⟨rfl,rfl⟩:=h;exact hr
theorem Awy(h:Amw c=some row):∃a b,c=.idx a b row:=by cases c <;> simp[Amw]at h;subst h;exact⟨_,_,rfl⟩
theorem Rm{α:Type}(size:Nat):∀(n:Nat)(l:List α),(Es size n l).length=n
 |0,_=>rfl
 |n+1,l=>by simp[Es,Rm size n]
theorem Yp{α:Type}(size:Nat):∀(n:Nat)(l:List α)(i:Nat)(row:List α),(Es size n l)[i]?=some row->row=(l.drop (i*size)).take size
 |0,_,_,_,h=>by simp[Es]at h
 |n+1,l,0,row,h=>by simp[Es]at h;simp[h]
 |n+1,l,i+1,row,h=>by simp only[Es,cJ]at h;have:=Yp size n (l.drop size) i row h;rw[this,bC];congr 2;rw[aF];omega
theorem Aj9 : ∀{ds : List D}{ps : List Pd}{vs : eU}, dPs ds = some ps -> A9 (Rd S w ρ) vs ds -> A9 (Rd S w ρ) vs (ps.map D.p)
 | [],ps,vs,h,hv=>by simp[dPs]at h;subst h;exact hv
 | d :: r, ps, vs, h, hv => by
  simp only[dPs]at h;split at h
  .rename_i x l h1 h2;simp at h;subst h;cases vs with
   |nil=>exact hv.elim
   | cons v vs=>
    refine⟨?_,Aj9 h2 hv.2⟩;have hd:=hv.1;cases d with
    |p y=>simp[dP]at h1;subst h1;exact hd
    | fn f a b=>
     cases a with
     |cons=>simp[dP]at h1
     | nil=>
      cases b with
      |cons=>simp[dP]at h1
      | nil=>
       simp[dP]at h1;subst h1;cases hd with
       |fn hl hm _ _=>rename_i xs cs _ _;have e1:xs=[]:=cL.1 hl;have e2:cs=[]:=cL.1 hm;subst e1;subst e2;exact .p (.v _ rfl)
    |_=>simp[dP]at h1
  .cases h
theorem A0g{S:Nat->Prop}{w:World}{y:Value}(h:RdP S w x (.v y)):x=y:=by cases h;rfl
theorem Are(hI:Inv C S w ρ R)(hL:Co S w ρ a L)(hp:pt a cur){s d:TypeId}{x:Operand}(h:qG P L cur R c s d x=some (v,k))
  (hk:∀x,k=some x->x.ok P):∃y,(convert s d (a.eval x)).run P w=.ok y w/\RdA S w ρ y v:=by
 unfold qG at h;split at h
 .rename_i e _ b hs hd;have key:∀(ad:Option Addr)(len cap:Nat)(rows:List (List Pd)),a.eval x=.slice ad len cap->rows.length=len->P.underlying e=some (.int .u8)->(rows=b.data.toList.map λb=>[Pd.v (.int .u8 (b.toNat:Int))]) ->
    (∀(i:Nat) n,b.data.toList[i]?=some n->∃a0,ad=some a0/\w.cell? (a0.add i)=some (.int .u8 (n.toNat:Int)))->(convert s d (a.eval x)).run P w=.ok (.string b) w:=by
   intro ad len cap rows hx hl he hr hc;rw[hx,run_convert_bytes_string (P:=P) w s d e ad len cap hs he hd];have hlen:len=b.data.toList.length:=by rw[←hl,hr];simp
   have hfold:∀(l:List UInt8)(acc:ByteArray),(l.map λn=>(n.toNat:Int)).foldl (λr n=>r.push (UInt8.ofNat n.toNat)) acc=⟨(acc.data.toList++l).toArray⟩:=by
    intro l;induction l with
    |nil=>intro acc;simp
    |cons n l ih=>intro acc;rw[bw,bA,ih];congr 1;simp[ByteArray.push]
   cases ad with
   | none=>
    have:b.data.toList=[]:=by
     cases hb:b.data.toList with
     |nil=>rfl
     |cons n l=>obtain⟨a0,h0,_⟩:=hc 0 n (by rw[hb];rfl);cases h0
    have hb:b=.empty:=by obtain⟨⟨l⟩⟩:=b;simp only at this;subst this;rfl
    subst hb;rfl
   | some a0=>
    have hload:=run_loadCells_list (P:=P) w a0 (b.data.toList.map λn=>Value.int .u8 (n.toNat:Int)) λj v hv=>by rw[aB]at hv;obtain⟨n,h1,rfl⟩:=D_ hv;obtain⟨a1,h2,h3⟩:=hc j n h1;cases h2;exact h3
    have h5:=run_bytesToString (P:=P) w a0 len cap (b.data.toList.map λn=>(n.toNat:Int)) (by rw[List.map_map];have:(Value.int .u8∘λn:UInt8=>(n.toNat:Int))=λn=>Value.int .u8 (n.toNat:Int):=rfl;rw[this,hlen];simpa using hload)
    rw[h5,hfold];obtain⟨⟨l⟩⟩:=b;rfl
  split at h
  .rename_i i he hx;split at h
   .rename_i e' z rows hi;cases hb:Nat.beq z 1 with
    |false=>rw[hb]at h;cases h
    | true=>
     rw[hb]at h;have hz:=ak hb;subst hz;simp only[ez,ah,au]at h;obtain⟨rfl,rfl⟩:=h;have hr:=hk _ rfl;refine⟨_,?_,Fu rfl⟩;have hx':=B4 hL hp hx;have hρ:=hx'.d_inv.os_inv;rcases(hI.ok i _ _ hi hρ).live hx'.d_inv.one with⟨h1,h2⟩|⟨b0,o,cap,vs,h1,h2,h3,h4,h5,h6,h7⟩
     .refine key none 0 0 rows h1 (by rw[h2];rfl) he hr λi n hn=>?_;have:rows=b.data.toList.map λb=>[Pd.v (.int .u8 (b.toNat:Int))]:=hr;rw[h2]at this;have:=congrArg List.length this;simp only[cD,ao]at this;have:=(aa.1 hn).1;omega
     .refine key _ _ cap rows h1 rfl he hr λi n hn=>⟨_,rfl,?_⟩;have hrow:rows[i]?=some [Pd.v (.int .u8 (n.toNat:Int))]:=by
       have:rows=b.data.toList.map λb=>[Pd.v (.int .u8 (b.toNat:Int))]:=hr;rw[this,aB,hn];rfl
      obtain⟨y,hy,hR⟩:=h7 i _ hrow 0 _ rfl;rw[C9,h2.cell];rw[Nat.mul_one,bD]at hy;have:=A0g hR;rw[hy,this]
   .cases h
  .rename_i rows he hx;simp only[ah,au]at h;obtain⟨rfl,rfl⟩:=h;have hr:=hk _ rfl;refine⟨_,?_,Fu rfl⟩;have hx':=(B4 hL hp hx).d_inv.p_inv;generalize hv:a.eval x=val at hx';have hr':rows=b.data.toList.map λb=>[Pd.v (.int .u8 (b.toNat:Int))]:=hr;cases hx' with
   | s a0 ad cap sz _ xs _ _ _ hsz hxs hrs=>
    rw[←hv];refine key a0 _ cap rows hv rfl he hr λi n hn=>?_;have hrow:rows[i]?=some [Pd.v (.int .u8 (n.toNat:Int))]:=by rw[hr',aB,hn];rfl
    have hs1:sz=1:=by rw[←hsz _ (ae hrow)];rfl
    subst hs1;obtain⟨g1,g2,g3⟩:=hxs i _ hrow 0 _ rfl;have g4:=hrs i _ hrow 0 _ rfl;refine⟨ad,g1,?_⟩;rw[Nat.mul_one,bD]at g3;rw[g3,A0g g4]
  .cases h
 .cases h
theorem Ari(hI : Inv C S w ρ R)(hL : Co S w ρ a L)(hp : pt a cur){o : Oper}(h : Cw P L cur R c o.op = some (v, k))
  (hk:∀x,k=some x->x.ok P):A6r P S w ρ a o v:=by
 obtain⟨dst,op,type,pos,after,guard⟩:=o;simp only at h;cases op with
 |move x=>simp only[Cw]at h;obtain⟨z,h1,h2⟩:=D_ h;simp at h2;obtain⟨rfl,rfl⟩:=h2;exact⟨_,rfl,B4 hL hp h1⟩
 |assign x=>simp only[Cw]at h;obtain⟨z,h1,h2⟩:=D_ h;simp at h2;obtain⟨rfl,rfl⟩:=h2;exact⟨_,rfl,B4 hL hp h1⟩
 |pick u x y=>simp only[Cw]at h;obtain⟨z,h1,h2⟩:=D_ h;simp at h2;obtain⟨rfl,rfl⟩:=h2;obtain⟨b,hb,hr⟩:=Arj hL hp h1;exact⟨_,by simp[execOp,hb,asBool],hr⟩
 | build t parts=>
  simp only[Cw]at h;split at h
  .rename_i zs fields ps e1 e2 e3;obtain⟨z,hz,hd⟩:=Db e1;split at h
   .rename_i ds e4;obtain⟨pl,hpl,hf⟩:=Db e4;simp at h;obtain⟨rfl,rfl⟩:=h;obtain⟨r,hr1,hr2⟩:=X0 (S:=S) (w:=w) (ρ:=ρ) (λ(x:Nat)=>pl[x]?) pl (λ_ _ h=>h) _ _ z.cells zs ds (Lg hL hp e3) (J1 hd) hf;refine⟨.agg r,?_,by simpa using RdA.agg hr2⟩;simp only[execOp,eG];rw[Yz hz e2 hpl (r:=r) (by simpa using hr1)];rfl
   .cases h
  .rename_i zs n e ps e1 e2 e3;obtain⟨z,hz,hd⟩:=Db e1;split at h
   .rename_i s e5;split at h
    .rename_i ds hf;simp at h;obtain⟨rfl,rfl⟩:=h;obtain⟨r,hr1,hr2⟩:=X0 (S:=S) (w:=w) (ρ:=ρ) (λ(x:Nat)=>some (x*s,s)) ((List.range n).map λi=>(i*s,s)) (λi x hx=>by
      rw[aB]at hx;obtain⟨j,hj,rfl⟩:=D_ hx;have:j=i:=by have hi:=(aa.1 hj).1;simp at hi;rw[bY hi]at hj;exact(bj hj).symm
      rw[this]) _ _ z.cells zs ds (Lg hL hp e3) (J1 hd) hf
     refine⟨.agg r,?_,by simpa using RdA.agg hr2⟩;simp only[execOp,eG];rw[Z8 hz e2 e5 (r:=r) (by simpa using hr1)];rfl
    .cases h
   .cases h
  .cases h
 | load t x =>
  by_cases hg:∃g,x=.global g
  .obtain⟨g,rfl⟩:=hg;simp only[Cw]at h;split at h
   .rename_i cells n e1 e2;obtain⟨z,h1,h2⟩:=D_ h;simp at h2;obtain⟨rfl,rfl⟩:=h2;have hc:=(hI.glOk.1 g cells e1).1;obtain⟨y,hy,hr⟩:=G_ (P:=P) (S:=S) (w:=w) (ρ:=ρ) (ad:=⟨g,0,none⟩) h1 (λj d hd=>by
     rw[aB]at hd;obtain⟨d',h3,h4⟩:=D_ hd;subst h4;obtain⟨x,h5,h6,h7⟩:=hc.take n j d' h3;exact⟨x,h6,.p h7⟩)
    refine⟨y,?_,hr⟩;simp only[execOp,eG,Act.eval,Instr.loadAt,Instr.sureAddr,eI,eJ,hy]
   .cases h
  .have h : Vx P L cur R c t x = some (v, k) := by
    cases x with
    |global g=>exact absurd ⟨g,rfl⟩ hg
    |_=>exact h
   unfold Vx at h;split at h
   .rename_i i off n e1 e2;split at h
    .rename_i t' cells hi;obtain⟨z,h1,h2⟩:=Db h;obtain⟨b,hx,hρ⟩:=(B4 hL hp e1).d_inv.o_inv;obtain⟨y,hy,hr⟩:=G_ (P:=P) (S:=S) (w:=w) (ρ:=ρ) (ad:=⟨b,off,none⟩) h1 (λj d hd=>Af5 hI hi hρ off n j d hd);refine⟨y,?_,A37 h2 hk hr⟩;simp only[execOp,eG,hx,Instr.loadAt,Instr.sureAddr,eI,eJ,hy]
    .cases h
   .rename_i cells n e1 e2;obtain⟨z,h1,h2⟩:=D_ h;simp at h2;obtain⟨rfl,rfl⟩:=h2;obtain⟨ad,hx,hc⟩:=(B4 hL hp e1).d_inv.ip_inv;obtain⟨y,hy,hr⟩:=G_ (P:=P) (S:=S) (w:=w) (ρ:=ρ) (ad:=ad) h1 (λj d hd=>by
     rw[aB]at hd;obtain⟨d',h3,h4⟩:=D_ hd;subst h4;obtain⟨x,h5,h6,h7⟩:=hc.take n j d' h3;exact⟨x,h6,.p h7⟩)
    refine⟨y,?_,hr⟩;simp only[execOp,eG,hx,Instr.loadAt,Instr.sureAddr,eI,eJ,hy]
   .rename_i i kk size off n e1 e2;split at h
    .rename_i s rows q1 q2 row hi q3;cases hb:Nat.beq s size with
     |false=>rw[hb]at h;simp at h
     | true=>
      rw[hb]at h;simp only[ez]at h;have hss:=ak hb;subst hss;obtain⟨z,h1,h2⟩:=D_ h;simp at h2;obtain⟨rfl,rfl⟩:=h2;obtain⟨_,hrow⟩:=hk _ rfl;simp only[ax]at hrow;obtain⟨b,o,l,cp,hx,hρ⟩:=(B4 hL hp e1).d_inv.oe_inv;rcases(hI.ok i _ _ hi hρ).live rfl with⟨h3,h4⟩|⟨b',o',cp',vs,h3,hb',_,_,_,_,h5⟩
      .cases h3
      .cases h3;obtain⟨y,hy,hr⟩:=G_ (P:=P) (S:=S) (w:=w) (ρ:=ρ) (ad:=⟨b,o+kk*s+off,none⟩) h1 (λj d hd=>by
        rw[aB]at hd;obtain⟨d',g1,g2⟩:=D_ hd;subst g2;rw[aq]at g1;split at g1
        .rw[aw]at g1;obtain⟨x,g3,g4⟩:=h5 kk row hrow (off+j) d' g1;refine⟨x,?_,.p g4⟩;rw[C9,hb'.cell];rw[←g3];congr 1;omega
        .cases g1)
       refine⟨y,?_,hr⟩;simp only[execOp,eG,hx,Instr.loadAt,Instr.sureAddr,eI,eJ,hy]
    .rename_i e s g q1 q2 row hi q3;split at h
     .rename_i s2 tys rows hg;cases hb:(Nat.blt 0 s&&(Nat.beq s size&&Nat.beq s s2)) with
      |false=>rw[hb]at h;simp at h
      | true=>
       rw[hb]at h;simp only[ez]at h;simp only[ac]at hb;obtain⟨b0,b1,b2⟩:=hb;have hs0:0<s:=by simpa[eN]using b0
       have hss:=ak b1;subst hss;have hss:=ak b2;subst hss;obtain⟨z,h1,h2⟩:=D_ h;simp at h2;obtain⟨rfl,rfl⟩:=h2;obtain⟨_,hrow⟩:=hk _ rfl;simp only[ax]at hrow;obtain⟨b,o,l,cp,hx,hρ⟩:=(B4 hL hp e1).d_inv.oe_inv;obtain⟨f,xs,cs,hgρ,hgo,hform⟩:=P6 hI hi hg hρ rfl hs0;rcases hform with⟨h3,h4⟩|⟨b',o',cp',vs,h3,hb',_,_,_,h5⟩
       .cases h3
       .cases h3;obtain⟨y,hy,hr⟩:=G_ (P:=P) (S:=S) (w:=w) (ρ:=ρ) (ad:=⟨b,o+kk*s+off,none⟩) h1 (λj d hd=>by
         obtain⟨p,g1,g2⟩:=Nq hd;rw[aq]at g1;split at g1
         .rw[aw]at g1;obtain⟨x,g3,g4⟩:=hgo.2.2.1 kk row hrow (off+j) p g1;have g5:=h5 _ x g3;refine⟨x,?_,?_⟩
          .rw[C9,Kn hb'];rw[←g5];congr 1;omega
          .rcases g2 with⟨u,rfl,rfl⟩|⟨r,rfl,rfl⟩
           .obtain⟨rfl,g6,_⟩:=g4;exact .p (.v _ g6)
           .exact .oi hgρ g3 g4.1
         .cases g1)
        refine⟨y,?_,hr⟩;simp only[execOp,eG,hx,Instr.loadAt,Instr.sureAddr,eI,eJ,hy]
     .cases h
    .rename_i q0 cells hi q1;obtain⟨z,h1,h2⟩:=D_ h;simp at h2;obtain⟨rfl,rfl⟩:=h2;obtain⟨b,o,l,cp,hx,hρ⟩:=(B4 hL hp e1).d_inv.oe_inv;obtain⟨b',vs,h3,hb',hc,_⟩:=(hI.ok i _ _ hi hρ).live rfl;cases h3;obtain⟨y,hy,hr⟩:=G_ (P:=P) (S:=S) (w:=w) (ρ:=ρ) (ad:=⟨b,0+kk*size+off,none⟩) h1 (λj d hd=>by
      rw[aq]at hd;split at hd
      .rw[aw]at hd;obtain⟨x,g3,g4⟩:=hc.get hd;refine⟨x,?_,g4⟩;rw[C9,Kn hb'];rw[aN];simpa using g3
      .cases hd)
     refine⟨y,?_,hr⟩;simp only[execOp,eG,hx,Instr.loadAt,Instr.sureAddr,eI,eJ,hy]
    .cases h
   .cases h
 | nilCheck x=>
  simp only[Cw]at h;split at h
  .rename_i i off e1;simp at h;obtain⟨rfl,rfl⟩:=h;have hr:=B4 hL hp e1;obtain⟨b,hx,_⟩:=hr.d_inv.o_inv;exact⟨_,by simp only[execOp,hx];rfl,hx ▸ hr⟩
  .rename_i i off s k e1;simp at h;obtain⟨rfl,rfl⟩:=h;have hr:=B4 hL hp e1;obtain⟨b,o,l,c,hx,_⟩:=hr.d_inv.oe_inv;exact⟨_,by simp only[execOp,hx];rfl,hx ▸ hr⟩
  .rename_i cells e1;simp at h;obtain⟨rfl,rfl⟩:=h;have hr:=B4 hL hp e1;obtain⟨ad,hx,_⟩:=hr.d_inv.ip_inv;exact⟨_,by simp only[execOp,hx];rfl,hx ▸ hr⟩
  .cases h
 | binOp b t x y yt=>
  simp only[Cw]at h;split at h
  .rename_i u1 v1 e1 e2;have hx:=Bv hL hp e1;have hy:=Bv hL hp e2;split at h
   .rename_i z hz;simp at h;obtain⟨rfl,rfl⟩:=h;obtain⟨r1,r2⟩:=A6k (P:=P) (w:=w) hz t x y;refine⟨z,?_,Fu r2⟩;simp only[execOp,hx,hy];rw[eG,r1];rfl
   .split at h
    .rename_i z n hz;simp at h;obtain⟨rfl,rfl⟩:=h;have hn:n≠0:=hk _ rfl;obtain⟨r1,r2⟩:=A13 (P:=P) (w:=w) hz hn t x y;refine⟨z,?_,Fu r2⟩;simp only[execOp,hx,hy];rw[eG,r1];rfl
    .split at h
     .rename_i hu;obtain⟨z,hz,h2⟩:=D_ h;simp at h2;obtain⟨rfl,rfl⟩:=h2;obtain⟨r1,r2⟩:=A14 (P:=P) (w:=w) hz t hu x y;refine⟨z,?_,Fu r2⟩;simp only[execOp,hx,hy];rw[eG,r1];rfl
     .cases h
  .unfold Anb at h;split at h
   .rename_i rows e1 e2;split at h
    .rename_i e hu;simp at h;obtain⟨rfl,rfl⟩:=h;have hx:=(B4 hL hp e1).d_inv.p_inv;have hy:=(B4 hL hp e2).exact_inv;generalize hxe:a.eval x=xv at hx;cases hx with
     | s ad0 ad cap size _ xs hc hm hz=>
      refine⟨.bool ad0.isNone,?_,.d (.nq λhn=>?_)⟩
      .have he:=Ni (P:=P) (w:=w) (t:=t) hu ad0 rows.length cap;simp only[execOp,hxe,hy,eqGuard,binOp,eG];simp[he]
      .have hn:ad0=none:=by cases ad0 <;> simp_all
       have:=hz hn;exact bt (by omega)
    .cases h
   .rename_i j e1 e2;split at h
    .rename_i e e' s rows hu hi;simp at h;obtain⟨rfl,rfl⟩:=h;have hr:=(B4 hL hp e1).d_inv;have hy:=(B4 hL hp e2).exact_inv;rcases(hI.ok j _ _ hi hr.os_inv).live hr.one with⟨h3,h4⟩|⟨b',o,cp,vs,h3,_⟩
     .refine⟨.bool true,?_,.d (.nq λ_=>h4)⟩;have he:=Ni (P:=P) (w:=w) (t:=t) hu none 0 0;simp only[execOp,h3,hy,eqGuard,binOp,eG];simp[he]
     .refine⟨.bool false,?_,.d (.nq λhn=>by cases hn)⟩;have he:=Ni (P:=P) (w:=w) (t:=t) hu (some ⟨b',o,none⟩) rows.length cp;simp only[execOp,h3,hy,eqGuard,binOp,eG];simp[he]
    .cases h
   .rename_i ds es e1 e2;cases hg:P.eqGuardType P.depth t with
    |true=>rw[hg]at h;simp at h
    | false=>
     rw[hg]at h;simp only[eB]at h;obtain⟨vs,hv,hvs⟩:=(B4 hL hp e1).agg_inv;obtain⟨us,hu,hus⟩:=(B4 hL hp e2).agg_inv;cases b with
     |eql=>obtain⟨z,hz,h2⟩:=D_ h;simp at h2;obtain⟨rfl,rfl⟩:=h2;have:=Afb (P:=P) (S:=S) (w:=w) (ρ:=ρ) hz (N:=10000) (by omega) (.agg hvs) (.agg hus);refine⟨.bool z,?_,Fu rfl⟩;simp only[execOp,hv,hu,eG,Go.run_eqGuard_agg w .eql t x y vs.toArray us.toArray hg,eJ,Go.run_eql_struct,this];rfl
     |neq=>obtain⟨z,hz,h2⟩:=D_ h;simp at h2;obtain⟨rfl,rfl⟩:=h2;have:=Afb (P:=P) (S:=S) (w:=w) (ρ:=ρ) hz (N:=10000) (by omega) (.agg hvs) (.agg hus);refine⟨.bool !z,?_,Fu rfl⟩;simp only[execOp,hv,hu,eG,Go.run_eqGuard_agg w .neq t x y vs.toArray us.toArray hg,eJ,Go.run_neq_struct,this];rfl
     |_=>cases h
   .cases h
 | unOp u t x=>
  simp only[Cw]at h;split at h
  .rename_i v1 e1;have hx:=Bv hL hp e1;obtain⟨z,hz,h2⟩:=D_ h;simp at h2;obtain⟨rfl,rfl⟩:=h2;obtain⟨r1,r2⟩:=A7z (P:=P) (w:=w) hz;refine⟨z,?_,Fu r2⟩;simp only[execOp,hx];rw[eG,r1];rfl
  .cases h
 | convert s d x=>
  simp only[Cw]at h;split at h
  .rename_i k1 k2 k3 n e1 e2 e3;have hx:=Bv hL hp e3;simp at h;obtain⟨rfl,rfl⟩:=h;refine⟨_,?_,Fu rfl⟩;simp[execOp,hx,convert,eK e1,eK e2,Conv.intToInt]
  .obtain⟨y,h1,h2⟩:=Are hI hL hp h hk;exact⟨y,by simp only[execOp,eG,h1];rfl,h2⟩
 | makeFunc f first caps=>
  simp only[Cw]at h;split at h
  .rename_i x y e1 e2;split at h
   .rename_i x' y' e3 e4;simp at h;obtain⟨rfl,rfl⟩:=h;have r1:=Gc hL hp e1;have r2:=Gc hL hp e2;rw[Aqq e3]at r1;rw[Aqq e4]at r2;have s1:=Atg r1;have s2:=Atg r2;refine⟨_,?_,.d (.fn s1.length s2.length (λj x d hx hd=>s1.both hx hd) (λj x d hx hd=>s2.both hx hd))⟩;simp only[execOp,Instr.makeFunc,eG,eI,eJ];congr 3 <;> (apply Array.ext';simp)
   .cases h
  .cases h
 | fieldAddr s x f=>
  simp only[Cw]at h;split at h
  .rename_i i off kk ft e1 e2;split at h
   .rename_i m e3;simp at h;obtain⟨rfl,rfl⟩:=h;obtain⟨b,hx,hρ⟩:=(B4 hL hp e1).d_inv.o_inv;refine⟨.pointer (some ⟨b,off+kk,none⟩),?_,.d (.o hρ)⟩;simp only[execOp,hx,eG,Qf e2 e3,C9];rfl
   .cases h
  .rename_i cells kk ft e1 e2;split at h
   .rename_i m e3;simp at h;obtain⟨rfl,rfl⟩:=h;obtain⟨ad,hx,hc⟩:=(B4 hL hp e1).d_inv.ip_inv;refine⟨.pointer (some (ad.add kk)),?_,.d (.ip (hc.drop kk))⟩;simp only[execOp,hx,eG,Qf e2 e3];rfl
   .cases h
  .rename_i i r size off kk ft e1 e2;split at h
   .rename_i m e3;simp at h;obtain⟨rfl,rfl⟩:=h;obtain⟨b,o,l,c,hx,hρ⟩:=(B4 hL hp e1).d_inv.oe_inv;refine⟨.pointer (some ⟨b,o+r*size+(off+kk),none⟩),?_,.d (.oe hρ)⟩;simp only[execOp,hx,eG,Qf e2 e3,C9];rw[bl];rfl
   .cases h
  .cases h
 | field s x f=>
  simp only[Cw]at h;split at h
  .rename_i ds kk ft e1 e2;split at h
   .rename_i n e3;obtain⟨z,hz,h2⟩:=D_ h;simp at h2;obtain⟨rfl,rfl⟩:=h2;obtain⟨vs,hv,hr⟩:=(B4 hL hp e1).agg_inv;obtain⟨fields,y,hu,hy,rfl,rfl⟩:=qD e2;obtain⟨r,hr1,hr2⟩:=Q5 (P:=P) hr e3 hz;refine⟨r,?_,hr2⟩;simp only[execOp,Instr.field,hv,eG,eK hu,hy,asAgg,eI,eJ,hr1]
   .cases h
  .cases h
 | indexAddr t x i=>
  simp only[Cw]at h;unfold Ana at h;split at h
  .rename_i e rows ik n e1 e2 e3;split at h
   .rename_i q1 q2 row;split at h
    .rename_i m e4;cases hb:Nat.beq row.length (m+1) with
     |false=>rw[hb]at h;simp at h
     |true=>rw[hb]at h;simp at h;obtain⟨rfl,rfl⟩:=h;have hlen:row.length=m+1:=ak hb;have hpd:=(B4 hL hp e2).d_inv.p_inv;have hn:=Bv hL hp e3;obtain⟨h0,hrow⟩:=hk _ rfl;obtain⟨b,cap,hform,hcap,hm⟩:=hpd.slice_form;rw[hform]at hpd;obtain⟨hlt,hcells⟩:=hpd.row hrow;obtain⟨ad,had,hc⟩:=hcells (by intro e;rw[e]at hlen;simp at hlen);refine⟨.pointer (some (ad.add (n.toNat*(m+1)))),?_,.d (.ip (by rw[hlen]at hc;exact hc))⟩;simp only[execOp,hform,hn];rw[eG,H5 e1 e4 had h0];rfl
    .cases h
   .cases h
  .rename_i e j ik n e1 e2 e3;split at h
   .rename_i q0 s rows q1 q2 row hi;split at h
    .rename_i m e4;cases hb:Nat.beq s (m+1) with
     |false=>rw[hb]at h;simp at h
     | true=>
      rw[hb]at h;simp at h;obtain⟨rfl,rfl⟩:=h;have hss:=ak hb;subst hss;have hr:=(B4 hL hp e2).d_inv;have hn:=Bv hL hp e3;obtain⟨h0,hrow⟩:=hk _ rfl;have hlt:=(aa.1 hrow).1;rcases(hI.ok j _ _ hi hr.os_inv).live hr.one with⟨h3,h4⟩|⟨b,o,cp,vs,h3,hb',_⟩
      .rw[h4]at hlt;simp at hlt
      .refine⟨.pointer (some ⟨b,o+n.toNat*(m+1)+0,none⟩),?_,.d (.oe (by rw[←h3];exact hr.os_inv))⟩;simp only[execOp,h3,hn];rw[eG,H5 e1 e4 rfl h0,C9];rfl
    .cases h
   .rename_i q0 s g q1 q2 row hi;split at h
    .rename_i m s2 tys rows hole e4 hg;cases hb:(Nat.beq s (m+1)&&Nat.beq s s2) with
     |false=>rw[hb]at h;simp at h
     | true=>
      rw[hb]at h;simp at h;obtain⟨rfl,rfl⟩:=h;simp only[ac]at hb;have hss:=ak hb.2;subst hss;have hss:=ak hb.1;subst hss;have hr:=(B4 hL hp e2).d_inv;have hn:=Bv hL hp e3;obtain⟨h0,hrow⟩:=hk _ rfl;have hlt:=(aa.1 hrow).1;obtain⟨_,_,_,_,_,hform⟩:=P6 hI hi hg hr.os_inv hr.one (Nat.succ_pos _);rcases hform with⟨h3,h4⟩|⟨b,o,cp,vs,h3,hb',_⟩
      .rw[h4]at hlt;simp at hlt
      .refine⟨.pointer (some ⟨b,o+n.toNat*(m+1)+0,none⟩),?_,.d (.oe (by rw[←h3];exact hr.os_inv))⟩;simp only[execOp,h3,hn];rw[eG,H5 e1 e4 rfl h0,C9];rfl
    .cases h
   .rename_i q0 cells hi;split at h
    .rename_i m e4;cases hb:(Nat.beq m 0&&(decide (0<=n)&&Nat.blt n.toNat cells.length)) with
     |false=>rw[hb]at h;simp at h
     |true=>
      rw[hb]at h;simp only[ez,ah,au]at h;obtain⟨rfl,rfl⟩:=h;simp only[ac,dM]at hb;obtain⟨hm,h0,hlt⟩:=hb;have hm:=ak hm;have hlt:n.toNat<cells.length:=by simpa[eN]using hlt
      have hr:=(B4 hL hp e2).d_inv;have hn:=Bv hL hp e3;obtain⟨b,vs,h3,hb',_⟩:=(hI.ok j _ _ hi hr.os_inv).live hr.one;refine⟨.pointer (some ⟨b,0+n.toNat*(m+1)+0,none⟩),?_,.d (.oe (by rw[←h3];exact hr.os_inv))⟩;simp only[execOp,h3,hn];rw[eG,H5 e1 e4 rfl h0,C9];rfl
    .cases h
   .cases h
  .rename_i m e j off ik kk e1 e2 e3;split at h
   .rename_i s e4;cases hb:Nat.blt kk m with
    |false=>rw[hb]at h;simp at h
    |true=>
     rw[hb]at h;simp at h;obtain⟨rfl,rfl⟩:=h;have hlt:kk<m:=by simpa[eN]using hb
     obtain⟨b,hx,hρ⟩:=(B4 hL hp e2).d_inv.o_inv;have hn:=Bv hL hp e3;refine⟨.pointer (some ⟨b,off+kk*s,none⟩),?_,.d (.o hρ)⟩;simp only[execOp,hx,hn];rw[eG,N0 e1 e4 hlt,C9];rfl
   .cases h
  .rename_i m e cells ik kk e1 e2 e3;split at h
   .rename_i s e4;cases hb:Nat.blt kk m with
    |false=>rw[hb]at h;simp at h
    |true=>
     rw[hb]at h;simp at h;obtain⟨rfl,rfl⟩:=h;have hlt:kk<m:=by simpa[eN]using hb
     obtain⟨ad,hx,hc⟩:=(B4 hL hp e2).d_inv.ip_inv;have hn:=Bv hL hp e3;refine⟨.pointer (some (ad.add (kk*s))),?_,.d (.ip (hc.drop _))⟩;simp only[execOp,hx,hn];rw[eG,N0 e1 e4 hlt];rfl
   .cases h
  .split at h
   .simp only[ah,au]at h;obtain⟨rfl,rfl⟩:=h;have h0:=(hk _ rfl).2;simp at h0
   .cases h
  .cases h
 | index t x i=>
  simp only[Cw]at h;split at h
  .rename_i n e ds ik kki e1 e2 e3;split at h
   .rename_i row hrow;have hc:=Awy hrow;unfold Arn at h;split at h
    .rename_i s ps e4 e5;cases hb:Nat.beq ps.length (n*(s+1)) with
     |false=>rw[hb]at h;simp at h
     | true=>
      rw[hb]at h;simp only[ez]at h;have hlen:=ak hb;obtain⟨z,hz,h2⟩:=D_ h;simp at h2;obtain⟨rfl,rfl⟩:=h2;obtain⟨h0,hget⟩:=hk _ rfl;obtain⟨vs,hv,hr⟩:=(B4 hL hp e2).agg_inv;have hn:=Bv hL hp e3;have hlt:kki.toNat<n:=by
       have:=(aa.1 hget).1
       rwa [Rm]at this
      have hrw:=Yp _ _ _ _ _ hget;have hr':=Aj9 e5 hr;have hz':Hr P e (((ps.map D.p).drop (kki.toNat*(s+1))).take (s+1))=some z:=by rw[←hz,hrw,cy,List.map_drop]
      obtain⟨r,hr1,hr2⟩:=Q5 (P:=P) hr' e4 hz';refine⟨r,?_,hr2⟩;have h1:(0:Int)<=kki/\kki<(n:Int):=⟨h0,by omega⟩;simp only[execOp,Instr.index,hv,hn,asIntOf,eG,eI,eJ,eK e1,h1,and_self,if_true,C4 e4];rw[hr1];rfl
    .cases h
   .split at h
    .rename_i kk s e4;cases hb:(Nat.blt kk n&&Nat.ble ((kk+1)*s) ds.length) with
     |false=>rw[hb]at h;simp at h
     |true=>
      rw[hb]at h;simp only[ez]at h;rw[ac]at hb;obtain⟨z,hz,h2⟩:=D_ h;simp at h2;obtain⟨rfl,rfl⟩:=h2;have hlt:kk<n:=by have:=hb.1;simpa[eN]using this
      obtain⟨vs,hv,hr⟩:=(B4 hL hp e2).agg_inv;have hn:=Bv hL hp e3;obtain⟨r,hr1,hr2⟩:=Q5 (P:=P) hr e4 hz;refine⟨r,?_,hr2⟩;have h1:(0:Int)<=Int.ofNat kk/\Int.ofNat kk<(n:Int):=⟨Int.natCast_nonneg _,by simpa using hlt⟩;simp only[execOp,Instr.index,hv,hn,asIntOf,eG,eI,eJ,eK e1,h1,and_self,if_true,C4 e4];have e:(Int.ofNat kk).toNat=kk:=rfl;rw[e,hr1];rfl
    .cases h
  .rename_i s ik n e1 e2 e3;split at h
   .rename_i q1 q2 b;simp at h;obtain⟨rfl,rfl⟩:=h;obtain⟨h0,hb⟩:=hk _ rfl;have hx:=Bv hL hp (x:=x) (v:=.string s) (by rw[e2];rfl);have hn:=Bv hL hp e3;refine⟨_,?_,Fu rfl⟩;have hs:s[n.toNat]?=some b:=by
     rw[←hb];rfl
    simp[execOp,Instr.index,hx,hn,asIntOf,eK e1,h0,hs]
   .cases h
  .cases h
 | extract x i=>
  simp only[Cw]at h;split at h
  .rename_i l e1;obtain⟨z,hz,h2⟩:=D_ h;simp at h2;obtain⟨rfl,rfl⟩:=h2;obtain⟨vs,hv,hall⟩:=(B4 hL hp e1).tup_inv;obtain⟨y,hy,hr⟩:=hall.get hz;refine⟨y,?_,hr⟩;simp[execOp,hv,Instr.extract,hy]
  .cases h
 | slice t x lo hi mx =>
  cases mx with
  | some m =>
   cases lo with
   |none=>simp[Cw]at h
   | some lo => cases hi with
    |none=>simp[Cw]at h
    | some hi=>
     simp only[Cw]at h;split at h
     .rename_i e i e1 e2;split at h
      .rename_i e' s rows hri;split at h
       .rename_i k1 l k2 hh k3 mm e3 e4 e5;split at h
        .rename_i q1 q2 q3 q4 sz e6;simp at h;obtain⟨rfl,rfl⟩:=h;obtain⟨h0,h1,h2,h3⟩:=hk _ rfl;have hr:=(B4 hL hp e2).d_inv;have hlen:∃b cap,a.eval x=.slice b rows.length cap/\rows.length<=cap:=by
          rcases(hI.ok i _ _ hri hr.os_inv).live hr.one with⟨h3,h4⟩|⟨b,o,cp,vs,h3,_,h4,_⟩
          .exact⟨none,0,by rw[h3,h4];rfl,by rw[h4];simp⟩
          .exact⟨_,cp,h3,h4⟩
         obtain⟨b,cap,hform,hcap⟩:=hlen;have g1:=Cs (P:=P) (w:=w) (k:=k3) (n:=mm) (y:=cap) (c:=.slice3Acap) (by omega);have g2:=Cs (P:=P) (w:=w) (k:=k2) (n:=hh) (y:=mm.toNat) (c:=.slice3B) (by omega);have g3:=Cs (P:=P) (w:=w) (k:=k1) (n:=l) (y:=hh.toNat) (c:=.slice3C) (by omega);have hb:(Instr.sliceBounds true rows.length cap (some (a.eval lo)) (some (a.eval hi)) (some (a.eval m))).run P w=.ok (l.toNat,hh.toNat,mm.toNat) w:=by simp[Instr.sliceBounds,Bv hL hp e3,Bv hL hp e4,Bv hL hp e5,g1,g2,g3]
         refine⟨.slice (if mm.toNat=l.toNat then b else b.map (·.add (l.toNat*sz))) (hh.toNat-l.toNat) (mm.toNat-l.toNat),?_,.d (.any rfl)⟩;simp only[execOp,hform,Instr.sliceAt,eG,eK e1,eJ,be];simp only[Instr.slice,eG,eK e1,eJ,hb,C4 e6,eI]
        .cases h
       .cases h
      .cases h
     .cases h
  | none =>
   simp only[Cw]at h;split at h
   .rename_i e rows e1 e2;split at h
    .rename_i n k1 l k2 hh e5 e3 e4;split at h
     case h_2=>cases h
     rename_i rows' _;simp at h;obtain⟨rfl,rfl⟩:=h;obtain⟨h0,h1,h2,h3,h4⟩:=hk _ rfl;subst h4;have hpd:=(B4 hL hp e2).d_inv.p_inv;obtain⟨b,cap,hform,hcap,hm⟩:=hpd.slice_form;rw[hform]at hpd;refine⟨_,?_,.d (.p (RdP.cut hpd (l:=l.toNat) (h:=hh.toNat) (by omega) (by omega) h3))⟩;have hb:(Instr.sliceBounds true rows.length cap (lo.map a.eval) (hi.map a.eval) none).run P w=.ok (l.toNat,hh.toNat,cap) w:=by
      unfold Instr.sliceBounds;cases hi with
      | none=>
       simp only[ah,Value.int.injEq]at e4;obtain⟨_,e4⟩:=e4;subst e4;cases lo with
       |none=>simp only[ah,Value.int.injEq]at e3;obtain⟨_,e3⟩:=e3;subst e3;simp
       |some y=>simp only at e3;have:=Cs (P:=P) (w:=w) (k:=k1) (n:=l) (y:=rows.length) (c:=.sliceB) h0;simp[Bv hL hp e3,this]
      | some z=>
       simp only at e4;have g1:=Cs (P:=P) (w:=w) (k:=k2) (n:=hh) (y:=cap) (c:=.sliceAcap) (by omega);cases lo with
       |none=>simp only[ah,Value.int.injEq]at e3;obtain⟨_,e3⟩:=e3;subst e3;simp[Bv hL hp e4,g1]
       |some y=>simp only at e3;have:=Cs (P:=P) (w:=w) (k:=k1) (n:=l) (y:=hh.toNat) (c:=.sliceB) h0;simp[Bv hL hp e3,Bv hL hp e4,this,g1]
     simp only[execOp,hform,Instr.sliceAt,eG,eK e1,eJ,Option.map_none];simp only[Instr.slice,eG,eK e1,eJ,hb,C4 e5,eI]
    .cases h
   .rename_i e i e1 e2;split at h
    .rename_i e' s rows hri;split at h
     .rename_i n k1 l k2 hh e5 e3 e4;split at h
      case h_2=>cases h
      cases hsn:Nat.beq s n with
      |false=>rw[hsn]at h;simp at h
      |true=>
      rw[hsn]at h;simp at h;obtain⟨rfl,rfl⟩:=h;obtain⟨h0,h1,h2,h9⟩:=hk _ rfl;subst h9;have hr:=(B4 hL hp e2).d_inv;have hlen:∃b cap,a.eval x=.slice b rows.length cap/\rows.length<=cap:=by
       rcases(hI.ok i _ _ hri hr.os_inv).live hr.one with⟨h3,h4⟩|⟨b,o,cp,vs,h3,_,h4,_⟩
       .exact⟨none,0,by rw[h3,h4];rfl,by rw[h4];simp⟩
       .exact⟨_,cp,h3,h4⟩
      obtain⟨b,cap,hform,hcap⟩:=hlen;have hρ:=hr.os_inv;rw[hform]at hρ;refine⟨.slice (if cap=l.toNat then b else b.map (·.add (l.toNat*n))) (hh.toNat-l.toNat) (cap-l.toNat),?_,?_⟩
      case refine_2=>
       by_cases hcl:cap=l.toNat
       .rw[eC hcl];have:=Rd.osb (S:=S) (w:=w) (lo:=l.toNat) (n:=hh.toNat-l.toNat) (size:=n) (q:=0) hρ (by omega) (by omega) (by omega) (by omega);have hb0:b.map (·.add 0)=b:=by cases b <;> simp[Wh]
        rw[hb0]at this;exact .d this
       .rw[eF hcl];exact .d (.osb hρ (by omega) (by omega) (af _) (λ_=>rfl))
      have hb:(Instr.sliceBounds true rows.length cap (lo.map a.eval) (hi.map a.eval) none).run P w=.ok (l.toNat,hh.toNat,cap) w:=by
       unfold Instr.sliceBounds;cases hi with
       | none=>
        simp only[ah,Value.int.injEq]at e4;obtain⟨_,e4⟩:=e4;subst e4;cases lo with
        |none=>simp only[ah,Value.int.injEq]at e3;obtain⟨_,e3⟩:=e3;subst e3;simp
        |some y=>simp only at e3;have:=Cs (P:=P) (w:=w) (k:=k1) (n:=l) (y:=rows.length) (c:=.sliceB) h0;simp[Bv hL hp e3,this]
       | some z=>
        simp only at e4;have g1:=Cs (P:=P) (w:=w) (k:=k2) (n:=hh) (y:=cap) (c:=.sliceAcap) (by omega);cases lo with
        |none=>simp only[ah,Value.int.injEq]at e3;obtain⟨_,e3⟩:=e3;subst e3;simp[Bv hL hp e4,g1]
        |some y=>simp only at e3;have:=Cs (P:=P) (w:=w) (k:=k1) (n:=l) (y:=hh.toNat) (c:=.sliceB) h0;simp[Bv hL hp e3,Bv hL hp e4,this,g1]
      simp only[execOp,hform,Instr.sliceAt,eG,eK e1,eJ,Option.map_none];simp only[Instr.slice,eG,eK e1,eJ,hb,C4 e5,eI]
     .cases h
    .cases h
   .rename_i e i o0 n0 s0 e1 e2;split at h
    .rename_i e' s rows hri;split at h
     .rename_i n k1 l k2 hh e5 e3 e4;split at h
      case h_2=>cases h
      cases hsn:(Nat.beq s n&&Nat.beq s0 n) with
      |false=>rw[hsn]at h;simp at h
      |true=>
      rw[hsn]at h;simp at h;obtain⟨rfl,rfl⟩:=h;simp only[ac]at hsn;have hs0:=ak hsn.2;subst hs0;obtain⟨h0,h1,h2,h9⟩:=hk _ rfl;subst h9;have hr:=(B4 hL hp e2).d_inv;generalize hval:a.eval x=xv at hr;cases hr with
      | @osb _ _ _ _ q ad len cap hρ hl hc hq hq2=>
       have hlen:len=rows.length/\rows.length<=cap:=by
        rcases(hI.ok i _ _ hri hρ).live rfl with⟨h3,h4⟩|⟨b,o,cp,vs,h3,_,h4,_⟩
        .cases h3;subst h4;exact⟨rfl,by simp⟩
        .cases h3;exact⟨rfl,h4⟩
       obtain⟨hlen,hcap⟩:=hlen;subst hlen;have hb:=Al7 (P:=P) (w:=w) hL hp (len:=n0) (cap:=cap-o0) e3 e4 h0 h1 (by omega);refine⟨.slice (if cap-o0=l.toNat then ad.map (·.add q) else (ad.map (·.add q)).map (·.add (l.toNat*s0))) (hh.toNat-l.toNat) (cap-o0-l.toNat),?_,?_⟩
       .simp only[execOp,hval,Instr.sliceAt,eG,eK e1,eJ,Option.map_none];simp only[Instr.slice,eG,eK e1,eJ,hb,C4 e5,eI]
       .rw[show cap-o0-l.toNat=cap-(o0+l.toNat) from by omega];by_cases hcl:cap-o0=l.toNat
        .rw[eC hcl];exact .d (.osb hρ (by omega) (by omega) (by rw[aF];omega) (by omega))
        .rw[eF hcl];have hq3:=hq2 (by omega);have:(ad.map (·.add q)).map (·.add (l.toNat*s0))=ad.map (·.add (q+l.toNat*s0)):=by cases ad <;> simp[Ru]
         rw[this];exact .d (.osb hρ (by omega) (by omega) (by rw[aF];omega) (λ_=>by rw[aF,hq3]))
     .cases h
    .cases h
   .rename_i s e1 e2;split at h
    .rename_i k1 l k2 hh e3 e4;split at h
     case h_2=>cases h
     simp only[ah,au]at h;obtain⟨rfl,rfl⟩:=h;obtain⟨h0,h1,h2,h9⟩:=hk _ rfl;subst h9;have hx:=(B4 hL hp e2).exact_inv;have hb:(Instr.sliceBounds false s.size s.size (lo.map a.eval) (hi.map a.eval) none).run P w=.ok (l.toNat,hh.toNat,s.size) w:=by
      unfold Instr.sliceBounds;cases hi with
      | none=>
       simp only[ah,Value.int.injEq]at e4;obtain⟨_,e4⟩:=e4;subst e4;cases lo with
       |none=>simp only[ah,Value.int.injEq]at e3;obtain⟨_,e3⟩:=e3;subst e3;simp
       |some y=>simp only at e3;have:=Cs (P:=P) (w:=w) (k:=k1) (n:=l) (y:=s.size) (c:=.sliceB) h0;simp[Bv hL hp e3,this]
      | some z=>
       simp only at e4;have g1:=Cs (P:=P) (w:=w) (k:=k2) (n:=hh) (y:=s.size) (c:=.sliceAlen) (by omega);cases lo with
       |none=>simp only[ah,Value.int.injEq]at e3;obtain⟨_,e3⟩:=e3;subst e3;simp[Bv hL hp e4,g1]
       |some y=>simp only at e3;have:=Cs (P:=P) (w:=w) (k:=k1) (n:=l) (y:=hh.toNat) (c:=.sliceB) h0;simp[Bv hL hp e3,Bv hL hp e4,this,g1]
     refine⟨.string (s.extract l.toNat hh.toNat),?_,Fu rfl⟩;simp only[execOp,hx,Instr.sliceAt,eG,eK e1,eJ,Option.map_none];simp[Instr.slice,eK e1,hb]
    .cases h
   .cases h
 | call kk =>
  obtain⟨callee,cargs,argTypes⟩:=kk;cases callee with
  |value f=>simp[Cw]at h
  |invoke r m=>simp[Cw]at h
  | builtin b=>
   simp only[Cw]at h;split at h
   .rename_i args e1;have hargs:=Gc hL hp e1;have hrun:∀x,(builtin b argTypes type (cargs.map fun|.const _=>true|_=>false) (cargs.map a.eval)).run P w=.ok (.value x) w ->
      (execOp a.eval ⟨dst,.call ⟨.builtin b,cargs,argTypes⟩,type,pos,after,guard⟩).run P w=.ok (.value x) w:=by
     intro x hx;simp only[execOp,resolve,eG,eI,eJ,invoke];exact hx
    have hl:(cargs.map a.eval).toList=cargs.toList.map a.eval:=by simp
    have harr:∀l,cargs.toList.map a.eval=l->cargs.map a.eval=l.toArray:=λl h=>by apply Array.ext';rw[hl,h]
    split at h
    .rename_i t e2;split at h
     .rename_i e hu;obtain⟨n,hn,he⟩:∃n,M9 R args=some n/\v=ofV (.int .i64 n):=by
       split at h
       .obtain⟨n,hn,h2⟩:=D_ h;simp at h2;obtain⟨rfl,rfl⟩:=h2;have:=hk _ rfl;have this:n=_:=this;exact⟨n,hn,by rw[←this]⟩
       .obtain⟨n,hn,h2⟩:=D_ h;simp at h2;exact⟨n,hn,h2.1.symm⟩
      subst he;obtain⟨b,kx,c,hv,rfl⟩:=Arm hI hargs hn;refine⟨_,hrun _ ?_,Fu rfl⟩;rw[harr _ hv];simp[builtin,Builtin.len_,e2,eK hu,goInt]
     .rename_i hu;obtain⟨n,hn,h2⟩:=D_ h;simp at h2;obtain⟨rfl,rfl⟩:=h2;obtain⟨s,hv,rfl⟩:=Arl hargs hn;refine⟨_,hrun _ ?_,Fu rfl⟩;rw[harr _ hv];simp[builtin,Builtin.len_,e2,eK hu,goInt]
     .cases h
    .obtain⟨n,hn,h2⟩:=D_ h;simp at h2;obtain⟨rfl,rfl⟩:=h2;unfold A4b at hn;split at hn
     .rename_i x r hx;have hv:=Aiw hx hargs;split at hn
      .refine⟨_,hrun _ ?_,Fu rfl⟩;rw[harr _ hv];have:=Ajx (P:=P) (w:=w) hn;simp[builtin,Builtin.max_,this]
      .refine⟨_,hrun _ ?_,Fu rfl⟩;rw[harr _ hv];have:=Ajw (P:=P) (w:=w) hn;simp[builtin,Builtin.min_,this]
      .cases hn
     .cases hn
   .cases h
 |_=>simp[Cw]at h
end
end Go.SL
