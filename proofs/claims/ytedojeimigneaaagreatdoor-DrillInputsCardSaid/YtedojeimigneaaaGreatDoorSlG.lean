import Derived.WalkKit
import Derived.ProofKit
import Derived.OpenShut
import Derived.Laws.StructEq
import Derived.Laws.BytesString
set_option linter.defProp false
namespace Go.SL
variable{ad:Addr}{vs xs:Array Value}{b i j n size:Nat}{e:TypeId}{h x y:Value}
abbrev ey:=List Nat
abbrev ez:=List Int
abbrev eA:=List Value
abbrev eB:=List Bool
def ef:=@Array.getD_eq_getD_getElem?
theorem eg:type_of% @cond_false:=@cond_false
theorem eh:type_of% @cond_true:=@cond_true
def ei:=@if_pos
def el:=@run_underlying
def em:=@if_neg
def eo:=@Sem.run_bind
theorem ep:type_of% @Result.andThen_ok:=@Result.andThen_ok
theorem eq:type_of% @Sem.run_pure:=@Sem.run_pure
def eu:=@Nat.blt_eq
def ew:=@List.getElem?_append_left
def dM:=@decide_eq_true_eq
def dN:=@decide_eq_false_iff_not
def dQ:=@beq_iff_eq
def dR:=@beq_eq_false_iff_ne
def dU:=@decide_eq_true
def dV:=@bne_eq_false_iff_eq
def dW:=@of_decide_eq_true
def aa:=@Bool.and_eq_true
def ac:=@List.getElem?_eq_some_iff
def ae:=@Option.some.injEq
def af:=@Nat.eq_of_beq_eq_true
def ag:=@List.mem_of_getElem?
def ah:=@List.mem_cons
def ai:=@Nat.le_refl
theorem aj:type_of% @Option.bind_some:=@Option.bind_some
def ak:=@List.getElem?_eq_getElem
def al:=@Prod.mk.injEq
def am:=@List.mem_cons_of_mem
def an:=@List.mem_cons_self
def ap:=@List.getElem?_take
def aq:=@List.length_map
def ar:=@List.getElem?_drop
def au:=@List.getElem?_map
def aw:=@List.mem_append
def ax:=@List.getElem?_append_left
def ay:=@Nat.le_trans
def az:=@Nat.add_mul
def aA:=@List.mem_map
def aB:=@List.getElem?_set
def aC:=@Nat.le_succ
def aD:=@List.all_eq_true
def aE:=@Nat.lt_of_lt_of_le
def aF:=@Nat.le_of_ble_eq_true
theorem aG:type_of% @Int.toNat_natCast:=@Int.toNat_natCast
def aH:=@List.mem_filter
def aI:=@List.pairwise_cons
def aJ:=@Nat.zero_add
def aK:=@List.getElem?_append_right
def aL:=@Array.getElem?_eq_some_iff
def aM:=@List.mem_singleton
def aN:=@List.length_take
def aO:=@Bool.not_eq_true'
def aP:=@List.length_append
def aQ:=@Option.some.inj
def aR:=@Nat.lt_or_ge
def aS:=@Bool.or_eq_true
theorem aT:type_of% @List.length_cons:=@List.length_cons
theorem aU:type_of% @Option.map_some:=@Option.map_some
def aV:=@List.not_mem_nil
def aX:=@Nat.mul_le_mul_right
def aY:=@Bool.or_eq_false_iff
def aZ:=@List.append_nil
def ba:=@Ne.symm
def bc:=@List.mem_of_mem_take
def be:=@List.take_length
def bf:=@List.map_congr_left
def bg:=@Nat.add_assoc
def bh:=@List.map_append
def bi:=@Nat.zero_le
def bj:=@List.ext_getElem?
def bl:=@List.take_append_drop
def bm:=@List.eq_nil_of_length_eq_zero
theorem bn:type_of% @List.length_nil:=@List.length_nil
theorem bo:type_of% @Nat.add_zero:=@Nat.add_zero
def bp:=@Nat.blt_eq
theorem bq:type_of% @List.foldl_cons:=@List.foldl_cons
def bt:=@Array.getD_eq_getD_getElem?
def bu:=@List.isEmpty_iff
def bv:=@List.map_cons
def bz:=@List.getElem?_set_ne
def bA:=@List.getElem?_range
def bB:=@List.size_toArray
def bC:=@List.getElem?_of_mem
def bD:=@List.mem_append_right
def bE:=@Bool.not_true
def bF:=@List.append_assoc
def bG:=@List.nil_append
def bH:=@List.mem_append_left
def bI:=@List.foldl_append
def bJ:=@List.length_drop
def bK:=@List.eq_of_mem_replicate
def bL:=@Array.ext'
def bM:=@Bool.and_true
def bN:=@List.any_eq_false
def bO:=@List.of_mem_zip
def bP:=@List.length_filter_le
def bQ:=@List.filter_append
def bS:=@List.range_succ
def bT:=@List.mem_range
def bU:=@Bool.false_or
def bV:=@List.length_set
def bW:=@List.mem_or_eq_of_mem_set
def bX:=@Nat.lt_trichotomy
def bY:=@List.take_of_length_le
def bZ:=@Nat.succ_pos
theorem cd:type_of% @List.zip_cons_cons:=@List.zip_cons_cons
def ce:=@Bool.true_and
def cf:=@List.Pairwise.nil
def cg:=@Nat.one_mul
def ch:=@List.getElem?_set_self
def ci:=@List.flatten_append
theorem cj:type_of% @Array.length_toList:=@Array.length_toList
def ck:=@List.getElem_mem
theorem cm:type_of% @List.flatten_cons:=@List.flatten_cons
def cq:=@List.drop_drop
def cr:=@List.any_append
def ct:=@List.all_append
def cu:=@List.pairwise_iff_getElem
def cv:=@Bool.eq_iff_iff
def cw:=@Int.toNat_of_nonneg
def cx:=@List.mem_of_mem_drop
def cy:=@Nat.min_eq_left
def cz:=@List.cons_append
def cC:=@List.map_map
def cD:=@List.getElem?_eq_none
def cE:=@List.take_append_of_le_length
def cF:=@List.map_take
theorem cG:type_of% @Option.getD_some:=@Option.getD_some
def cH:=@Array.getElem?_toList
theorem cI:type_of% @List.getElem?_cons_succ:=@List.getElem?_cons_succ
def cJ:=@List.getElem?_toArray
def cK:=@Array.replicate_succ
def cL:=@Array.replicate_zero
def cM:=@List.push_toArray
def cN:=@List.append_toArray
def cO:=@List.take_add_one
def cP:=@List.getElem_of_mem
def cQ:=@Nat.le_mul_of_pos_right
def cR:=@List.drop_eq_getElem_cons
def cS:=@Array.getElem?_eq_getElem
def cT:=@List.filter_eq_nil_iff
def cU:=@Bool.not_eq_false'
def cV:=@List.filter_cons
def cW:=@Option.map_none
def cX:=@List.getD_eq_getElem?_getD
def cY:=@List.getElem?_append
def cZ:=@Int.tdiv_eq_ediv_of_nonneg
def c6:=@List.pairwise_append
inductive Pd where
 |v (x:Value)
 |s (rows:List (List Pd))
 deriving Inhabited
theorem Dh(a:Addr)(n:Nat):(a.add n).block=a.block:=by unfold Addr.add;split <;> rfl
theorem M9(a:Addr):a.add 0=a:=by simp[Addr.add]
theorem Rf(a:Addr)(i j:Nat):(a.add i).add j=a.add (i+j):=by unfold Addr.add;grind
theorem Cn(b o n:Nat):(⟨b,o,none⟩:Addr).add n=⟨b,o+n,none⟩:=by unfold Addr.add;split <;> simp_all
inductive RdP(S:Nat->Prop)(w:World):Value->Pd->Prop
 |v (x:Value) (h:x.oneCell'=true):RdP S w x (.v x)
 | s (a:Option Addr) (ad:Addr) (cap size:Nat) (rows:List (List Pd)) (xs:Nat->Nat->Value)
   (hc:rows.length<=cap) (hm:cap<=maxLen) (hz:a=none->cap=0)
   (hsz:∀row,row∈rows->row.length=size)
   (hx:∀(i:Nat) row,rows[i]?=some row->∀(j:Nat) d,row[j]?=some d->a=some ad/\S ad.block/\w.cell? (ad.add (i*size+j))=some (xs i j))
   (hr:∀(i:Nat) row,rows[i]?=some row->∀(j:Nat) d,row[j]?=some d->RdP S w (xs i j) d) :
   RdP S w (.slice a rows.length cap) (.s rows)
section
variable{S S':Nat->Prop}{w w':World}
theorem zL(hw:w'.heap[ad.block]?=w.heap[ad.block]?):w'.cell? (ad.add n)=w.cell? (ad.add n):=
 World.cell?_of_block (by rw[Dh];exact hw)
variable{d:Pd}
theorem RdP.mono(h:RdP S w x d)(hS:∀b,S b->S' b)(hw:∀b,S b->w'.heap[b]?=w.heap[b]?):RdP S' w' x d:=by
 induction h with
 |v x h=>exact .v x h
 |s a ad cap size rows xs hc hm hz hsz hx hr ih=>refine .s a ad cap size rows xs hc hm hz hsz (λi row hi j d hj=>?_) (λi row hi j d hj=>ih i row hi j d hj);obtain⟨h1,h2,h3⟩:=hx i row hi j d hj;exact⟨h1,hS _ h2,by rw[zL (hw _ h2)];exact h3⟩
theorem RdP.one(h:RdP S w x d):x.oneCell'=true:=by
 cases h with
 |v x h=>exact h
 |s=>rfl
def Fy(S:Nat->Prop)(w:World)(ad:Addr)(ds:List Pd):Prop:=
 ∀(j:Nat) d,ds[j]?=some d->∃x,S ad.block/\w.cell? (ad.add j)=some x/\RdP S w x d
variable{ds:List Pd}
theorem Fy.mono(h:Fy S w ad ds)(hS:∀b,S b->S' b)(hw:∀b,S b->w'.heap[b]?=w.heap[b]?):Fy S' w' ad ds:=by intro j d hj;obtain⟨x,h1,h2,h3⟩:=h j d hj;exact⟨x,hS _ h1,by rw[zL (hw _ h1)];exact h2,h3.mono hS hw⟩
theorem Fy.drop(h:Fy S w ad ds)(k:Nat):Fy S w (ad.add k) (ds.drop k):=by intro j d hj;rw[ar]at hj;obtain⟨x,h1,h2,h3⟩:=h _ d hj;exact⟨x,by rw[Dh];exact h1,by rw[Rf];exact h2,h3⟩
theorem Fy.take(h:Fy S w ad ds)(k:Nat):Fy S w ad (ds.take k):=by
 intro j d hj;rw[ap]at hj;split at hj
 .exact h _ d hj
 .cases hj
variable{rows:List (List Pd)}
theorem RdP.row{a:Option Addr}{cap:Nat}(h:RdP S w (.slice a n cap) (.s rows)){row:List Pd}(hi:rows[i]?=some row) :
  i<n/\(row≠[]->∃ad,a=some ad/\Fy S w (ad.add (i*row.length)) row):=by
 cases h with
 | s _ ad _ size _ xs hc hm hz hsz hx hr=>
  have hs:row.length=size:=hsz row (ag hi);refine⟨(ac.1 hi).1,λhne=>?_⟩;obtain⟨d0,h0⟩:∃d,row[0]?=some d:=by
   cases row with
   |nil=>exact absurd rfl hne
   |cons d l=>exact⟨d,rfl⟩
  refine⟨ad,(hx i row hi 0 d0 h0).1,λj d hj=>?_⟩;obtain⟨_,h2,h3⟩:=hx i row hi j d hj;exact⟨xs i j,by rw[Dh];exact h2,by rw[Rf,hs];exact h3,hr i row hi j d hj⟩
theorem RdP.slice_form(h:RdP S w x (.s rows)):∃a cap,x=.slice a rows.length cap/\rows.length<=cap/\cap<=maxLen:=by
 cases h with
 |s a ad cap size rows xs hc hm=>exact⟨a,cap,rfl,hc,hm⟩
theorem RdP.v_form(h:RdP S w x (.v y)):x=y:=by cases h;rfl
end
inductive D where
 |p (x:Pd)
 |o (i off:Nat)
 |os (i:Nat)
 |oe (i k size off:Nat)
 |osb (i lo n size:Nat)
 |oi (i g k size off:Nat)
 |ip (cells:List Pd)
 |fn (f:Fn) (first caps:List D)
 |any
 |nq (rows:List (List Pd))
 |fb (f:Fn) (bag:List Pd)
 deriving Inhabited
inductive Rd(S:Nat->Prop)(w:World)(ρ:eA):Value->D->Prop
 |p {x:Value} {d:Pd} (h:RdP S w x d):Rd S w ρ x (.p d)
 |o {i b off:Nat} (h:ρ[i]?=some (.pointer (some ⟨b,0,none⟩))):Rd S w ρ (.pointer (some ⟨b,off,none⟩)) (.o i off)
 |os {i:Nat} {v:Value} (h:ρ[i]?=some v) (h1:v.oneCell'=true):Rd S w ρ v (.os i)
 |oe {i k size off b o len cap:Nat} (h:ρ[i]?=some (.slice (some ⟨b,o,none⟩) len cap)):Rd S w ρ (.pointer (some ⟨b,o+k*size+off,none⟩)) (.oe i k size off)
 |osb {i lo n size q:Nat} {a:Option Addr} {len cap:Nat} (h:ρ[i]?=some (.slice a len cap)) (hl:lo+n<=len) (hc:lo<=cap) (hq:q<=lo*size) (hq2:lo<cap->q=lo*size):Rd S w ρ (.slice (a.map (·.add q)) n (cap-lo)) (.osb i lo n size)
 |oi {i g k size off:Nat} {f:Fn} {xs cs:Array Value} {v:Value} (h:ρ[g]?=some (.func f xs cs)) (hx:xs[k*size+off]?=some v) (h1:v.oneCell'=true):Rd S w ρ v (.oi i g k size off)
 |ip {ad:Addr} {ds:List Pd} (h:Fy S w ad ds):Rd S w ρ (.pointer (some ad)) (.ip ds)
 | fn {f:Fn} {xs cs:eA} {first caps:List D} (hl:xs.length=first.length) (hm:cs.length=caps.length)
   (hx:∀(j:Nat) x d,xs[j]?=some x->first[j]?=some d->Rd S w ρ x d) (hc:∀(j:Nat) x d,cs[j]?=some x->caps[j]?=some d->Rd S w ρ x d) :
   Rd S w ρ (.func f xs.toArray cs.toArray) (.fn f first caps)
 |any {v:Value} (h1:v.oneCell'=true):Rd S w ρ v .any
 |nq {b:Bool} {rows:List (List Pd)} (h:b=true->rows=[]):Rd S w ρ (.bool b) (.nq rows)
 |fb {f:Fn} {vs:eA} {ps:List Pd} (hl:vs.length=ps.length) (h:∀(j:Nat) x d,vs[j]?=some x->ps[j]?=some d->RdP S w x d):Rd S w ρ (.func f #[.agg vs.toArray] #[]) (.fb f ps)
def Pre(ρ ρ':eA):Prop:=∀(i:Nat) v,ρ[i]?=some v->ρ'[i]?=some v
theorem Pre.refl(ρ:eA):Pre ρ ρ:=λ_ _ h=>h
theorem Pre.append(ρ l:eA):Pre ρ (ρ++l):=λi v h=>by grind
theorem Pre.trans{a b c:eA}(h:Pre a b)(k:Pre b c):Pre a c:=λi v e=>k i v (h i v e)
def Ph(ρ ρ':eA):Prop:=∀(i:Nat) v,ρ[i]?=some v->v.oneCell'=true->ρ'[i]?=some v
theorem Pre.a{a b:eA}(h:Pre a b):Ph a b:=λi v e _=>h i v e
section
variable{S S':Nat->Prop}{w w':World}{ρ ρ':eA}
variable{d:D}
theorem Rd.monoA(h:Rd S w ρ x d)(hS:∀b,S b->S' b)(hw:∀b,S b->w'.heap[b]?=w.heap[b]?)(hρ:Ph ρ ρ'):Rd S' w' ρ' x d:=by
 induction h with
 |p h=>exact .p (h.mono hS hw)
 |o h=>exact .o (hρ _ _ h rfl)
 |os h h1=>exact .os (hρ _ _ h h1) h1
 |oe h=>exact .oe (hρ _ _ h rfl)
 |osb h hl hc hq hq2=>exact .osb (hρ _ _ h rfl) hl hc hq hq2
 |any h1=>exact .any h1
 |nq h=>exact .nq h
 |oi h hx h1=>exact .oi (hρ _ _ h rfl) hx h1
 |ip h=>exact .ip (h.mono hS hw)
 |fn hl hm _ _ ih1 ih2=>exact .fn hl hm ih1 ih2
 |fb hl h=>exact .fb hl λj x d h1 h2=>(h j x d h1 h2).mono hS hw
theorem Rd.mono(h:Rd S w ρ x d)(hS:∀b,S b->S' b)(hw:∀b,S b->w'.heap[b]?=w.heap[b]?)(hρ:Pre ρ ρ'):Rd S' w' ρ' x d:=h.monoA hS hw hρ.a
theorem Rd.one(h:Rd S w ρ x d):x.oneCell'=true:=by
 cases h with
 |p h=>exact h.one
 |os h h1=>exact h1
 |oi h hx h1=>exact h1
 |any h1=>exact h1
 |_=>rfl
end
def Ay{α β:Type}(R:α->β->Prop):List α->List β->Prop
 | [],[]=>True
 |x::xs,d::ds=>R x d/\Ay R xs ds
 |_,_=>False
section
variable{α β:Type}{R R':α->β->Prop}
theorem Ay.length:∀{xs:List α}{ds:List β},Ay R xs ds->xs.length=ds.length
 | [],[],_=>rfl
 |_::_,_::_,h=>by simp[Ay.length h.2]
 | [],_::_,h=>h.elim
 |_::_,[],h=>h.elim
theorem Ay.mono(hm:∀x d,R x d->R' x d):∀{xs:List α}{ds:List β},Ay R xs ds->Ay R' xs ds
 | [],[],_=>trivial
 |_::_,_::_,h=>⟨hm _ _ h.1,Ay.mono hm h.2⟩
 | [],_::_,h=>h.elim
 |_::_,[],h=>h.elim
theorem Ay.get:∀{xs:List α}{ds:List β},Ay R xs ds->∀{j:Nat}{d:β},ds[j]?=some d->∃x,xs[j]?=some x/\R x d
 | [],[],_,j,d,hj=>by simp at hj
 |x::xs,d'::ds,h,0,d,hj=>by grind[Ay]
 |x::xs,d'::ds,h,j+1,d,hj=>by simp at hj ⊢;exact Ay.get h.2 hj
 | [],_::_,h,_,_,_=>h.elim
 |_::_,[],h,_,_,_=>h.elim
theorem da:∀{xs:List α}{ds:List β},xs.length=ds.length->(∀(j:Nat) x d,xs[j]?=some x->ds[j]?=some d->R x d)->Ay R xs ds
 | [],[],_,_=>trivial
 |x::xs,d::ds,hl,h=>⟨h 0 x d rfl rfl,da (by simpa using hl) (λj x' d' hx hd=>h (j+1) x' d' (by simpa using hx) (by simpa using hd))⟩
 | [],_::_,hl,_=>by simp at hl
 |_::_,[],hl,_=>by simp at hl
variable{xs:List α}{ds:List β}
theorem Ay.both(h:Ay R xs ds){x:α}{d:β}(hx:xs[j]?=some x)(hd:ds[j]?=some d):R x d:=by obtain⟨x',h1,h2⟩:=h.get hd;rw[hx]at h1;cases h1;exact h2
theorem Ay.append{xs':List α}{ds':List β}(h:Ay R xs ds)(h':Ay R xs' ds'):Ay R (xs++xs') (ds++ds'):=by
 induction xs generalizing ds with
 |nil=>grind[Ay]
 |cons x xs ih=>cases ds with
  |nil=>exact h.elim
  |cons d ds=>exact⟨h.1,ih h.2⟩
theorem Ay.take(h:Ay R xs ds)(k:Nat):Ay R (xs.take k) (ds.take k):=by grind[da,Ay.length,Ay.both]
theorem Ay.drop(h:Ay R xs ds)(k:Nat):Ay R (xs.drop k) (ds.drop k):=by grind[da,Ay.length,Ay.both]
theorem Ay.map_right{γ:Type}{f:γ->β}{R2:α->γ->Prop}{ds:List γ}(h:Ay R2 xs ds)(hm:∀x d,R2 x d->R x (f d)):Ay R xs (ds.map f):=by grind[da,Ay.length,Ay.both]
end
inductive AV where
 |d (x:D)
 |agg (ds:List D)
 |tup (l:List AV)
 deriving Inhabited
inductive RdA(S:Nat->Prop)(w:World)(ρ:eA):Value->AV->Prop
 |d {x:Value} {y:D} (h:Rd S w ρ x y):RdA S w ρ x (.d y)
 |agg {vs:eA} {ds:List D} (h:Ay (Rd S w ρ) vs ds):RdA S w ρ (.agg vs.toArray) (.agg ds)
 |tup {vs:eA} {l:List AV} (hl:vs.length=l.length) (h:∀(j:Nat) x a,vs[j]?=some x->l[j]?=some a->RdA S w ρ x a):RdA S w ρ (.tuple vs.toArray) (.tup l)
section
variable{S S':Nat->Prop}{w w':World}{ρ ρ':eA}
variable{d:AV}
theorem RdA.monoA(h:RdA S w ρ x d)(hS:∀b,S b->S' b)(hw:∀b,S b->w'.heap[b]?=w.heap[b]?)(hρ:Ph ρ ρ'):RdA S' w' ρ' x d:=by
 induction h with
 |d h=>exact .d (h.monoA hS hw hρ)
 |agg h=>exact .agg (h.mono λ_ _ h=>h.monoA hS hw hρ)
 |tup hl _ ih=>exact .tup hl ih
theorem RdA.mono(h:RdA S w ρ x d)(hS:∀b,S b->S' b)(hw:∀b,S b->w'.heap[b]?=w.heap[b]?)(hρ:Pre ρ ρ'):RdA S' w' ρ' x d:=h.monoA hS hw hρ.a
theorem RdA.d_inv{y:D}(h:RdA S w ρ x (.d y)):Rd S w ρ x y:=by cases h;assumption
theorem RdA.agg_inv{ds:List D}(h:RdA S w ρ x (.agg ds)):∃vs:eA,x=.agg vs.toArray/\Ay (Rd S w ρ) vs ds:=by cases h with|agg h=>exact⟨_,rfl,h⟩
theorem RdA.exact_inv(h:RdA S w ρ x (.d (.p (.v y)))):x=y:=by cases h with|d h=>cases h with|p h=>exact h.v_form
end
inductive Res where
 |box (t:TypeId) (cells:List D)
 |sl (e:TypeId) (size:Nat) (rows:List (List Pd))
 |zsl (e:TypeId) (size:Nat) (rows:List (List Pd))
 |dsl (e:TypeId) (size:Nat) (g:Nat)
 |gh (size:Nat) (tys:List (TypeId×Nat)) (rows:List (List Pd)) (hole:Option (Nat×Nat))
 |non
 |vec (e:TypeId) (size:Nat) (cells:List D)
 deriving Inhabited
def Wk:TypeId->Bool:=(λt=>Nat.beq t 5)
def Blk(w:World)(b:Nat)(vs:Array Value)(e:TypeId):Prop:=∃fr:Nat×Nat,w.heap[b]?=some (.cells vs e fr)/\(fr.1=fr.2\/vs.size<=fr.1)/\(Wk e=false->fr=(0,0))
variable{w:World}
theorem Blk.of(h:w.heap[b]?=some (.cells vs e (0,0))):Blk w b vs e:=⟨_,h,.inl rfl,λ_=>rfl⟩
theorem Blk.zero(h:Blk w b vs e)(hm:Wk e=false):w.heap[b]?=some (.cells vs e (0,0)):=by obtain⟨fr,h1,_,h3⟩:=h;rw[h1,h3 hm]
theorem Blk.mono{w':World}(h:Blk w b vs e)(hf:w'.heap[b]?=w.heap[b]?):Blk w' b vs e:=by obtain⟨fr,h1,h2⟩:=h;exact⟨fr,by rw[hf];exact h1,h2⟩
def P4(S:Nat->Prop)(w:World)(e:TypeId)(size:Nat)(rows:List (List Pd))(h:Value):Prop:=
 (h=.slice none 0 0/\rows=[]) \/
  ∃b o cap vs,h=.slice (some ⟨b,o,none⟩) rows.length cap/\Blk w b vs e/\rows.length<=cap/\cap<=maxLen/\o+cap*size<=vs.size /\
   (∀row,row∈rows->row.length=size) /\
   ∀(i:Nat) row,rows[i]?=some row->∀(j:Nat) d,row[j]?=some d->∃x,vs[o+i*size+j]?=some x/\RdP S w x d
def uC:Value->Prop
 |.slice (some _) _ _=>False
 |_=>True
def Azz(x:Value):Pd->Prop
 |.v y=>x=y/\y.oneCell'=true/\uC y
 |.s r=>x=.slice none 0 0/\r=[]
def zOk(w:World)(e:TypeId)(size:Nat)(rows:List (List Pd))(h:Value):Prop:=
 (h=.slice none 0 0/\rows=[]) \/
  ∃b o cap vs,h=.slice (some ⟨b,o,none⟩) rows.length cap/\w.heap[b]?=some (.cells vs e (0,0))/\rows.length<=cap/\cap<=maxLen/\o+cap*size<=vs.size /\
   (∀row,row∈rows->row.length=size) /\
   ∀(i:Nat) row,rows[i]?=some row->∀(j:Nat) d,row[j]?=some d->∃x,vs[o+i*size+j]?=some x/\Azz x d
def H7(size:Nat)(hole:Option (Nat×Nat))(k:Nat):Prop:=∃p,hole=some p/\k=p.1*size+p.2
def Aj8(S:Nat->Prop)(w:World)(tys:List (TypeId×Nat))(j:Nat)(hl:Prop)(x:Value):Pd->Prop
 |.v y=>x=y/\y.oneCell'=true/\uC y
 |.s r=>x.oneCell'=true/\(¬hl->∃e s,tys[j]?=some (e,s)/\P4 S w e s r x)
def gOk(S:Nat->Prop)(w:World)(size:Nat)(tys:List (TypeId×Nat))(rows:List (List Pd))(hole:Option (Nat×Nat))(xs:Array Value):Prop:=
 (∀row,row∈rows->row.length=size)/\xs.size=rows.length*size /\
 (∀(i:Nat) row,rows[i]?=some row->∀(j:Nat) d,row[j]?=some d->∃x,xs[i*size+j]?=some x/\Aj8 S w tys j (H7 size hole (i*size+j)) x d) /\
 ∀(k1 k2:Nat) a1 n1 c1 a2 n2 c2,k1≠k2->¬H7 size hole k1->¬H7 size hole k2->xs[k1]?=some (.slice (some a1) n1 c1)->xs[k2]?=some (.slice (some a2) n2 c2)->a1.block≠a2.block
def vOk(S:Nat->Prop)(w:World)(ρ:eA)(e size:Nat)(cells:List D)(h:Value):Prop:=
 ∃b o len cap vs,h=.slice (some ⟨b,o,none⟩) len cap/\Blk w b vs e/\(cells.length=len*size/\0<size/\len<=cap/\cap<=maxLen/\o+cap*size<=vs.size) /\
  Ay (Rd S w ρ) ((vs.toList.drop o).take (len*size)) cells
def Res.ok0(S : Nat -> Prop)(w : World)(ρ : eA)(h : Value) : Res -> Prop
 |.box t cells=>∃b vs,h=.pointer (some ⟨b,0,none⟩)/\w.heap[b]?=some (.cells vs t (0,0))/\Ay (Rd S w ρ) vs.toList cells
 |.sl e size rows=>P4 S w e size rows h
 |.zsl e size rows=>zOk w e size rows h
 | .dsl e size g=>∃f xs cs,ρ[g]?=some (.func f xs cs)/\((h=.slice none 0 0/\xs.size=0) \/
   ∃b o len cap vs,h=.slice (some ⟨b,o,none⟩) len cap/\w.heap[b]?=some (.cells vs e (0,0))/\len<=cap/\cap<=maxLen/\o+cap*size<=vs.size/\xs.size=len*size /\
    ∀(k:Nat) x,xs[k]?=some x->vs[o+k]?=some x)
 |.gh size tys rows hole=>∃f xs cs,h=.func f xs cs/\gOk S w size tys rows hole xs
 |.non=>True
 |.vec e size cells=>vOk S w ρ e size cells h
def Res.ok(S:Nat->Prop)(w:World)(ρ:eA)(h:Value)(r:Res):Prop:=h.oneCell'=false\/r.ok0 S w ρ h
theorem Res.ok.live{S:Nat->Prop}{ρ:eA}{r:Res}(k:r.ok S w ρ h)(h1:h.oneCell'=true):r.ok0 S w ρ h:=by grind[Res.ok]
def D3(h:Value)(b:Nat):Prop:=match h with
 |.slice (some a) _ _=>a.block=b
 |_=>False
def Res.foot(h:Value)(r:Res)(b:Nat):Prop:=match r with
 |.box ..=>match h with
  |.pointer (some a)=>a.block=b
  |_=>False
 |.sl ..=>match h with
  |.slice (some a) _ _=>a.block=b
  |_=>False
 |.zsl ..=>D3 h b
 |.dsl ..=>D3 h b
 |.gh size _ _ hole=>match h with
  |.func _ xs _=>∃(k:Nat)(x:Value),xs[k]?=some x/\¬H7 size hole k/\D3 x b
  |_=>False
 |.non=>False
 |.vec ..=>D3 h b
section
variable{S S':Nat->Prop}{w w':World}{ρ ρ':eA}
variable{r:Res}
theorem dg(hd:h.oneCell'=false)(b:Nat):¬r.foot h b:=by intro hf;cases h <;> first|(cases r <;> exact hf)|cases hd
variable{rows:List (List Pd)}
theorem P4.mono{e:Nat}(k:P4 S w e size rows h)(hS:∀b,S b->S' b)(hw:∀b,S b->w'.heap[b]?=w.heap[b]?)
  (hf:∀b,D3 h b->w'.heap[b]?=w.heap[b]?):P4 S' w' e size rows h:=by
 rcases k with h0|⟨b,o,cap,vs,rfl,hb,h1,h2,h3,h4,h5⟩
 .exact .inl h0
 .refine .inr ⟨b,o,cap,vs,rfl,hb.mono (hf b rfl),h1,h2,h3,h4,λi row hi j d hj=>?_⟩;obtain⟨x,hx,hr⟩:=h5 i row hi j d hj;exact⟨x,hx,hr.mono hS hw⟩
theorem gOk.mono{tys:List (TypeId×Nat)}{hole:Option (Nat×Nat)}(k:gOk S w size tys rows hole xs)(hS:∀b,S b->S' b)(hw:∀b,S b->w'.heap[b]?=w.heap[b]?)
  (hf:∀b,(∃(k:Nat)(x:Value),xs[k]?=some x/\¬H7 size hole k/\D3 x b)->w'.heap[b]?=w.heap[b]?):gOk S' w' size tys rows hole xs:=by
 obtain⟨k1,k2,k3,k4⟩:=k;refine⟨k1,k2,λi row hi j d hj=>?_,k4⟩;obtain⟨x,hx,hg⟩:=k3 i row hi j d hj;refine⟨x,hx,?_⟩;cases d with
 |v y=>exact hg
 |s r=>refine⟨hg.1,λhn=>?_⟩;obtain⟨e,s,h1,h2⟩:=hg.2 hn;exact⟨e,s,h1,h2.mono hS hw λb hb=>hf b ⟨_,x,hx,hn,hb⟩⟩
theorem vOk.monoA{e:Nat}{cells:List D}(k:vOk S w ρ e size cells h)(hS:∀b,S b->S' b)(hw:∀b,S b->w'.heap[b]?=w.heap[b]?)(hρ:Ph ρ ρ')
  (hf:∀b,D3 h b->w'.heap[b]?=w.heap[b]?):vOk S' w' ρ' e size cells h:=by
 obtain⟨b,o,len,cap,vs,rfl,hb,hk,hc⟩:=k;exact⟨b,o,len,cap,vs,rfl,hb.mono (hf b rfl),hk,hc.mono λ_ _ h=>h.monoA hS hw hρ⟩
theorem Res.ok0.monoA(k:r.ok0 S w ρ h)(hS:∀b,S b->S' b)(hw:∀b,S b->w'.heap[b]?=w.heap[b]?)(hρ:Ph ρ ρ')
  (hf:∀b,r.foot h b->w'.heap[b]?=w.heap[b]?):r.ok0 S' w' ρ' h:=by
 cases r with
 |box t cells=>obtain⟨b,vs,rfl,hb,hc⟩:=k;exact⟨b,vs,rfl,by rw[hf b rfl];exact hb,hc.mono λ_ _ h=>h.monoA hS hw hρ⟩
 |sl e size rows=>exact P4.mono k hS hw λb hb=>hf b hb
 |zsl e size rows=>
  rcases k with h0|⟨b,o,cap,vs,rfl,hb,h1⟩
  .exact .inl h0
  .exact .inr ⟨b,o,cap,vs,rfl,by rw[hf b rfl];exact hb,h1⟩
 |dsl e size g=>
  obtain⟨f,xs,cs,hg,k⟩:=k;refine⟨f,xs,cs,hρ _ _ hg rfl,?_⟩;rcases k with h0|⟨b,o,len,cap,vs,rfl,hb,h1⟩
  .exact .inl h0
  .exact .inr ⟨b,o,len,cap,vs,rfl,by rw[hf b rfl];exact hb,h1⟩
 |gh size tys rows hole=>obtain⟨f,xs,cs,rfl,k⟩:=k;exact⟨f,xs,cs,rfl,k.mono hS hw λb hb=>hf b hb⟩
 |non=>trivial
 |vec e size cells=>exact vOk.monoA k hS hw hρ hf
theorem Res.ok.monoA(k:r.ok S w ρ h)(hS:∀b,S b->S' b)(hw:∀b,S b->w'.heap[b]?=w.heap[b]?)(hρ:Ph ρ ρ')
  (hf:∀b,r.foot h b->w'.heap[b]?=w.heap[b]?):r.ok S' w' ρ' h:=k.imp id λk=>k.monoA hS hw hρ hf
theorem Res.ok.mono(k:r.ok S w ρ h)(hS:∀b,S b->S' b)(hw:∀b,S b->w'.heap[b]?=w.heap[b]?)(hρ:Pre ρ ρ')
  (hf:∀b,r.foot h b->w'.heap[b]?=w.heap[b]?):r.ok S' w' ρ' h:=k.monoA hS hw hρ.a hf
end
structure Ctx where
 w:World
 S:Nat->Prop
 F:Nat->Prop
 h:eA
 df:List Deferred
def Qz:Nat->Option (List Pd):=(λg=>match g with|4=>some (([0,1,56,2,57,49,28,3,61,58,42,50,38,29,17,4,62,47,59,36,45,43,51,22,53,39,33,30,24,18,12,5,63,55,48,27,60,41,37,16,46,35,44,21,52,32,23,11,54,26,40,15,34,20,31,10,25,14,19,9,13,8,7,6]:ez).map λi=>Pd.v (.int .u8 i))|_=>none)
def A5j:Nat->Bool:=(λ_=>false)
def Tn(S:Nat->Prop)(w:World):Prop:=(∀(g:Nat) cells,Qz g=some cells->Fy S w ⟨g,0,none⟩ cells/\S g/\∃vs t fr,w.heap[g]?=some (.cells vs t fr)/\vs.size=cells.length) /\
 ∀g,A5j g=true->S g/\∃u p t fr,w.heap[g]?=some (.cells #[.iface u p] t fr)
variable{S:Nat->Prop}
theorem Tn.mono{S':Nat->Prop}{w':World}(h:Tn S w)(hS:∀b,S b->S' b)(hw:∀b,S b->w'.heap[b]?=w.heap[b]?):Tn S' w':=⟨λg cells hg=>by
 obtain⟨h1,h2,h3⟩:=h.1 g cells hg;exact⟨h1.mono hS hw,hS _ h2,by rw[hw _ h2];exact h3⟩,λg hg=>by
 obtain⟨h1,h2⟩:=h.2 g hg;grind⟩
def Aqg(C:Ctx):Prop:=∀d,d∈C.df->∃D,d={target:=.collected D,args:=#[]}/\D<C.w.heap.size/\¬C.F D/\¬C.S D/\C.w.heap[D]?=some (.deferred (some []))
def A9b(C:Ctx):Prop:=Tn C.S C.w/\(∀b,C.S b->b<C.w.heap.size/\¬C.F b)/\Aqg C
def drw:Bool:=false
def Tp(w w':World):Prop:=w'.tape=w.tape/\(drw=true->w.drawn<=w'.drawn)
theorem Tp.trans{a b c:World}(h:Tp b c)(k:Tp a b):Tp a c:=⟨h.1.trans k.1,λe=>ay (k.2 e) (h.2 e)⟩
structure Inv(C:Ctx)(S:Nat->Prop)(w:World)(ρ:eA)(R:List Res):Prop where
 len:ρ.length=R.length
 ok:∀(i:Nat) r h,R[i]?=some r->ρ[i]?=some h->r.ok S w ρ h
 dis:∀(i j:Nat) r r' h h' b,i≠j->R[i]?=some r->R[j]?=some r'->ρ[i]?=some h->ρ[j]?=some h'->r.foot h b->r'.foot h' b->False
 own:∀(i:Nat) r h b,R[i]?=some r->ρ[i]?=some h->r.foot h b->¬S b/\b<w.heap.size/\(C.F b\/C.w.heap.size<=b)
 sub:∀b,C.S b->S b
 sup:∀b,S b->b<w.heap.size/\(C.S b\/C.F b\/C.w.heap.size<=b)
 frm:∀b,b<C.w.heap.size->¬C.F b->w.heap[b]?=C.w.heap[b]?
 size:C.w.heap.size<=w.heap.size
 os:w.os=C.w.os
 tape:Tp C.w w
 output:w.output=C.w.output
 pre:Pre C.h ρ
 gl:A9b C
def Ei(ρ:eA)(R:List Res)(b:Nat):Prop:=∃(i:Nat)(r:Res)(h:Value),R[i]?=some r/\ρ[i]?=some h/\r.foot h b
structure Start(S:Nat->Prop)(w:World)(ρ:eA)(R:List Res):Prop where
 len:ρ.length=R.length
 ok:∀(i:Nat) r h,R[i]?=some r->ρ[i]?=some h->r.ok S w ρ h
 dis:∀(i j:Nat) r r' h h' b,i≠j->R[i]?=some r->R[j]?=some r'->ρ[i]?=some h->ρ[j]?=some h'->r.foot h b->r'.foot h' b->False
 own:∀(i:Nat) r h b,R[i]?=some r->ρ[i]?=some h->r.foot h b->¬S b/\b<w.heap.size
 sup:∀b,S b->b<w.heap.size
 gl:Tn S w
theorem Start.inv{ρ:eA}{R:List Res}(h:Start S w ρ R):Inv ⟨w,S,Ei ρ R,ρ,[]⟩ S w ρ R where
 len:=h.len
 ok:=h.ok
 dis:=h.dis
 own i r v b h1 h2 h3:=⟨(h.own i r v b h1 h2 h3).1,(h.own i r v b h1 h2 h3).2,.inl ⟨i,r,v,h1,h2,h3⟩⟩
 sub _ h:=h
 sup b hb:=⟨h.sup b hb,.inl hb⟩
 frm _ _ _:=rfl
 size:=ai _
 os:=rfl
 tape:=⟨rfl,λ_=>ai _⟩
 output:=rfl
 pre:=Pre.refl _
 gl:=⟨h.gl,λb hb=>⟨h.sup b hb,λ⟨i,r,v,h1,h2,h3⟩=>(h.own i r v b h1 h2 h3).1 hb⟩,λd hd=>by cases hd⟩
def CallOk(P:Program)(f:FuncId)(args:List AV)(R:List Res)(res:AV)(R2:List Res):Prop:=
 ∀(S:Nat->Prop)(w:World)(ρ:eA)(vs:eA),Start S w ρ R->Ay (RdA S w ρ) vs args ->
  Calls P f vs.toArray w λe w'=>∃v S' ρ',e=.returned v/\RdA S' w' ρ' v res/\Inv ⟨w,S,Ei ρ R,ρ,[]⟩ S' w' ρ' R2
section
variable{C:Ctx}{S S':Nat->Prop}{w w':World}{ρ ρ':eA}{R R2:List Res}
theorem Inv.grow(h:Inv C S w ρ R)(hS:∀b,S b->S' b)(hnew:∀b,S' b->S b\/w.heap.size<=b/\b<w'.heap.size)(hw:∀b,b<w.heap.size->w'.heap[b]?=w.heap[b]?)
  (hsz:w.heap.size<=w'.heap.size)(ho:w'.os=w.os)(ht:Tp w w')(hp:w'.output=w.output):Inv C S' w' ρ R where
 len:=h.len
 ok i r v h1 h2:=(h.ok i r v h1 h2).mono hS (λb hb=>hw b (h.sup b hb).1) (Pre.refl _) (λb hb=>hw b (h.own i r v b h1 h2 hb).2.1)
 dis:=h.dis
 own i r v b h1 h2 h3:=by obtain⟨k1,k2,k3⟩:=h.own i r v b h1 h2 h3;grind
 sub b hb:=hS b (h.sub b hb)
 sup b hb:=by
  rcases hnew b hb with hb|hb
  .obtain⟨k1,k2⟩:=h.sup b hb;grind
  .exact⟨hb.2,.inr (.inr (ay h.size hb.1))⟩
 frm b hb hf:=(hw b (aE hb h.size)).trans (h.frm b hb hf)
 size:=ay h.size hsz
 os:=ho.trans h.os
 tape:=ht.trans h.tape
 output:=hp.trans h.output
 pre:=h.pre
 gl:=h.gl
theorem Inv.glOk(h:Inv C S w ρ R):Tn S w:=h.gl.1.mono h.sub λb hb=>h.frm b (h.gl.2.1 b hb).1 (h.gl.2.1 b hb).2
end
end Go.SL
namespace Go.SL
variable{cs old:Array Value}{rows:List (List Pd)}{b e i size:Nat}{r:Res}{t:TypeId}{v:Value}
theorem Df(w:World)(g:Nat)(cs old:Array Value)(t:TypeId)(fr:Nat×Nat)(h:w.heap[g]?=some (.cells old t fr)) :
  (w.setRow g cs).heap[g]?=some (.cells cs t fr):=by
 simp[World.setRow,Array.getElem?_modify,h]
theorem Bg(w:World)(g k:Nat)(cs:Array Value)(h:k≠g):(w.setRow g cs).heap[k]?=w.heap[k]?:=by simp[World.setRow,Array.getElem?_modify,Ne.symm h]
variable{w:World}
theorem Jn{fr:Nat×Nat}(h:w.heap[b]?=some (.cells cs t fr))(j:Nat):w.cell? ⟨b,j,none⟩=cs[j]?:=
 cell_of_row w b j cs t fr h
theorem Blk.cell(h:Blk w b cs t)(j:Nat):w.cell? ⟨b,j,none⟩=cs[j]?:=by obtain⟨fr,h1,_⟩:=h;exact Jn h1 j
theorem Blk.put(h:Blk w b old t)(hs:cs.size=old.size):Blk (w.setRow b cs) b cs t:=by obtain⟨fr,h1,h2⟩:=h;exact⟨fr,Df _ _ _ _ _ _ h1,h2.1.imp id (λh=>by omega),h2.2⟩
section
variable{C:Ctx}{S S':Nat->Prop}{w w':World}{ρ ρ':eA}{R R2:List Res}
theorem D8{α:Type}{l:List α}{x y:α}(h:(l++[x])[i]?=some y):l[i]?=some y\/i=l.length/\y=x:=by grind
theorem Inv.push(h:Inv C S w ρ R)(r:Res)(v:Value)(hw:∀b,b<w.heap.size->w'.heap[b]?=w.heap[b]?)(hsz:w.heap.size<=w'.heap.size)
  (ho:w'.os=w.os)(ht:Tp w w')(hp:w'.output=w.output)(hok:r.ok S w' (ρ++[v]) v)
  (hf:∀b,r.foot v b->w.heap.size<=b/\b<w'.heap.size):Inv C S w' (ρ++[v]) (R++[r]) where
 len:=by simp[h.len]
 ok i r' v' h1 h2:=by
  rcases D8 h1 with h1|⟨rfl,rfl⟩
  .rcases D8 h2 with h2|⟨rfl,rfl⟩
   .exact(h.ok i r' v' h1 h2).mono (λ_ h=>h) (λb hb=>hw b (h.sup b hb).1) (Pre.append _ _) (λb hb=>hw b (h.own i r' v' b h1 h2 hb).2.1)
   .have:=(ac.1 h1).1;rw[h.len]at this;omega
  .rcases D8 h2 with h2|⟨_,rfl⟩
   .have:=(ac.1 h2).1;rw[h.len]at this;omega
   .exact hok
 dis i j r1 r2 v1 v2 b hij h1 h2 h3 h4 h5 h6:=by
  have key:∀(i:Nat) r1 v1,(R++[r])[i]?=some r1->(ρ++[v])[i]?=some v1->r1.foot v1 b->(R[i]?=some r1/\ρ[i]?=some v1/\b<w.heap.size)\/(i=R.length/\w.heap.size<=b):=by
   intro i r1 v1 h1 h3 h5;rcases D8 h1 with h1|⟨rfl,rfl⟩
   .rcases D8 h3 with h3|⟨rfl,rfl⟩
    .exact .inl ⟨h1,h3,(h.own i r1 v1 b h1 h3 h5).2.1⟩
    .have:=(ac.1 h1).1;rw[h.len]at this;omega
   .rcases D8 h3 with h3|⟨_,rfl⟩
    .have:=(ac.1 h3).1;rw[h.len]at this;omega
    .exact .inr ⟨rfl,(hf b h5).1⟩
  rcases key i r1 v1 h1 h3 h5 with⟨a1,a2,a3⟩|⟨a1,a2⟩
  .rcases key j r2 v2 h2 h4 h6 with⟨b1,b2,b3⟩|⟨b1,b2⟩
   .exact h.dis i j r1 r2 v1 v2 b hij a1 b1 a2 b2 h5 h6
   .omega
  grind
 own i r' v' b h1 h2 h3:=by
  rcases D8 h1 with h1|⟨rfl,rfl⟩
  .rcases D8 h2 with h2|⟨rfl,rfl⟩
   .obtain⟨k1,k2,k3⟩:=h.own i r' v' b h1 h2 h3;exact⟨k1,aE k2 hsz,k3⟩
   .have:=(ac.1 h1).1;rw[h.len]at this;omega
  .rcases D8 h2 with h2|⟨_,rfl⟩
   .have:=(ac.1 h2).1;rw[h.len]at this;omega
   .obtain⟨k1,k2⟩:=hf b h3;exact⟨λhb=>by have:=(h.sup b hb).1;omega,k2,.inr (ay h.size k1)⟩
 sub:=h.sub
 sup b hb:=⟨aE (h.sup b hb).1 hsz,(h.sup b hb).2⟩
 frm b hb hf:=(hw b (aE hb h.size)).trans (h.frm b hb hf)
 size:=ay h.size hsz
 os:=ho.trans h.os
 tape:=ht.trans h.tape
 output:=hp.trans h.output
 pre:=h.pre.trans (Pre.append _ _)
 gl:=h.gl
theorem Inv.put(h:Inv C S w ρ R){r':Res}(hi:R[i]?=some r)(hv:ρ[i]?=some v)(hb:r.foot v b)(hb':∀k,r'.foot v k->k=b)
  (hw:∀k,k≠b->w'.heap[k]?=w.heap[k]?)(hsz:w'.heap.size=w.heap.size)(ho:w'.os=w.os)(ht:Tp w w')(hp:w'.output=w.output)
  (hok:r'.ok S w' ρ v):Inv C S w' ρ (R.set i r'):=by
 obtain⟨o1,o2,o3⟩:=h.own i r v b hi hv hb;have hS:∀k,S k->w'.heap[k]?=w.heap[k]?:=λk hk=>hw k (λe=>o1 (e ▸ hk));have key:∀(j:Nat) r1 v1,(R.set i r')[j]?=some r1->ρ[j]?=some v1->(j=i/\r1=r'/\v1=v)\/(j≠i/\R[j]?=some r1):=by grind
 refine⟨by simp[h.len],?_,?_,?_,h.sub,?_,?_,by rw[hsz];exact h.size,ho.trans h.os,ht.trans h.tape,hp.trans h.output,h.pre,h.gl⟩
 .intro j r1 v1 h1 h2;rcases key j r1 v1 h1 h2 with⟨rfl,rfl,rfl⟩|⟨hj,h1⟩
  .exact hok
  .refine(h.ok j r1 v1 h1 h2).mono (λ_ h=>h) hS (Pre.refl _) (λk hk=>hw k (λe=>?_));subst e;exact h.dis j i r1 r v1 v k hj h1 hi h2 hv hk hb
 .intro j k r1 r2 v1 v2 c hjk h1 h2 h3 h4 h5 h6;rcases key j r1 v1 h1 h3 with⟨ej,er,ev⟩|⟨hj,g1⟩
  .rcases key k r2 v2 h2 h4 with⟨ek,er2,ev2⟩|⟨hk,g2⟩
   .exact hjk (ej.trans ek.symm)
   .subst er;subst ev;exact h.dis i k r r2 v1 v2 c (ba hk) hi g2 hv h4 (by rw[hb' c h5];exact hb) h6
  .rcases key k r2 v2 h2 h4 with⟨ek,er2,ev2⟩|⟨hk,g2⟩
   .subst er2;subst ev2;exact h.dis j i r1 r v1 v2 c hj g1 hi h3 hv h5 (by rw[hb' c h6];exact hb)
   .exact h.dis j k r1 r2 v1 v2 c hjk g1 g2 h3 h4 h5 h6
 .intro j r1 v1 c h1 h2 h3;rcases key j r1 v1 h1 h2 with⟨rfl,rfl,rfl⟩|⟨hj,h1⟩
  .grind
  .rw[hsz];exact h.own j r1 v1 c h1 h2 h3
 .intro c hc;rw[hsz];exact h.sup c hc
 .intro c hc hf;refine(hw c (λe=>?_)).trans (h.frm c hc hf);subst e;rcases o3 with o3|o3
  .exact hf o3
  .omega
theorem Inv.freeze(h:Inv C S w ρ R)(hi:R[i]?=some r)(hv:ρ[i]?=some v) :
  Inv C (λb=>S b\/r.foot v b) w ρ (R.set i .non):=by
 have key:∀(j:Nat) r1,(R.set i .non)[j]?=some r1->r1=.non\/(j≠i/\R[j]?=some r1):=by grind
 refine⟨by simp[h.len],?_,?_,?_,λb hb=>.inl (h.sub b hb),?_,h.frm,h.size,h.os,h.tape,h.output,h.pre,h.gl⟩
 .intro j r1 v1 h1 h2;rcases key j r1 h1 with rfl|⟨hj,h1⟩
  .exact .inr trivial
  .exact(h.ok j r1 v1 h1 h2).mono (λ_ h=>.inl h) (λ_ _=>rfl) (Pre.refl _) (λ_ _=>rfl)
 .intro j k r1 r2 v1 v2 c hjk h1 h2 h3 h4 h5 h6;rcases key j r1 h1 with rfl|⟨hj,h1⟩
  .simp[Res.foot]at h5
  .rcases key k r2 h2 with rfl|⟨hk,h2⟩
   .simp[Res.foot]at h6
   .exact h.dis j k r1 r2 v1 v2 c hjk h1 h2 h3 h4 h5 h6
 .intro j r1 v1 c h1 h2 h3;rcases key j r1 h1 with rfl|⟨hj,h1⟩
  .simp[Res.foot]at h3
  .obtain⟨k1,k2,k3⟩:=h.own j r1 v1 c h1 h2 h3;refine⟨λhc=>?_,k2,k3⟩;rcases hc with hc|hc
   .exact k1 hc
   .exact h.dis j i r1 r v1 v c hj h1 hi h2 hv h3 hc
 .intro c hc;rcases hc with hc|hc
  .obtain⟨k1,k2⟩:=h.sup c hc;exact⟨k1,k2.imp id (λk=>k)⟩
  .obtain⟨k1,k2,k3⟩:=h.own i r v c hi hv hc;exact⟨k2,.inr k3⟩
theorem Res.ok0.frozen(h:(Res.sl e size rows).ok0 S w ρ v) :
  RdP (λb=>S b\/(Res.sl e size rows).foot v b) w v (.s rows):=by
 rcases h with⟨rfl,rfl⟩|⟨b,o,cap,vs,rfl,hb,h1,h2,h3,h4,h5⟩
 .exact .s none ⟨0,0,none⟩ 0 0 [] (λ_ _=>undef) (ai _) (by simp[maxLen]) (λ_=>rfl) (by simp) (by simp) (by simp)
 .refine .s (some ⟨b,o,none⟩) ⟨b,o,none⟩ cap size rows (λi j=>vs.getD (o+i*size+j) undef) h1 h2 (by simp) h4 (λi row hi j d hj=>?_) (λi row hi j d hj=>?_)
  .obtain⟨x,hx,_⟩:=h5 i row hi j d hj;refine⟨rfl,.inr rfl,?_⟩;rw[Cn,hb.cell,←bg,hx];simp[ef,hx]
  .obtain⟨x,hx,hr⟩:=h5 i row hi j d hj;rw[bt,hx];exact hr.mono (λ_ h=>.inl h) (λ_ _=>rfl)
theorem zOk.frozen(h:zOk w e size rows v):RdP (λb=>S b\/D3 v b) w v (.s rows):=by
 rcases h with⟨rfl,rfl⟩|⟨b,o,cap,vs,rfl,hb,h1,h2,h3,h4,h5⟩
 .exact .s none ⟨0,0,none⟩ 0 0 [] (λ_ _=>undef) (ai _) (by simp[maxLen]) (λ_=>rfl) (by simp) (by simp) (by simp)
 .refine .s (some ⟨b,o,none⟩) ⟨b,o,none⟩ cap size rows (λi j=>vs.getD (o+i*size+j) undef) h1 h2 (by simp) h4 (λi row hi j d hj=>?_) (λi row hi j d hj=>?_)
  .obtain⟨x,hx,_⟩:=h5 i row hi j d hj;refine⟨rfl,.inr rfl,?_⟩;rw[Cn,Jn hb,←bg,hx];simp[ef,hx]
  .obtain⟨x,hx,hr⟩:=h5 i row hi j d hj;rw[bt,hx];cases d with
   |v y=>obtain⟨rfl,g,_⟩:=hr;exact .v _ g
   |s r=>obtain⟨rfl,rfl⟩:=hr;exact .s none ⟨0,0,none⟩ 0 0 [] (λ_ _=>undef) (ai _) (by simp[maxLen]) (λ_=>rfl) (by simp) (by simp) (by simp)
end
end Go.SL
namespace Go.SL
abbrev A_:=List (Nat×Bool)
structure Ent where
 t:Nat
 p:A_
 v:AV
 deriving Inhabited
inductive Cl where
 |call (f:FuncId) (args:List AV) (R:List Res) (res:AV) (R2:List Res) (pi:ey)
 |callB (f:FuncId) (args:List AV) (res:AV) (rows:List (List Pd)) (k:Nat) (rw:List Pd)
 |appD (rows:List (List Pd)) (k:Nat) (row:List Pd) (off:Nat) (rows1 rows2:List (List Pd)) (size:Nat) (n:Nat) (rows':List (List Pd))
 |updD (rows:List (List Pd)) (k0 k:Nat) (row row':List Pd) (rows':List (List Pd))
 |roomZ (n:Int) (rows rows':List (List Pd))
 |bnd (k:Nat) (lo hi hi2:Int)
 |bnd3 (k:Nat) (lo hi mx:Int)
 |appP (rows src:List (List Pd)) (size n m:Nat) (l rows':List (List Pd))
 |eqr (rows rows':List (List Pd))
 |cpy (src:List (List Pd)) (size n m:Nat) (rows rows':List (List Pd))
 |row (rows:List (List Pd)) (n:Int) (row:List Pd)
 |upd (rows:List (List Pd)) (k:Nat) (row row':List Pd) (rows':List (List Pd))
 |nz (n:Int)
 |len (k n:Int)
 |cut (rows:List (List Pd)) (size:Nat) (lo hi:Int) (rows':List (List Pd))
 |room (n:Int) (rows rows':List (List Pd))
 |app (rows1 rows2:List (List Pd)) (size:Nat) (n:Nat) (rows':List (List Pd))
 |own
 |byte (s:ByteArray) (n:Int) (b:UInt8)
 |fnv (x:Value) (g:FuncId)
 |idx (rows:List (List Pd)) (n:Int) (row:List Pd)
 |strb (rows:List (List Pd)) (s:ByteArray)
 |when (Fh:List (Bool×Bool)) (c:Cl)
 |whenR (Fh:List (Bool×Bool)) (c:Cl)
 |flts (rs:List Res)
 |flt (i:Nat) (r r':Res)
 |fltm (i:Nat) (c:Cl) (r r':Res)
 |nop
 deriving Inhabited
def Dd:List (Bool×Bool)->Prop
 | []=>True
 |(a,b)::r=>a=b/\Dd r
def Cl.keeps:Cl->Prop
 |.call _ _ R _ R2 pi=>R2.take pi.length=R
 |_=>False
def Dl(P:Program)(f:FuncId):Prop:=∀(args:Array Value)(w:World),(callFunc f args).run P w=.ok (.enter f args) w
def Cl.ok(P:Program):Cl->Prop
 |.call f args R res R2 _=>Dl P f/\CallOk P f args R res R2
 |.callB f args res rows k rw=>(Dl P f/\CallOk P f args [] res [])/\rows[k]?=some rw
 |.appD rows k l0 off rows1 rows2 size n rows'=>(rows[k]?=some l0/\l0[off]?=some (.s rows1))/\(n<=140737488355328/\(∀l,l∈rows2->l.length=size)/\rows1++rows2=rows')
 |.updD rows k0 k l l' rows'=>k0=k/\rows[k]?=some l/\rows.set k l'=rows'
 |.roomZ n rows rows'=>0<=n/\n<=140737488355328/\rows=rows'
 |.bnd k lo hi hi2=>0<=lo/\lo<=hi/\hi<=k/\hi=hi2
 |.bnd3 k lo hi mx=>0<=lo/\lo<=hi/\hi<=mx/\mx<=k
 |.appP rows src size n m l rows'=>(n+src.length=m/\m<=rows.length)/\(∀x,x∈src->x.length=size)/\l=rows'
 |.eqr rows rows'=>rows=rows'
 |.cpy src size n m rows rows'=>Nat.min src.length n=m/\(∀l,l∈src->l.length=size)/\rows=rows'
 |.row rows n l=>0<=n/\rows[n.toNat]?=some l
 |.upd rows k l l' rows'=>rows[k]?=some l/\rows.set k l'=rows'
 |.nz n=>n≠0
 |.len k n=>k=n
 |.cut rows size lo hi rows'=>0<=lo/\lo<=hi/\hi<=rows.length/\(∀l,l∈rows->l.length=size)/\(rows.take hi.toNat).drop lo.toNat=rows'
 |.room n rows rows'=>0<=n/\n<=140737488355328/\rows=rows'
 |.app rows1 rows2 size n rows'=>n<=140737488355328/\(∀l,l∈rows2->l.length=size)/\rows1++rows2=rows'
 |.own=>True
 |.byte s n b=>0<=n/\s.data[n.toNat]?=some b
 |.fnv x g=>x=.func (.func g) #[] #[]
 |.idx rows n l=>0<=n/\rows[n.toNat]?=some l
 |.strb rows s=>rows=s.data.toList.map λb=>[Pd.v (.int .u8 (b.toNat:Int))]
 |.when Fh c=>Dd Fh->c.ok P
 |.whenR Fh c=>(Dd Fh->c.ok P)/\(¬Dd Fh->c.keeps)
 |.flts _=>True
 |.flt _ r r'=>r=r'
 |.fltm _ c r r'=>c.ok P/\r=r'
 |.nop=>True
def Da(P:Program):List Cl->Prop
 | []=>True
 |c::r=>c.ok P/\Da P r
def Ds:List Ent->Nat->Option Ent
 | [],_=>none
 |e::r,t=>bif Nat.beq e.t t then some e else Ds r t
def G8:A_->A_->Bool
 | [],_=>true
 |(a,x)::p,(b,y)::q=>Nat.beq a b&&(x==y)&&G8 p q
 |_::_,[]=>false
def dOf(v:Value):Option D:=bif v.oneCell' then some (.p (.v v)) else none
def Fp:eA->Option (List D)
 | []=>some []
 |v::r=>match dOf v,Fp r with
  |some d,some ds=>some (d::ds)
  |_,_=>none
def L_:Value->Option AV
 |.agg cs=>(Fp cs.toList).map .agg
 |.tuple _=>none
 |v=>(dOf v).map .d
def look(L:List Ent)(cur:A_):Operand->Option AV
 |.const v=>L_ v
 |.tmp t=>match Ds L t with
  |some e=>bif G8 e.p cur then some e.v else none
  |none=>none
 |.func f=>some (.d (.fn (.func f) [] []))
 |.global _=>none
def D.norm:D->D
 |.p (.v (.slice none 0 0))=>.p (.s [])
 |d=>d
def AV.norm:AV->AV
 |.d x=>.d x.norm
 |.agg ds=>.agg (ds.map D.norm)
 |.tup l=>.tup l
def Oy:TypeDesc->Bool
 |.struct _|.array _ _=>true
 |_=>false
def Rz(P:Program)(t:TypeId):Option Bool:=(P.underlying t).map Oy
def A8(P:Program)(t:TypeId):Option Nat:=(P.info? t).map (·.size)
def Dn(P:Program)(t:TypeId):Option Value:=(P.info? t).bind (·.zero)
def G9:AV->Option (List D)
 |.d x=>some [x]
 |.agg ds=>some ds
 |.tup _=>none
def Gr(P:Program)(t:TypeId)(ds:List D):Option AV:=
 match Rz P t,A8 P t with
 |some true,some n=>bif Nat.beq ds.length n then some (.agg ds) else none
 |some false,some 1=>match ds with
  | [d]=>some (.d d)
  |_=>none
 |_,_=>none
def Ik(cells:List D)(off:Nat)(ds:List D):List D:=cells.take off++(ds++cells.drop (off+ds.length))
def H5(places:List (Nat×Nat)):List D->List (Nat×List D)->Option (List D)
 |cells,[]=>some cells
 |cells,(i,ds)::r=>match places[i]? with
  |some (off,size)=>bif Nat.beq ds.length size&&Nat.ble (off+ds.length) cells.length then H5 places (Ik cells off ds) r else none
  |none=>none
def Qi(k:IntKind)(a b:Int):Int:=k.wrap (BitVec.ofInt k.bits a &&& BitVec.ofInt k.bits b).toNat
def orI(k:IntKind)(a b:Int):Int:=k.wrap (BitVec.ofInt k.bits a ||| BitVec.ofInt k.bits b).toNat
def Ar0(k:IntKind)(a b:Int):Int:=k.wrap (BitVec.ofInt k.bits a ^^^ BitVec.ofInt k.bits b).toNat
def I_(k:IntKind)(a:Int)(n:Nat):Int:=a.fdiv (2 ^ min n k.bits)
def A32(k:IntKind)(a:Int)(n:Nat):Int:=k.wrap (a*2 ^ min n k.bits)
def bin(op:BinOp)(x y:Value):Option Value:=
 match op,x,y with
 |.and,.int k a,.int k' b=>if k=k' then some (.int k (Qi k a b)) else none
 |.or,.int k a,.int k' b=>if k=k' then some (.int k (orI k a b)) else none
 |.xor,.int k a,.int k' b=>if k=k' then some (.int k (Ar0 k a b)) else none
 |.shr,.int k a,.int _ (.ofNat n)=>some (.int k (I_ k a n))
 |.shl,.int k a,.int _ (.ofNat n)=>some (.int k (A32 k a n))
 |.add,.int k a,.int k' b=>if k=k' then some (.int k (k.wrap (a+b))) else none
 |.sub,.int k a,.int k' b=>if k=k' then some (.int k (k.wrap (a-b))) else none
 |.mul,.int k a,.int k' b=>if k=k' then some (.int k (k.wrap (a*b))) else none
 |.eql,.int k a,.int k' b=>if k=k' then some (.bool (a==b)) else none
 |.neq,.int k a,.int k' b=>if k=k' then some (.bool (a != b)) else none
 |.lss,.int k a,.int k' b=>if k=k' then some (.bool (decide (a<b))) else none
 |.leq,.int k a,.int k' b=>if k=k' then some (.bool (decide (a<=b))) else none
 |.gtr,.int k a,.int k' b=>if k=k' then some (.bool (decide (a>b))) else none
 |.geq,.int k a,.int k' b=>if k=k' then some (.bool (decide (a>=b))) else none
 |.eql,.string a,.string b=>some (.bool (a.toList==b.toList))
 |.neq,.string a,.string b=>some (.bool !(a.toList==b.toList))
 |_,_,_=>none
def Ald(op:BinOp)(x y:Value):Option Value:=
 match op,x,y with
 |.eql,.bool a,.bool b=>some (.bool (a==b))
 |.neq,.bool a,.bool b=>some (.bool !(a==b))
 |_,_,_=>none
def Ad4(a b:ByteArray):Int:=bif decide (((a.size+b.size:Nat):Int)<=9223372036854775807)then 1 else 0
def Alc(op:BinOp)(x y:Value):Option (Value×Int):=
 match op,x,y with
 |.quo,.int k a,.int k' b=>if k=k' then some (.int k (k.wrap (a.tdiv b)),b) else none
 |.rem,.int k a,.int k' b=>if k=k' then some (.int k (a.tmod b),b) else none
 |.add,.string a,.string b=>some (.string (a++b),Ad4 a b)
 |_,_,_=>none
def un(op:UnOp)(x:Value):Option Value:=
 match op,x with
 |.neg,.int k n=>some (.int k (k.wrap (0-n)))
 |.not,.bool b=>some (.bool !b)
 |_,_=>none
def By:AV->Option Value
 |.d (.p (.v x))=>some x
 |_=>none
def O3:List AV->Option eA
 | []=>some []
 |a::r=>match By a,O3 r with
  |some x,some xs=>some (x::xs)
  |_,_=>none
def ofV(v:Value):AV:=.d (.p (.v v))
def Mn:AV->Option Bool
 |.d (.p (.v (.bool b)))=>some b
 |_=>none
def Acv:Int->eA->Option Int
 |m,[]=>some m
 |m,x::r=>match x with
  |.int .i64 y=>Acv (max m y) r
  |_=>none
def Acr:Int->eA->Option Int
 |m,[]=>some m
 |m,x::r=>match x with
  |.int .i64 y=>Acr (min m y) r
  |_=>none
mutual
def D.ren(f:Nat->Option Nat):D->Option D
 |.p x=>some (.p x)
 |.o i off=>match f i with
  |some j=>some (.o j off)
  |none=>none
 |.os i=>match f i with
  |some j=>some (.os j)
  |none=>none
 |.oe i k size off=>match f i with
  |some j=>some (.oe j k size off)
  |none=>none
 |.osb i lo n size=>match f i with
  |some j=>some (.osb j lo n size)
  |none=>none
 |.oi i g k size off=>match f i,f g with
  |some j,some q=>some (.oi j q k size off)
  |_,_=>none
 |.ip cells=>some (.ip cells)
 |.fn g a b=>match D.renL f a,D.renL f b with
  |some a',some b'=>some (.fn g a' b')
  |_,_=>none
 |.fb g ps=>some (.fb g ps)
 |.any=>some .any
 |.nq rows=>some (.nq rows)
def D.renL(f:Nat->Option Nat):List D->Option (List D)
 | []=>some []
 |d::r=>match D.ren f d,D.renL f r with
  |some d',some r'=>some (d'::r')
  |_,_=>none
end
mutual
def AV.ren(f:Nat->Option Nat):AV->Option AV
 |.d x=>match x.ren f with
  |some y=>some (.d y)
  |none=>none
 |.agg ds=>match D.renL f ds with
  |some es=>some (.agg es)
  |none=>none
 |.tup l=>match AV.renL f l with
  |some m=>some (.tup m)
  |none=>none
def AV.renL(f:Nat->Option Nat):List AV->Option (List AV)
 | []=>some []
 |a::r=>match AV.ren f a,AV.renL f r with
  |some a',some r'=>some (a'::r')
  |_,_=>none
end
def Res.ren(f:Nat->Option Nat):Res->Option Res
 |.box t cells=>match D.renL f cells with
  |some cs=>some (.box t cs)
  |none=>none
 |.sl e size rows=>some (.sl e size rows)
 |.zsl e size rows=>some (.zsl e size rows)
 |.dsl e size g=>match f g with
  |some q=>some (.dsl e size q)
  |none=>none
 |.gh size tys rows hole=>some (.gh size tys rows hole)
 |.non=>some .non
 |.vec e s cells=>match D.renL f cells with
  |some cs=>some (.vec e s cs)
  |none=>none
def Ht(f:Nat->Option Nat):List Res->Option (List Res)
 | []=>some []
 |r::l=>match r.ren f,Ht f l with
  |some r',some l'=>some (r'::l')
  |_,_=>none
def D4:ey->Nat->Option Nat
 | [],_=>none
 |a::r,i=>bif Nat.beq a i then some 0 else match D4 r i with
  |some j=>some (j+1)
  |none=>none
def Fw:ey->Bool
 | []=>true
 |a::r=>(D4 r a).isNone&&Fw r
def I2(R:List Res):ey->Option (List Res)
 | []=>some []
 |i::r=>match R[i]?,I2 R r with
  |some x,some xs=>some (x::xs)
  |_,_=>none
def Gx(pi:ey)(n:Nat)(j:Nat):Option Nat:=
 match pi[j]? with
 |some i=>some i
 |none=>some (n+(j-pi.length))
def Fx:List Res->ey->List Res->List Res
 |R,i::pi,r::l=>Fx (R.set i r) pi l
 |R,_,_=>R
structure Out where
 v:AV
 R:List Res
 c:Option Cl
 deriving Inhabited
def Cm{α:Type}(size:Nat):Nat->List α->List (List α)
 |0,_=>[]
 |n+1,l=>l.take size::Cm size n (l.drop size)
def Qn(R:List Res):D->Option Pd
 |.p x=>some x
 |.os i=>match R[i]? with
  |some (.sl _ _ rows)=>some (.s rows)
  |some (.zsl _ _ rows)=>some (.s rows)
  |_=>none
 |_=>none
def Iq(R:List Res):List D->Option (List Pd)
 | []=>some []
 |d::r=>match Qn R d,Iq R r with
  |some x,some l=>some (x::l)
  |_,_=>none
def Yt(R:List Res)(s:Nat)(cells:List D):Option Pd:=(Iq R cells).map λps=>.s (Cm s (cells.length / s) ps)
def Ij(R:List Res):D->Option Pd
 |.p x=>some x
 |.os i=>match R[i]? with
  |some (.sl _ _ rows)=>some (.s rows)
  |some (.zsl _ _ rows)=>some (.s rows)
  |some (.vec _ s cells)=>Yt R s cells
  |_=>none
 |_=>none
def Ir(R:List Res):List D->Option (List Pd)
 | []=>some []
 |d::r=>match Ij R d,Ir R r with
  |some x,some l=>some (x::l)
  |_,_=>none
mutual
def D.view(R:List Res)(rw:List Pd):D->Option D
 |.p x=>some (.p x)
 |.ip c=>some (.ip c)
 |.os i=>match R[i]? with
  |some (.sl _ _ rows)=>some (.p (.s rows))
  |some (.zsl _ _ rows)=>some (.p (.s rows))
  |some (.vec _ s cells)=>(Yt R s cells).map .p
  |_=>none
 | .o i off=>match R[i]? with
  |some (.box _ cells)=>match Ir R cells with
   |some ps=>some (.ip (ps.drop off))
   |none=>none
  |_=>none
 |.oe _ _ _ _=>none
 |.osb i lo n size=>match R[i]? with
  |some (.sl _ s rows)=>bif Nat.beq s size then some (.p (.s ((rows.drop lo).take n))) else none
  |_=>none
 | .oi _ g _ size off=>match R[g]? with
  |some (.gh s _ _ none)=>bif Nat.beq s size&&Nat.blt off s then match rw[off]? with
   |some (.s r)=>some (.p (.s r))
   |_=>none
   else none
  |_=>none
 |.fn g a b=>match D.viewL R rw a,D.viewL R rw b with
  |some a',some b'=>some (.fn g a' b')
  |_,_=>none
 |.fb g ps=>some (.fb g ps)
 |.any=>some .any
 |.nq rows=>some (.nq rows)
def D.viewL(R:List Res)(rw:List Pd):List D->Option (List D)
 | []=>some []
 |d::r=>match D.view R rw d,D.viewL R rw r with
  |some d',some r'=>some (d'::r')
  |_,_=>none
end
def AV.view(R:List Res)(rw:List Pd):AV->Option AV
 |.d x=>match x.view R rw with
  |some y=>some (.d y)
  |none=>none
 |.agg ds=>match D.viewL R rw ds with
  |some es=>some (.agg es)
  |none=>none
 |.tup _=>none
def AV.viewL(R:List Res)(rw:List Pd):List AV->Option (List AV)
 | []=>some []
 |a::r=>match AV.view R rw a,AV.viewL R rw r with
  |some a',some r'=>some (a'::r')
  |_,_=>none
def D.flat:D->Bool
 |.p (.v _)=>true
 |_=>false
mutual
def AV.flat:AV->Bool
 |.d x=>x.flat
 |.agg ds=>ds.all D.flat
 |.tup l=>dD l
def dD:List AV->Bool
 | []=>true
 |a::r=>a.flat&&dD r
end
mutual
def D.ois:D->List (Nat×Nat)
 |.oi _ g k _ _=>[(g,k)]
 |.fn _ a b=>dl a++dl b
 |_=>[]
def dl:List D->List (Nat×Nat)
 | []=>[]
 |d::r=>D.ois d++dl r
end
def AV.ois:AV->List (Nat×Nat)
 |.d x=>x.ois
 |.agg ds=>dl ds
 |.tup _=>[]
def oisL:List AV->List (Nat×Nat)
 | []=>[]
 |a::r=>a.ois++oisL r
def A4c:FuncId->Bool:=(λf=>Nat.beq f 263 || (Nat.beq f 404 || Nat.beq f 501))
def nrm(f:FuncId)(args:List AV):List AV:=bif A4c f then args else args.map AV.norm
def Cx(R : List Res)(args : List AV)(f : FuncId) : Cl -> Option Out
 | .callB f' _ res _ _ rw=>bif Nat.beq f f'&&res.flat then
   match oisL args with
   | []=>match AV.viewL R [] (args.map AV.norm) with
    |some args'=>some ⟨res,R,some (.callB f args' res [[]] 0 [])⟩
    |none=>none
   | [(g,k)]=>match R[g]?,AV.viewL R rw (args.map AV.norm) with
    |some (.gh _ _ rows none),some args'=>some ⟨res,R,some (.callB f args' res rows k rw)⟩
    |_,_=>none
   |_=>none
  else none
 | .call f' _ _ res R2 pi=>
  bif Nat.beq f f'&&Fw pi&&Nat.ble pi.length R2.length then
   match AV.renL (D4 pi) (nrm f args),I2 R pi with
   |some args',some Rp=>match Ht (D4 pi) Rp,res.ren (Gx pi R.length),Ht (Gx pi R.length) R2 with
    |some Rp',some res',some R2'=>some ⟨res',Fx R pi R2'++R2'.drop pi.length,some (.call f args' Rp' res R2 pi)⟩
    |_,_,_=>none
   |_,_=>none
  else none
 |_=>none
def Cf(L:List Ent)(cur:A_):List Operand->Option (List AV)
 | []=>some []
 |x::r=>match look L cur x,Cf L cur r with
  |some a,some l=>some (a::l)
  |_,_=>none
def H_(L:List Ent)(cur:A_):List (Nat×Operand)->Option (List (Nat×List D))
 | []=>some []
 |(i,x)::r=>match (look L cur x).bind G9,H_ L cur r with
  |some a,some l=>some ((i,a)::l)
  |_,_=>none
def L5(P:Program)(s:TypeId)(f:Nat):Option (Nat×TypeId):=
 match P.underlying s with
 |some (.struct fields)=>match fields[f]? with
  |some x=>some (x.offset,x.type)
  |none=>none
 |_=>none
def Kn(P:Program):List Field->Option (List (Nat×Nat))
 | []=>some []
 |f::r=>match A8 P f.type,Kn P r with
  |some n,some l=>some ((f.offset,n)::l)
  |_,_=>none
def Kc(R:List Res):List AV->Option Int
 | [.d (.p (.s rows))]=>some rows.length
 | [.d (.p (.v (.slice none 0 _)))]=>some 0
 | [.d (.os i)]=>match R[i]? with
  |some (.sl _ _ rows)=>some rows.length
  |some (.dsl _ s g)=>match R[g]? with
   |some (.gh s2 _ rows _)=>bif Nat.beq s s2&&Nat.blt 0 s then some rows.length else none
   |_=>none
  |some (.vec _ s cells)=>some ((cells.length / s:Nat):Int)
  |_=>none
 | [.d (.osb _ _ n _)]=>some n
 |_=>none
def Zm:List AV->Option Int
 | [.d (.p (.v (.string s)))]=>some s.size
 |_=>none
def Aty(b:Builtin)(l:List AV):Option Int:=
 match O3 l with
 |some (.int .i64 x::r)=>match b with
  |.max=>Acv x r
  |.min=>Acr x r
  |_=>none
 |_=>none
def Gj(ops : Array Oper)(L : List Ent)(o : Oper) : Option A_ :=
 match o.guard with
 |none=>some []
 | some (j,want)=>match (ops[j]?).bind (·.dst) with
  |none=>none
  | some t=>match Ds L t with
   |some e=>match Mn e.v with
    |some _=>some (e.p++[(t,want)])
    |none=>none
   |none=>none
def Fh(L:List Ent):A_->Option (List (Bool×Bool))
 | []=>some []
 | (t,want)::p=>match Ds L t with
  |some e=>match Mn e.v,Fh L p with
   |some c,some l=>some ((c,want)::l)
   |_,_=>none
  |none=>none
def uJ:Operand->Bool
 |.const (.bool b)=>b
 |_=>false
def X3:Operand->Bool
 |.const (.bool b)=>!b
 |_=>false
def Zj(L : List Ent)(cur : A_)(c a b : Operand) : Option AV :=
 match c with
 | .tmp t=>match (look L cur (.tmp t)).bind Mn with
  | some x=>
   bif uJ a then match (look L (cur++[(t,false)]) b).bind Mn with
    |some y=>some (ofV (.bool (x || y)))
    |none=>none
   else bif X3 b then match (look L (cur++[(t,true)]) a).bind Mn with
    |some y=>some (ofV (.bool (x&&y)))
    |none=>none
   else none
  |none=>none
 |_=>none
def uT(P : Program)(same : TypeId -> AV -> AV -> Option Bool) : List Field -> List D -> List D -> Option Bool
 | [],_,_=>some true
 | f :: fs, ds, es => bif f.name == "_" then uT P same fs ds es else match A8 P f.type with
  | some n=>match Gr P f.type ((ds.drop f.offset).take n),Gr P f.type ((es.drop f.offset).take n) with
   |some a,some b=>match same f.type a b,uT P same fs ds es with
    |some r,some q=>some (r&&q)
    |_,_=>none
   |_,_=>none
  |none=>none
def eqA(P:Program):Nat->TypeId->AV->AV->Option Bool
 |0,_,_,_=>none
 | m+1,t,a,b=>match P.underlying t with
  |some .bool=>match a,b with
   |.d (.p (.v (.bool x))),.d (.p (.v (.bool y)))=>some (x==y)
   |_,_=>none
  |some (.int _)=>match a,b with
   |.d (.p (.v (.int k x))),.d (.p (.v (.int k' y)))=>if k=k' then some (x==y) else none
   |_,_=>none
  |some .string=>match a,b with
   |.d (.p (.v (.string x))),.d (.p (.v (.string y)))=>some (x.toList==y.toList)
   |_,_=>none
  |some (.struct fs)=>match a,b with
   |.agg ds,.agg es=>bif P.stoodInHeld t then none else uT P (eqA P m) fs.toList ds es
   |_,_=>none
  |_=>none
def Aa1(P:Program)(L:List Ent)(cur:A_)(R:List Res)(b:BinOp)(t:TypeId)(x y:Operand):Option (AV×Option Cl):=
 match look L cur x,look L cur y with
 |some (.d (.p (.s rows))),some (.d (.p (.v (.slice none 0 0))))=>match b,P.underlying t with
  |.eql,some (.slice _)=>some (.d (.nq rows),none)
  |_,_=>none
 |some (.d (.os i)),some (.d (.p (.v (.slice none 0 0))))=>match b,P.underlying t,R[i]? with
  |.eql,some (.slice _),some (.sl _ _ rows)=>some (.d (.nq rows),none)
  |_,_,_=>none
 |some (.agg ds),some (.agg es)=>bif P.eqGuardType P.depth t then none else match b with
  |.eql=>(eqA P 100 t (.agg ds) (.agg es)).map λz=>(ofV (.bool z),none)
  |.neq=>(eqA P 100 t (.agg ds) (.agg es)).map λz=>(ofV (.bool !z),none)
  |_=>none
 |_,_=>none
def Jm(i g k size:Nat):Nat->List Pd->List D
 |_,[]=>[]
 |off,.v x::r=>.p (.v x)::Jm i g k size (off+1) r
 |off,.s _::r=>.oi i g k size off::Jm i g k size (off+1) r
def fnV(P:Program)(t:TypeId)(c:Cl)(v:AV):Option (AV×Option Cl):=
 match v,c,P.underlying t with
 |.d (.p (.v y)),.fnv _ g,some (.func _ _ _)=>some (.d (.fn (.func g) [] []),some (.fnv y g))
 |v,_,_=>some (v,none)
def Q5(P:Program)(L:List Ent)(cur:A_)(R:List Res)(c:Cl)(t:TypeId)(x:Operand):Option (AV×Option Cl):=
 match look L cur x,A8 P t with
 |some (.d (.o i off)),some n=>match R[i]? with
  |some (.box _ cells)=>(Gr P t ((cells.drop off).take n)).bind (fnV P t c)
  |_=>none
 |some (.d (.ip cells)),some n=>(Gr P t ((cells.take n).map D.p)).map λv=>(v,none)
 | some (.d (.oe i k size off)),some n=>match R[i]?,c with
  |some (.sl _ s rows),.row _ _ row=>bif Nat.beq s size then (Gr P t (((row.drop off).take n).map D.p)).map λv=>(v,some (.row rows k row)) else none
  |some (.dsl _ s g),.row _ _ row=>match R[g]? with
   |some (.gh s2 _ rows none)=>bif Nat.blt 0 s&&(Nat.beq s size&&Nat.beq s s2)then (Gr P t (Jm i g k size off ((row.drop off).take n))).map λv=>(v,some (.row rows k row)) else none
   |_=>none
  |some (.vec _ _ cells),_=>(Gr P t ((cells.drop (k*size+off)).take n)).map λv=>(v,none)
  |_,_=>none
 |_,_=>none
def O6(L:List Ent)(cur:A_):Operand->Option AV
 |.global g=>(Qz g).map λcells=>.d (.ip cells)
 |x=>look L cur x
def Zn(P:Program)(L:List Ent)(cur:A_)(R:List Res)(c:Cl)(t:TypeId)(x i:Operand):Option (AV×Option Cl):=
 match P.underlying t,O6 L cur x,(look L cur i).bind By with
 | some (.slice e),some (.d (.p (.s rows))),some (.int _ n)=>match c with
  |.row _ _ row=>match A8 P e with
   |some (k+1)=>bif Nat.beq row.length (k+1)then some (.d (.ip row),some (.row rows n row)) else none
   |_=>none
  |_=>none
 | some (.slice e),some (.d (.os j)),some (.int _ n)=>match R[j]?,c with
  |some (.sl _ s rows),.row _ _ row=>match A8 P e with
   |some (k+1)=>bif Nat.beq s (k+1)then some (.d (.oe j n.toNat (k+1) 0),some (.row rows n row)) else none
   |_=>none
  |some (.dsl _ s g),.row _ _ row=>match A8 P e,R[g]? with
   |some (k+1),some (.gh s2 _ rows _)=>bif Nat.beq s (k+1)&&Nat.beq s s2 then some (.d (.oe j n.toNat (k+1) 0),some (.row rows n row)) else none
   |_,_=>none
  |some (.vec _ s cells),_=>match A8 P e with
   |some (k+1)=>bif Nat.beq s (k+1)then some (.d (.oe j n.toNat (k+1) 0),some (.bnd (cells.length / (k+1)) n (n+1) (n+1))) else none
   |_=>none
  |_,_=>none
 | some (.slice e),some (.d (.osb j lo m s2)),some (.int _ n)=>match R[j]?,c with
  |some (.sl _ s rows),.row _ _ row=>match A8 P e with
   |some (k+1)=>bif (Nat.beq s (k+1)&&Nat.beq s2 (k+1))&&(decide (0<=n)&&Nat.blt n.toNat m)then some (.d (.oe j (lo+n.toNat) (k+1) 0),some (.row rows ((lo:Int)+n) row)) else none
   |_=>none
  |_,_=>none
 |some (.array m e),some (.d (.o j off)),some (.int _ (.ofNat k))=>match A8 P e with
  |some s=>bif Nat.blt k m then some (.d (.o j (off+k*s)),none) else none
  |_=>none
 |some (.array m e),some (.d (.ip cells)),some (.int _ (.ofNat k))=>match A8 P e with
  |some s=>bif Nat.blt k m then some (.d (.ip (cells.drop (k*s))),none) else none
  |_=>none
 |some (.slice _),some (.d (.p (.v (.slice none 0 0)))),some (.int _ n)=>match c with
  |.row _ _ row=>some (.d (.ip row),some (.row [] n row))
  |_=>none
 |_,_,_=>none
def dP:D->Option Pd
 |.p x=>some x
 |.fn f [] []=>some (.v (.func f #[] #[]))
 |_=>none
def dPs:List D->Option (List Pd)
 | []=>some []
 |d::r=>match dP d,dPs r with
  |some x,some l=>some (x::l)
  |_,_=>none
def Adp(P:Program)(n:Nat)(e:TypeId)(ds:List D)(k:Int)(row:List Pd):Option (AV×Option Cl):=
 match A8 P e,dPs ds with
 |some (s+1),some ps=>bif Nat.beq ps.length (n*(s+1))then (Gr P e (row.map D.p)).map λv=>(v,some (.idx (Cm (s+1) n ps) k row)) else none
 |_,_=>none
def Aaw:Cl->Option (List Pd)
 |.idx _ _ row=>some row
 |_=>none
def U7(P:Program)(L:List Ent)(cur:A_)(R:List Res)(c:Cl)(s d:TypeId)(x:Operand):Option (AV×Option Cl):=
 match P.underlying s,P.underlying d,c with
 | some (.slice e),some .string,.strb _ b=>match P.underlying e,look L cur x with
  |some (.int .u8),some (.d (.os i))=>match R[i]? with
   |some (.sl _ z rows)=>bif Nat.beq z 1 then some (ofV (.string b),some (.strb rows b)) else none
   |_=>none
  |some (.int .u8),some (.d (.p (.s rows)))=>some (ofV (.string b),some (.strb rows b))
  |_,_=>none
 |_,_,_=>none
def Cg(P : Program)(L : List Ent)(cur : A_)(R : List Res)(c : Cl)(op : Op) : Option (AV × Option Cl) :=
 match op with
 |.move x|.assign x=>(look L cur x).map λv=>(v,none)
 |.pick k a b=>(Zj L cur k a b).map λv=>(v,none)
 | .build t parts=>match (Dn P t).bind λz=>Fp z.cells.toList,P.underlying t,H_ L cur parts.toList with
  |some zs,some (.struct fields),some ps=>match (Kn P fields.toList).bind λpl=>H5 pl zs ps with
   |some ds=>some (.agg ds,none)
   |none=>none
  | some zs,some (.array n e),some ps=>match A8 P e with
   |some s=>match H5 ((List.range n).map λi=>(i*s,s)) zs ps with
    |some ds=>some (.agg ds,none)
    |none=>none
   |none=>none
  |_,_,_=>none
 |.load t (.global g)=>match Qz g,A8 P t with
  |some cells,some n=>(Gr P t ((cells.take n).map D.p)).map λv=>(v,none)
  |_,_=>none
 |.load t x=>Q5 P L cur R c t x
 |.nilCheck x=>match look L cur x with
  |some (.d (.o i off))=>some (.d (.o i off),none)
  |some (.d (.oe i k s off))=>some (.d (.oe i k s off),none)
  |some (.d (.ip cells))=>some (.d (.ip cells),none)
  |_=>none
 | .binOp b t x y _=>match (look L cur x).bind By,(look L cur y).bind By with
  | some u,some v=>match bin b u v with
   |some z=>some (ofV z,none)
   | none=>match Alc b u v with
    |some (z,n)=>some (ofV z,some (.nz n))
    |none=>match P.underlying t with
     |some .bool=>(Ald b u v).map λz=>(ofV z,none)
     |_=>none
  |_,_=>Aa1 P L cur R b t x y
 |.unOp u _ x=>match (look L cur x).bind By with
  |some v=>(un u v).map λz=>(ofV z,none)
  |none=>none
 |.convert s d x=>match P.underlying s,P.underlying d,(look L cur x).bind By with
  |some (.int _),some (.int k),some (.int _ n)=>some (ofV (.int k (k.wrap n)),none)
  |_,_,_=>U7 P L cur R c s d x
 | .makeFunc f first caps=>match Cf L cur first.toList,Cf L cur caps.toList with
  | some a,some b=>match (a.mapM fun|.d x=>some x|_=>none),(b.mapM fun|.d x=>some x|_=>none) with
   |some a',some b'=>some (.d (.fn f a' b'),none)
   |_,_=>match a,b with
    | [.agg ds],[]=>(dPs ds).map λps=>(.d (.fb f ps),none)
    |_,_=>none
  |_,_=>none
 | .fieldAddr s x f=>match look L cur x,L5 P s f with
  |some (.d (.o i off)),some (k,ft)=>match A8 P ft with
   |some (_+1)=>some (.d (.o i (off+k)),none)
   |_=>none
  |some (.d (.ip cells)),some (k,ft)=>match A8 P ft with
   |some (_+1)=>some (.d (.ip (cells.drop k)),none)
   |_=>none
  |some (.d (.oe i r size off)),some (k,ft)=>match A8 P ft with
   |some (_+1)=>some (.d (.oe i r size (off+k)),none)
   |_=>none
  |_,_=>none
 | .field s x f=>match look L cur x,L5 P s f with
  |some (.agg ds),some (k,ft)=>match A8 P ft with
   |some n=>(Gr P ft ((ds.drop k).take n)).map λv=>(v,none)
   |none=>none
  |_,_=>none
 |.indexAddr t x i=>Zn P L cur R c t x i
 | .index t x i=>match P.underlying t,look L cur x,(look L cur i).bind By with
  | some (.array n e),some (.agg ds),some (.int _ kk)=>match Aaw c with
   |some row=>Adp P n e ds kk row
   |none=>match kk,A8 P e with
    |.ofNat k,some s=>bif Nat.blt k n&&Nat.ble ((k+1)*s) ds.length then (Gr P e ((ds.drop (k*s)).take s)).map λv=>(v,none) else none
    |_,_=>none
  |some .string,some (.d (.p (.v (.string s)))),some (.int _ n)=>match c with
   |.byte _ _ b=>some (ofV (.int .u8 b.toNat),some (.byte s n b))
   |_=>none
  |_,_,_=>none
 |.extract x i=>match look L cur x with
  |some (.tup l)=>(l[i]?).map λv=>(v,none)
  |_=>none
 | .slice t x lo hi none=>match P.underlying t,look L cur x with
  | some (.slice e),some (.d (.p (.s rows)))=>match A8 P e,(match lo with|none=>some (Value.int .i64 0)|some y=>(look L cur y).bind By),(match hi with|none=>some (Value.int .i64 rows.length)|some y=>(look L cur y).bind By) with
   |some n,some (.int _ l),some (.int _ h)=>match c with
    |.cut _ _ _ _ rows'=>some (.d (.p (.s rows')),some (.cut rows n l h rows'))
    |_=>none
   |_,_,_=>none
  | some (.slice e),some (.d (.os i))=>match R[i]? with
   | some (.sl _ s rows)=>match A8 P e,(match lo with|none=>some (Value.int .i64 0)|some y=>(look L cur y).bind By),(match hi with|none=>some (Value.int .i64 rows.length)|some y=>(look L cur y).bind By) with
    |some n,some (.int _ l),some (.int _ h)=>match c with
     |.bnd _ _ _ h2=>bif Nat.beq s n then some (.d (.osb i l.toNat (h2.toNat-l.toNat) n),some (.bnd rows.length l h h2)) else none
     |_=>none
    |_,_,_=>none
   |_=>none
  | some (.slice e),some (.d (.osb i o0 n0 s0))=>match R[i]? with
   | some (.sl _ s rows)=>match A8 P e,(match lo with|none=>some (Value.int .i64 0)|some y=>(look L cur y).bind By),(match hi with|none=>some (Value.int .i64 n0)|some y=>(look L cur y).bind By) with
    |some n,some (.int _ l),some (.int _ h)=>match c with
     |.bnd _ _ _ h2=>bif Nat.beq s n&&Nat.beq s0 n then some (.d (.osb i (o0+l.toNat) (h2.toNat-l.toNat) n),some (.bnd (rows.length-o0) l h h2)) else none
     |_=>none
    |_,_,_=>none
   |_=>none
  | some .string,some (.d (.p (.v (.string s))))=>match (match lo with|none=>some (Value.int .i64 0)|some y=>(look L cur y).bind By),(match hi with|none=>some (Value.int .i64 s.size)|some y=>(look L cur y).bind By) with
   |some (.int _ l),some (.int _ h)=>match c with
    |.bnd _ _ _ h2=>some (ofV (.string (s.extract l.toNat h2.toNat)),some (.bnd s.size l h h2))
    |_=>none
   |_,_=>none
  | some (.slice e),some (.d (.p (.v (.slice none 0 0))))=>match lo,hi with
   |none,some y=>match A8 P e,(look L cur y).bind By with
    |some _,some (.int _ 0)=>some (.d (.p (.v (.slice none 0 0))),none)
    |_,_=>none
   |_,_=>none
  |_,_=>none
 | .slice t x (some lo) (some hi) (some mx)=>match P.underlying t,look L cur x with
  | some (.slice e),some (.d (.os i))=>match R[i]? with
   | some (.sl _ _ rows)=>match (look L cur lo).bind By,(look L cur hi).bind By,(look L cur mx).bind By with
    |some (.int _ l),some (.int _ h),some (.int _ m)=>match c,A8 P e with
     |.bnd3 _ _ _ _,some _=>some (.d .any,some (.bnd3 rows.length l h m))
     |_,_=>none
    |_,_,_=>none
   |_=>none
  |_,_=>none
 | .call k=>match k.callee with
  | .builtin b=>match Cf L cur k.args.toList with
   | some args=>match b,k.argTypes[0]? with
    | .len,some t=>match P.underlying t with
     |some (.slice _)=>match c with
      |.len _ n=>(Kc R args).map λk=>(ofV (.int .i64 n),some (.len k n))
      |_=>(Kc R args).map λn=>(ofV (.int .i64 n),none)
     |some .string=>(Zm args).map λn=>(ofV (.int .i64 n),none)
     |_=>none
    |.cap,some t=>match P.underlying t,args with
     |some (.slice _),[.d (.p (.v (.slice none 0 0)))]=>some (ofV (.int .i64 0),none)
     |_,_=>none
    |_,_=>(Aty b args).map λn=>(ofV (.int .i64 n),none)
   |none=>none
  |_=>none
 |_=>none
def Dv{α:Type}:Nat->List α->List α
 |0,_=>[]
 |n+1,l=>l++Dv n l
def Pd.nz:Pd->Pd
 |.v (.slice none 0 0)=>.s []
 |x=>x
def Mh:Cl->Bool
 |.own=>true
 |_=>false
def He(P : Program)(R : List Res)(c : Cl)(t : TypeId)(len : Nat)(parts : List (Nat × List D)) : Option Out :=
 match P.underlying t with
 | some (.slice e)=>match A8 P e,(Dn P e).bind λz=>Fp z.cells.toList with
  | some (size+1),some zs=>
   bif Nat.beq zs.length (size+1)&&Nat.ble (len*(size+1)) 16777216 then
    match (H5 ((List.range len).map λi=>(i*(size+1),size+1)) (Dv len zs) parts).bind dPs with
    |some ps=>bif Mh c then some ⟨.d (.os R.length),R++[.sl e (size+1) (Cm (size+1) len (ps.map Pd.nz))],some .own⟩ else some ⟨.d (.p (.s (Cm (size+1) len (ps.map Pd.nz)))),R,none⟩
    |none=>bif Mh c then (H5 ((List.range len).map λi=>(i*(size+1),size+1)) (Dv len zs) parts).map λds=>⟨.d (.os R.length),R++[.vec e (size+1) ds],some .own⟩ else none
   else none
  |_,_=>none
 |_=>none
def Ho(R:List Res)(size:Nat):AV->Option (List (List Pd))
 |.d (.p (.s rows))=>some rows
 |.d (.p (.v (.slice none 0 0)))=>some []
 |.d (.os i)=>match R[i]? with
  |some (.sl _ s rows)=>bif Nat.beq s size then some rows else none
  |_=>none
 |.d (.osb i lo n s2)=>match R[i]? with
  |some (.sl _ s rows)=>bif Nat.beq s size&&Nat.beq s2 s then some ((rows.drop lo).take n) else none
  |_=>none
 |_=>none
def Ck(P : Program)(R : List Res)(c : Cl)(ts : List TypeId)(args : List AV) : Option Out :=
 match ts,args with
 | [t, u], [x, y] => bif Nat.beq t u then match P.underlying t with
  | some (.slice e)=>match A8 P e,(P.info? e).map (·.bytes),(Dn P e).map (λz=>z.cells.size) with
   | some (size+1),some bytes,some zn=>match c,Ho R (size+1) y with
    | .app _ _ _ _ rows',some rows2=>bif Nat.beq zn (size+1)then match x with
     |.d (.p (.v (.slice none 0 0)))=>some ⟨.d (.os (R.length+1)),R++[.non,.sl e (size+1) rows'],some (.app [] rows2 (size+1) (rows2.length*(bytes+1)) rows')⟩
     |.d (.os i)=>match R[i]? with
      |some (.sl e' s' rows)=>bif Nat.beq e' e&&Nat.beq s' (size+1)then some ⟨.d (.os R.length),R.set i .non++[.sl e (size+1) rows'],some (.app rows rows2 (size+1) ((rows.length+rows2.length)*(bytes+1)) rows')⟩ else none
      |_=>none
     |_=>none
     else none
    |_,_=>none
   |_,_,_=>none
  |_=>none
  else none
 |_,_=>none
def Mz(P : Program)(R : List Res)(ts : List TypeId)(args : List AV) : Option Out :=
 match ts,args with
 | [t, u], [x, .d (.os j)] => bif Nat.beq t u then match P.underlying t, R[j]? with
  | some (.slice e),some (.vec _ s ds2)=>match A8 P e,(P.info? e).map (·.bytes),(Dn P e).map (λz=>z.cells.size) with
   | some (size+1),some bytes,some zn=>bif (Nat.beq zn (size+1)&&Nat.beq s (size+1)) && !ds2.isEmpty then match x with
    |.d (.p (.v (.slice none 0 0)))=>bif Nat.ble ((ds2.length / (size+1))*(bytes+1)) 140737488355328 then some ⟨.d (.os (R.length+1)),R++[.non,.vec e (size+1) ds2],none⟩ else none
    |.d (.os i)=>match R[i]? with
     |some (.vec e' s' ds1)=>bif (Nat.beq e' e&&Nat.beq s' (size+1))&&(!(Nat.beq i j)&&Nat.ble ((ds1.length / (size+1)+ds2.length / (size+1))*(bytes+1)) 140737488355328)then some ⟨.d (.os R.length),R.set i .non++[.vec e (size+1) (ds1++ds2)],none⟩ else none
     |some (.sl e' s' [])=>bif (Nat.beq e' e&&Nat.beq s' (size+1))&&(!(Nat.beq i j)&&Nat.ble ((0+ds2.length / (size+1))*(bytes+1)) 140737488355328)then some ⟨.d (.os R.length),R.set i .non++[.vec e (size+1) ([]++ds2)],none⟩ else none
     |_=>none
    |_=>none
    else none
   |_,_,_=>none
  |_,_=>none
  else none
 |_,_=>none
def M2(P : Program)(R : List Res)(ts : List TypeId)(args : List AV) : Option Out :=
 match ts,args with
 | [t, u], [.d (.p (.v (.slice none 0 0))), .d (.p (.v (.int _ (.ofNat n))))] => match P.underlying t, P.underlying u with
  | some (.slice e),some (.int _)=>match A8 P e,(P.info? e).map (·.bytes),(Dn P e).bind λz=>Fp z.cells.toList with
   |some (size+1),some bytes,some ds=>match dPs ds with
    |some zs=>bif (Nat.beq zs.length (size+1)&&Nat.blt 0 n)&&Nat.ble (n*(bytes+1)) 140737488355328 then some ⟨.d (.os R.length),R++[.sl e (size+1) (List.replicate n zs)],none⟩ else none
    |none=>none
   |_,_,_=>none
  |_,_=>none
 |_,_=>none
def M4(P:Program)(R:List Res)(c:Cl)(ts:List TypeId)(args:List AV):Option Out:=
 match Ck P R c ts args with
 |some o=>some o
 |none=>match Mz P R ts args with
  |some o=>some o
  |none=>M2 P R ts args
def zB:Pd->Bool
 |.v (.slice none 0 0)=>true
 |.v (.slice _ _ _)=>false
 |.v _=>true
 |.s _=>false
def Jl(P:Program)(R:List Res)(c:Cl)(ts:List TypeId)(i g k size off:Nat)(y:AV):Option Out:=
 match R[i]?,R[g]?,c with
 | some (.dsl e s g'),some (.gh s2 tys rows none),.appD _ _ row _ r1 r2 sz n rows'=>match tys[off]? with
  |some (e2,sz2)=>bif (Nat.beq g g'&&Nat.beq s s2)&&(Nat.beq s size&&Nat.blt off s) then
   match Ck P ((R.set g .non).set i (.dsl e s R.length)++[.gh s tys rows (some (k,off)),.sl e2 sz2 r1]) (.app r1 r2 sz n rows') ts [.d (.os (R.length+1)),y] with
   |some ⟨v,R',some (.app _ b z m r')⟩=>some ⟨v,R',some (.appD rows k row off r1 b z m r')⟩
   |_=>none
   else none
  |none=>none
 |_,_,_=>none
def Q4(R : List Res)(c : Cl)(o : Oper)(i k size off : Nat)(ds : List D)(n : Nat) : Option Out :=
 match R[i]?,ds,c with
 | some (.dsl e s g),[.os m],.updD _ _ _ row _ rows'=>match R[g]?,R[m]? with
  | some (.gh s2 tys rows (some (k0,off0))),some (.sl e2 sz2 r1)=>match tys[off]? with
   | some (e3,sz3)=>
    bif (Nat.beq s size&&Nat.beq s s2)&&((Nat.beq off off0&&Nat.beq n 1)&&((Nat.blt off s&&o.dst.isNone)&&(Nat.beq e2 e3&&Nat.beq sz2 sz3))) then
     some ⟨.tup [],(((R.set m .non).set g .non).set i (.dsl e s R.length))++[.gh s tys rows' none],some (.updD rows k0 k row (row.take off++(.s r1::row.drop (off+1))) rows')⟩
    else none
   |none=>none
  |_,_=>none
 |_,_,_=>none
def M1(P : Program)(R : List Res)(c : Cl)(ts : List TypeId)(i n s : Nat)(y : AV) : Option Out :=
 match ts with
 | [t, u] => bif Nat.beq t u then match P.underlying t with
  | some (.slice e)=>match A8 P e,Ho R s y,R[i]? with
   | some (size+1),some src,some (.sl e' s' rows)=>match c with
    | .appP _ _ _ _ m _ rows'=>bif Nat.beq s' s&&Nat.beq s (size+1) then
      some ⟨.d (.osb i 0 m s),R.set i (.sl e' s' rows'),some (.appP rows src s n m (rows.take n++(src++rows.drop (n+src.length))) rows')⟩
     else none
    |_=>none
   |_,_,_=>none
  |_=>none
  else none
 |_=>none
def M0(P:Program)(R:List Res)(c:Cl)(ts:List TypeId)(i n s:Nat)(y:AV):Option Out:=
 match R[i]? with
 |some (.sl e s' rows)=>bif Nat.beq s' s then Ck P (R.set i .non++[.sl e s' (rows.take n)]) c ts [.d (.os R.length),y] else none
 |_=>none
def M3(P:Program)(R:List Res)(c:Cl)(ts:List TypeId)(i n s:Nat)(y:AV):Option Out:=
 match c with
 |.appP ..=>M1 P R c ts i n s y
 |_=>M0 P R c ts i n s y
def Px(R:List Res):AV->Option (Nat×Nat×Nat×Nat)
 |.d (.os i)=>match R[i]? with
  |some (.sl _ s rows)=>some (i,0,rows.length,s)
  |_=>none
 |.d (.osb i lo n s)=>some (i,lo,n,s)
 |_=>none
def N_(P : Program)(R : List Res)(c : Cl)(ts : List TypeId)(args : List AV) : Option Out :=
 match ts,args with
 | [t], [x] => match P.underlying t with
  | some (.slice e)=>match A8 P e,(Dn P e).bind λz=>Fp z.cells.toList,Px R x with
   | some (size+1),some zd,some (i,lo,n,s)=>match dPs zd,R[i]?,c with
    | some zs,some (.sl e' s2 rows),.eqr _ rows'=>bif (Nat.beq s s2&&Nat.beq s (size+1))&&Nat.beq zs.length (size+1) then
      some ⟨.tup [],R.set i (.sl e' s2 rows'),some (.eqr (rows.take lo++(List.replicate n (zs.map Pd.nz)++rows.drop (lo+n))) rows')⟩
     else none
    |_,_,_=>none
   |_,_,_=>none
  |_=>none
 |_,_=>none
def Q6(P : Program)(R : List Res)(c : Cl)(ts : List TypeId)(args : List AV) : Option Out :=
 match ts,args with
 | t :: _, [x, y] => match P.underlying t with
  | some (.slice e)=>match A8 P e,Px R x with
   | some (size+1),some (i,lo,n,s)=>match Ho R (size+1) y,R[i]?,c with
    | some src,some (.sl e' s2 rows),.cpy _ _ _ m _ rows'=>bif Nat.beq s s2&&Nat.beq s (size+1) then
      some ⟨ofV (.int .i64 m),R.set i (.sl e' s2 rows'),some (.cpy src (size+1) n m (rows.take lo++(src.take m++rows.drop (lo+m))) rows')⟩
     else none
    |_,_,_=>none
   |_,_=>none
  |_=>none
 |_,_=>none
def Lb(P:Program)(R:List Res)(c:Cl)(t:TypeId)(len:Option Value):Option Out:=
 match P.underlying t,len,c with
 | some (.slice e),some (.int .i64 l),.room _ _ rows'=>match A8 P e,(P.info? e).map (·.bytes),(Dn P e).bind λz=>Fp z.cells.toList with
  |some (size+1),some bytes,some ds=>match dPs ds with
   |some zs=>bif Nat.beq zs.length (size+1)then some ⟨.d (.os R.length),R++[.sl e (size+1) rows'],some (.room (l*(bytes+1)) (List.replicate l.toNat zs) rows')⟩ else none
   |none=>none
  |_,_,_=>none
 | some (.slice e),some (.int .i64 l),.roomZ _ _ rows'=>match A8 P e,(P.info? e).map (·.bytes),(Dn P e).bind λz=>Fp z.cells.toList with
  |some (size+1),some bytes,some ds=>match dPs ds with
   |some zs=>bif Nat.beq zs.length (size+1)&&zs.all zB then some ⟨.d (.os R.length),R++[.zsl e (size+1) rows'],some (.roomZ (l*(bytes+1)) (List.replicate l.toNat (zs.map Pd.nz)) rows')⟩ else none
   |none=>none
  |_,_,_=>none
 |_,_,_=>none
def Le(s:ByteArray):ez:=s.data.toList.map λb=>(b.toNat:Int)
def Hf(s:ByteArray):List (List Pd):=(Le s).map λn=>[Pd.v (.int .u8 n)]
def U9(P:Program)(R:List Res)(c:Cl)(s d:TypeId)(x:Option Value):Option Out:=
 match P.underlying s,P.underlying d,x,c with
 |some .string,some (.slice e),some (.string b),.room _ _ rows'=>match P.underlying e with
  |some (.int .u8)=>some ⟨.d (.p (.s rows')),R,some (.room b.size (Hf b) rows')⟩
  |_=>none
 |_,_,_,_=>none
def N8(P:Program)(R:List Res)(c:Cl)(s d:TypeId)(x:Option Value):Option Out:=
 match P.underlying s,P.underlying d,x,c with
 |some .string,some (.slice e),some (.string b),.roomZ _ _ rows'=>match P.underlying e with
  |some (.int .u8)=>bif Wk e then some ⟨.d (.os R.length),R++[.sl e 1 rows'],some (.roomZ b.size (Hf b) rows')⟩ else none
  |_=>none
 |_,_,_,_=>none
def N9(P:Program)(R:List Res)(c:Cl)(s d:TypeId)(x:Option AV):Option Out:=
 match P.underlying d,x,c with
 |some (.slice e),some (.d (.os i)),.own=>match R[i]?,P.underlying e with
  |some (.sl et _ (_::_)),some (.int .u8)=>bif Nat.beq s d&&Wk et then some ⟨.d (.os i),R,some .own⟩ else none
  |_,_=>none
 |_,_,_=>none
def L6(P:Program)(R:List Res)(c:Cl)(s d:TypeId)(x:Option AV):Option Out:=
 match U9 P R c s d (x.bind By) with
 |some o=>some o
 |none=>match N8 P R c s d (x.bind By) with
  |some o=>some o
  |none=>N9 P R c s d x
def isZ:Cl->Bool
 |.own=>true
 |.roomZ ..=>true
 |_=>false
def Kv:Operand->Operand->Bool
 |.tmp a,.tmp b=>Nat.beq a b
 |.const (.int .i64 a),.const (.int .i64 b)=>a==b
 |_,_=>false
def Ajk:Cl->Bool
 |.call _ _ _ _ R2 pi=>R2.isEmpty&&pi.isEmpty
 |_=>false
def Pv(R:List Res)(c:Cl)(o:Oper)(i k size off:Nat)(ds:List D)(n:Nat):Option Out:=
 match R[i]?,c,dPs ds with
 |some (.sl e s rows),.upd _ _ row _ rows',some ps=>bif Nat.beq s size&&(Nat.beq ds.length n&&(Nat.ble (off+n) size&&o.dst.isNone))then some ⟨.tup [],R.set i (.sl e s rows'),some (.upd rows k row (row.take off++(ps++row.drop (off+n))) rows')⟩ else none
 |_,_,_=>none
def Q3(R:List Res)(c:Cl)(o:Oper)(i k size off:Nat)(ds:List D)(n:Nat):Option Out:=
 match R[i]? with
 |some (.vec e s cells)=>bif Nat.beq ds.length n&&(Nat.ble (k*size+off+n) cells.length&&o.dst.isNone)then some ⟨.tup [],R.set i (.vec e s (Ik cells (k*size+off) ds)),none⟩ else none
 | _=>match ds with
  | [.os m]=>match R[m]? with
   |some (.sl _ _ rows2)=>bif Nat.beq m i then none else Pv (R.set m .non) c o i k size off [.p (.s rows2)] n
   |_=>none
  |_=>none
def H1(P : Program)(L : List Ent)(cur : A_)(R : List Res)(c : Cl)(o : Oper) : Option Out :=
 match Cg P L cur R c o.op with
 |some (v,k)=>some ⟨v,R,k⟩
 | none=>match o.op with
  | .box t x=>match (look L cur x).bind G9,A8 P t with
    |some cells,some n=>bif Nat.beq cells.length n then some ⟨.d (.o R.length 0),R++[.box t cells],none⟩ else none
    |_,_=>none
  | .alloc t=>match (Dn P t).bind λz=>Fp z.cells.toList with
    |some cells=>some ⟨.d (.o R.length 0),R++[.box t cells],none⟩
    |none=>none
  | .store t a x=>bif cur.isEmpty then match look L cur a,(look L cur x).bind G9,A8 P t with
    |some (.d (.o i off)),some ds,some n=>match R[i]? with
     |some (.box u cells)=>bif Nat.beq ds.length n&&Nat.ble (off+n) cells.length&&o.dst.isNone then some ⟨.tup [],R.set i (.box u (Ik cells off ds)),none⟩ else none
     |_=>none
    | some (.d (.oe i k size off)),some ds,some n=>match Pv R c o i k size off ds n with
     |some x=>some x
     |none=>match Q4 R c o i k size off ds n with
      |some x=>some x
      |none=>Q3 R c o i k size off ds n
    |_,_,_=>none
   else none
  | .buildSlice t len parts=>match H_ L cur parts.toList with
    |some ps=>He P R c t len ps
    |none=>none
  |.convert s d x=>L6 P R c s d (look L cur x)
  |.makeSlice t l k=>bif Kv l k then Lb P R c t ((look L cur l).bind By) else none
  | .call k=>match k.callee with
   |.value f=>match look L cur f,Cf L cur k.args.toList with
    |some (.d (.fn (.func g) first caps)),some args=>Cx R (first.map AV.d++args++caps.map AV.d) g c
    |some (.d (.fb (.func g) ps)),some args=>Cx R (.agg (ps.map D.p)::args) g c
    |_,_=>none
   |.builtin .append=>match Cf L cur k.args.toList with
    |some [.d (.oi i g q size off),y]=>Jl P R c k.argTypes.toList i g q size off y
    |some [.d (.osb i 0 n s),y]=>M3 P R c k.argTypes.toList i n s y
    |some args=>M4 P R c k.argTypes.toList args
    |none=>none
   |.builtin .clear=>match Cf L cur k.args.toList with
    |some args=>N_ P R c k.argTypes.toList args
    |none=>none
   |.builtin .copy=>match Cf L cur k.args.toList with
    |some args=>Q6 P R c k.argTypes.toList args
    |none=>none
   |_=>none
  |_=>none
def X0:Cl->Bool
 |.callB _ _ _ _ _ _=>true
 |.call _ _ _ _ _ pi=>pi.isEmpty
 |_=>false
def isW:Cl->Bool
 |.appD ..=>true
 |.appP ..=>true
 |_=>false
def Mq(r:Bool)(c:Cl)(o:Oper):Bool:=
 match o.op with
 |.store ..=>false
 |.call k=>match k.callee with
  |.value _=>r || X0 c
  |.builtin .clear|.builtin .copy=>false
  |_=>!isW c
 |_=>true
def isR:Cl->Bool
 |.whenR _ _=>true
 |_=>false
def C_:Cl->Cl
 |.when _ c=>c
 |.whenR _ c=>c
 |c=>c
def T_(L:List Ent):A_->A_->Bool
 |_,[]=>true
 |acc,(t,b)::p=>match Ds L t with
  |some e=>G8 e.p acc&&T_ L (acc++[(t,b)]) p
  |none=>false
def Ji(L:List Ent)(cur:A_)(r:Bool)(c:Cl)(o:Oper):Bool:=cur.isEmpty || (Mq r c o&&(!r || T_ L [] cur))
def D7(cur:A_)(r:Bool)(cs:List (Bool×Bool))(x:Cl):Cl:=bif cur.isEmpty then x else bif r then .whenR cs x else .when cs x
def Km(L:List Ent)(t:Nat)(p:A_)(v:AV):List Ent:=
 ⟨t,p,v⟩::L.filter λe=>!(Nat.beq e.t t)&&e.p.all λg=>!(Nat.beq g.1 t)
def U8(P:Program)(n:Nat)(ops:Array Oper)(L:List Ent)(R:List Res)(c:Cl)(o:Oper):Option (List Ent×List Res×Option Cl):=
 match Gj ops L o with
 |none=>none
 | some cur=>
  match H1 P L cur R (C_ c) o,Fh L cur with
  |some out,some cs=>bif Ji L cur (isR c) (C_ c) o then
   let k:=out.c.map (D7 cur (isR c) cs)
   match o.dst with
   |some d=>bif Nat.blt d n&&cur.all (λg=>!(Nat.beq g.1 d))then some (Km L d cur out.v,out.R,k) else none
   |none=>bif cur.isEmpty then some (L,out.R,k) else none
   else none
  |_,_=>none
def Pw(P : Program)(n : Nat)(ops : Array Oper) : ey -> List Ent -> List Res -> List Cl -> Option (List Ent × List Res × List Cl)
 | [],L,R,_=>some (L,R,[])
 | i::is,L,R,cls=>match ops[i]? with
  |none=>none
  | some o=>match U8 P n ops L R (cls.headD .nop) o with
   |none=>none
   |some (L',R',some c)=>match Pw P n ops is L' R' cls.tail with
    |some (L2,R2,cs)=>some (L2,R2,c::cs)
    |none=>none
   |some (L',R',none)=>Pw P n ops is L' R' cls
end Go.SL
namespace Go.SL
variable{av:AV}{ds:List D}{x:Operand}{t:TypeId}{v z:Value}
def pt(a:Act)(p:A_):Prop:=∀g,g∈p->a.tmps[g.1]?=some (.bool g.2)
def Wz(S:Nat->Prop)(w:World)(ρ:eA)(a:Act)(e:Ent):Prop:=
 (pt a e.p->∃v,a.tmps[e.t]?=some v/\RdA S w ρ v e.v)/\(¬pt a e.p->a.tmps[e.t]?=some undef)
def Cd(S:Nat->Prop)(w:World)(ρ:eA)(a:Act)(L:List Ent):Prop:=∀e,e∈L->Wz S w ρ a e
def Sat(n:Nat)(C:Ctx)(L:List Ent)(R:List Res)(a:Act)(w:World):Prop:=
 a.defers=C.df/\a.tmps.size=n/\∃S ρ,Inv C S w ρ R/\Cd S w ρ a L
theorem C5:∀{L:List Ent}{t:Nat}{e:Ent},Ds L t=some e->e∈L/\e.t=t
 | [],_,_,h=>by simp[Ds]at h
 |x::r,t,e,h=>by
  simp only[Ds]at h;cases hb:Nat.beq x.t t with
  |true=>rw[hb]at h;simp at h;subst h;exact⟨an,af hb⟩
  |false=>rw[hb]at h;simp at h;obtain⟨h1,h2⟩:=C5 h;grind
theorem Se{a:Act}:∀{p q:A_},G8 p q=true->pt a q->pt a p
 | [],_,_,_=>λg hg=>by cases hg
 |(t,x)::p,(u,y)::q,h,hq=>by
  simp only[G8,aa,dQ]at h;obtain⟨⟨h1,h2⟩,h3⟩:=h;have ht:=af h1;subst ht;subst h2;intro g hg;rcases ah.1 hg with rfl|hg
  .exact hq _ an
  .exact Se h3 (λg hg=>hq g (am _ hg)) g hg
 |_::_,[],h,_=>by simp[G8]at h
section
variable{P:Program}{C:Ctx}{S:Nat->Prop}{w:World}{ρ:eA}{R:List Res}{L:List Ent}{cur:A_}{a:Act}
theorem Apa{d:D}(h:dOf v=some d):Rd S w ρ v d:=by
 unfold dOf at h;cases hb:v.oneCell' with
 |true=>rw[hb]at h;simp at h;subst h;exact .p (.v v hb)
 |false=>rw[hb]at h;simp at h
theorem J1:∀{l:eA}{ds:List D},Fp l=some ds->Ay (Rd S w ρ) l ds
 | [],ds,h=>by simp[Fp]at h;subst h;trivial
 | v::r,ds,h=>by
  simp only[Fp]at h;split at h
  .rename_i d ds' h1 h2;simp at h;subst h;exact⟨Apa h1,J1 h2⟩
  .cases h
theorem A2p(h:L_ v=some av):RdA S w ρ v av:=by
 unfold L_ at h;split at h
 .rename_i cs;cases hd:Fp cs.toList with
  |none=>rw[hd]at h;cases h
  |some ds=>rw[hd]at h;simp at h;subst h;have:=RdA.agg (S:=S) (w:=w) (ρ:=ρ) (J1 (S:=S) (w:=w) (ρ:=ρ) hd);simpa using this
 .cases h
 .cases hd:dOf v with
  |none=>rw[hd]at h;cases h
  |some d=>rw[hd]at h;simp at h;subst h;exact .d (Apa hd)
theorem Bp(hL:Cd S w ρ a L)(hp:pt a cur)(h:look L cur x=some av):RdA S w ρ (a.eval x) av:=by
 unfold look at h;split at h
 .exact A2p h
 .rename_i t;split at h
  .rename_i e he;obtain⟨hm,ht⟩:=C5 he;cases hb:G8 e.p cur with
   |false=>rw[hb]at h;simp at h
   |true=>
    rw[hb]at h;simp at h;subst h;obtain⟨v,hv,hr⟩:=(hL e hm).1 (Se hb hp);rw[ht]at hv;have:a.eval (.tmp t)=v:=by simp[Act.eval,ef,hv]
    rw[this];exact hr
  .cases h
 .simp at h;subst h;exact .d (.fn (xs:=[]) (cs:=[]) rfl rfl (by simp) (by simp))
 .cases h
theorem Ed(hL:Cd S w ρ a L)(hp:pt a cur):∀{l:List Operand}{avs:List AV},Cf L cur l=some avs->Ay (RdA S w ρ) (l.map a.eval) avs
 | [],avs,h=>by simp[Cf]at h;subst h;trivial
 | x::r,avs,h=>by
  simp only[Cf]at h;split at h
  .rename_i v l h1 h2;simp at h;subst h;exact⟨Bp hL hp h1,Ed hL hp h2⟩
  .cases h
theorem Bc(hL:Cd S w ρ a L)(hp:pt a cur)(h:(look L cur x).bind By=some v):a.eval x=v:=by
 cases hx:look L cur x with
 |none=>rw[hx]at h;cases h
 |some av=>
  rw[hx]at h;simp only[aj]at h;unfold By at h;split at h
  .simp at h;subst h;exact(Bp hL hp hx).exact_inv
  .cases h
theorem Ut(hL:Cd S w ρ a L)(hp:pt a cur){b:Bool}(h:(look L cur x).bind Mn=some b):a.eval x=.bool b:=by
 cases hx:look L cur x with
 |none=>rw[hx]at h;cases h
 |some av=>
  rw[hx]at h;simp only[aj]at h;unfold Mn at h;split at h
  .simp at h;subst h;exact(Bp hL hp hx).exact_inv
  .cases h
theorem N2(hr:RdA S w ρ v av)(h:G9 av=some ds):Ay (Rd S w ρ) v.cells.toList ds:=by
 cases av with
 |d x=>
  simp[G9]at h;subst h;have hx:=hr.d_inv;have h1:=hx.one;have:v.cells = #[v]:=by cases v <;> first|rfl|simp [Value.oneCell']at h1
  rw[this];exact⟨hx,trivial⟩
 |agg ds'=>simp[G9]at h;subst h;obtain⟨vs,rfl,h2⟩:=hr.agg_inv;simpa[Value.cells]using h2
 |tup l=>simp[G9]at h
theorem Eg(h:v.oneCell'=true):RdA S w ρ v (ofV v):=.d (.p (.v v h))
theorem Pn{d:TypeDesc}(h:P.underlying t=some d):(isAgg t).run P w=.ok (Oy d) w:=by cases d <;> simp[isAgg,el h,Oy]
theorem Ch{n:Nat}(h:A8 P t=some n):(sizeOf t).run P w=.ok n w:=by
 unfold A8 at h;cases hi:P.info? t with
 |none=>rw[hi]at h;cases h
 |some i=>rw[hi]at h;simp at h;simp[sizeOf,typeInfo,hi,h]
theorem Fz(h:Dn P t=some z):(zeroValue t).run P w=.ok z w:=by
 unfold Dn at h;cases hi:P.info? t with
 |none=>rw[hi]at h;cases h
 |some i=>rw[hi]at h;simp at h;simp[zeroValue,typeInfo,hi,h]
theorem Ha{ad : Addr}(h : Gr P t ds = some av)
  (hc:∀(j:Nat) d,ds[j]?=some d->∃x,w.cell? (ad.add j)=some x/\Rd S w ρ x d) :
  ∃v,(loadVar t ad).run P w=.ok v w/\RdA S w ρ v av:=by
 unfold Gr at h;cases hu:P.underlying t with
 |none=>simp[Rz,hu]at h
 | some td =>
  have ha:Rz P t=some (Oy td):=by simp[Rz,hu]
  rw[ha]at h;cases hb:Oy td with
  | true=>
   rw[hb]at h;split at h
   .rename_i n hn hsz;cases hl:Nat.beq ds.length n with
    |false=>rw[hl]at h;simp at h
    | true=>
     rw[hl]at h;simp at h;subst h;have hlen:ds.length=n:=af hl;have hxs:∃xs:eA,xs.length=ds.length/\∀(j:Nat) x,xs[j]?=some x->w.cell? (ad.add j)=some x/\∀d,ds[j]?=some d->Rd S w ρ x d:=by
      refine⟨(List.range ds.length).map λj=>(w.cell? (ad.add j)).getD undef,by simp,λj x hx=>?_⟩;rw[au]at hx;cases hj:(List.range ds.length)[j]? with
      |none=>rw[hj]at hx;cases hx
      | some k=>
       rw[hj]at hx;have hk:j<ds.length/\k=j:=by obtain⟨h1,h2⟩:=ac.1 hj;simp at h1 h2;exact⟨h1,h2.symm⟩
       obtain⟨hk1,rfl⟩:=hk;obtain⟨y,hy,hR⟩:=hc k ds[k] (ak hk1);grind
     obtain⟨xs,hxl,hx⟩:=hxs;have hlc:=run_loadCells_list (P:=P) w ad xs (λj v hv=>(hx j v hv).1);refine⟨.agg xs.toArray,?_,.agg (da hxl λj x d h1 h2=>(hx j x h1).2 d h2)⟩;simp[loadVar,Pn hu,hb,Ch hsz,←hlen,←hxl,hlc]
   all_goals simp_all
  | false=>
   rw[hb]at h;split at h
   .simp_all
   .split at h
    .rename_i d;simp at h;subst h;obtain⟨x,hx,hR⟩:=hc 0 d rfl;rw[M9]at hx;refine⟨x,?_,.d hR⟩;simp[loadVar,Pn hu,hb,hx]
    .cases h
   .cases h
end
end Go.SL
namespace Go.SL
variable{op:BinOp}{n:Int}{l:List AV}{cells ds:List D}{vs xs:eA}{b f i k:Nat}{ft s t:TypeId}{h x y z:Value}
section
variable{P:Program}{C:Ctx}{S:Nat->Prop}{w:World}{ρ:eA}{R:List Res}{L:List Ent}{cur:A_}{a:Act}
def A65(P:Program)(S:Nat->Prop)(w:World)(ρ:eA)(a:Act)(o:Oper)(v:AV):Prop:=
 ∃x,(execOp a.eval o).run P w=.ok (.value x) w/\RdA S w ρ x v
theorem A6x(h:bin op x y=some z)(t:TypeId)(u v:Operand) :
    (do eqGuard op t u v x y;binOp op t x y:Sem Value).run P w=.ok z w/\z.oneCell'=true:=by
  unfold bin at h;split at h <;> first
    |(cases h;done)
    | (split at h
       · rename_i hk;subst hk;simp at h;subst h;exact⟨by simp[eqGuard,binOp,Op.intArith,Op.intCmp,Op.intBits,Qi,orI,Ar0],rfl⟩
       · cases h)
    | (rename_i n; simp at h; subst h
       exact⟨by simp[eqGuard,binOp,Op.shift,I_,A32];omega,rfl⟩)
    | (simp at h; subst h
       exact⟨by simp[eqGuard,binOp,Op.stringOp],rfl⟩)
theorem run_equalIn_bool(t:TypeId)(ht:P.underlying t=some .bool)(a b:Bool)(d:Nat):(Op.equalIn (d+1) t (.bool a) (.bool b)).run P w=.ok (a==b) w:=by simp[Op.equalIn,el ht]
theorem Qq(t:TypeId)(ht:P.underlying t=some .bool)(a b:Bool):(Op.equal t (.bool a) (.bool b)).run P w=.ok (a==b) w:=
 run_equalIn_bool t ht a b 9999
theorem A2n(h:Ald op x y=some z)(t:TypeId)(ht:P.underlying t=some .bool)(u v:Operand) :
  (do eqGuard op t u v x y;binOp op t x y:Sem Value).run P w=.ok z w/\z.oneCell'=true:=by
 unfold Ald at h;split at h
 .simp at h;subst h;refine⟨?_,rfl⟩;simp only[eqGuard,binOp,eo,Qq t ht,ep];rfl
 .simp at h;subst h;refine⟨?_,rfl⟩;simp only[eqGuard,binOp,eo,Qq t ht,ep];rfl
 .cases h
theorem A2m(h:Alc op x y=some (z,n))(hn:n≠0)(t:TypeId)(u v:Operand) :
    (do eqGuard op t u v x y;binOp op t x y:Sem Value).run P w=.ok z w/\z.oneCell'=true:=by
  unfold Alc at h;split at h <;> first
    |(cases h;done)
    | (split at h
       · rename_i hk;subst hk;simp at h;obtain⟨rfl,rfl⟩:=h;exact⟨by simp[eqGuard,binOp,Op.intDiv,hn],rfl⟩
       · cases h)
    | (rename_i a b
       simp only[ae,al]at h;obtain⟨rfl,rfl⟩:=h;have hb:¬(((a.size+b.size:Nat):Int)>IntKind.i64.max):=by
         have e:IntKind.i64.max=9223372036854775807:=by decide
         rw[e];unfold Ad4 at hn;cases hd:decide (((a.size+b.size:Nat):Int)<=9223372036854775807) with
         |true=>have:=dW hd;omega
         |false=>rw[hd]at hn;exact absurd rfl hn
       exact⟨by simp only[eqGuard,binOp,Op.stringOp,em hb,eo,eq];rfl,rfl⟩)
theorem A7t{op:UnOp}(h:un op x=some z):(Op.unary op x).run P w=.ok z w/\z.oneCell'=true:=by
 unfold un at h;split at h <;> first
  |(cases h;done)
  |(simp at h;subst h;exact⟨by simp[Op.unary,Op.intArith],rfl⟩)
theorem Ahg:∀{l:eA}{m n:Int},Acv m l=some n->(l.foldlM Builtin.max2 (.int .i64 m):Sem Value).run P w=.ok (.int .i64 n) w
 | [],m,n,h=>by simp[Acv]at h;subst h;simp
 | x::r,m,n,h=>by
  simp only[Acv]at h;split at h
  .rename_i y;have:=Ahg h;have e:(if y>m then y else m)=max m y:=by rw[Int.max_def];split <;> split <;> omega
   simp only[List.foldlM_cons,Builtin.max2,e];simpa using this
  .cases h
theorem Ahf:∀{l:eA}{m n:Int},Acr m l=some n->(l.foldlM Builtin.min2 (.int .i64 m):Sem Value).run P w=.ok (.int .i64 n) w
 | [],m,n,h=>by simp[Acr]at h;subst h;simp
 | x::r,m,n,h=>by
  simp only[Acr]at h;split at h
  .rename_i y;have:=Ahf h;have e:(if y<m then y else m)=min m y:=by rw[Int.min_def];split <;> split <;> omega
   simp only[List.foldlM_cons,Builtin.min2,e];simpa using this
  .cases h
theorem Xh(h:O3 l=some xs)(hv:Ay (RdA S w ρ) vs l):vs=xs:=by
 induction l generalizing xs vs with
 |nil=>cases vs with
  |nil=>simp[O3]at h;exact h.symm ▸ rfl
  |cons=>exact hv.elim
 | cons y l ih=>cases vs with
  |nil=>exact hv.elim
  | cons v vs=>
   simp only[O3]at h;split at h
   .rename_i x xs' h1 h2;simp at h;subst h;have:v=x:=by
     unfold By at h1;split at h1
     .simp at h1;subst h1;exact hv.1.exact_inv
     .cases h1
    rw[this,ih h2 hv.2]
   .cases h
theorem Py(hI:Inv C S w ρ R){g e s:Nat}{tys:List (TypeId×Nat)}{rows:List (List Pd)}{hole:Option (Nat×Nat)}(hi:R[i]?=some (.dsl e s g))(hg:R[g]?=some (.gh s tys rows hole))
  (hρ:ρ[i]?=some h)(h1:h.oneCell'=true)(hs:0<s):∃f xs cs,ρ[g]?=some (.func f xs cs)/\gOk S w s tys rows hole xs /\
   ((h=.slice none 0 0/\rows=[])\/∃b o cap vs,h=.slice (some ⟨b,o,none⟩) rows.length cap/\w.heap[b]?=some (.cells vs e (0,0))/\rows.length<=cap/\cap<=maxLen/\o+cap*s<=vs.size /\
    ∀(k:Nat) x,xs[k]?=some x->vs[o+k]?=some x):=by
 obtain⟨f,xs,cs,k1,k2⟩:=(hI.ok i _ h hi hρ).live h1;obtain⟨f',xs',cs',k3,k4⟩:=(hI.ok g _ _ hg k1).live rfl;cases k3;have hsz:=k4.2.1;refine⟨f,xs,cs,k1,k4,?_⟩;rcases k2 with⟨k2,k5⟩|⟨b,o,len,cap,vs,k2,k5,k6,k7,k8,k9,k10⟩
 .refine .inl ⟨k2,?_⟩;rw[k5]at hsz;have:rows.length=0:=by
   rcases Nat.eq_zero_or_pos rows.length with h|h
   .exact h
   .have:=Nat.mul_pos h hs;omega
  exact bm this
 .have:len=rows.length:=by
   rw[k9]at hsz;exact Nat.eq_of_mul_eq_mul_right hs hsz
  subst this;exact .inr ⟨b,o,cap,vs,k2,k5,k6,k7,k8,k10⟩
theorem Aoy(hI:Inv C S w ρ R)(hr:Ay (RdA S w ρ) vs l)(h:Kc R l=some n) :
  ∃(b:Option Addr)(k c:Nat),vs=[.slice b k c]/\n=k:=by
 have one:∀{av:AV},Ay (RdA S w ρ) vs [av]->∃x,vs=[x]/\RdA S w ρ x av:=by
  intro av h
  match vs,h with
  | [x],h=>exact⟨x,rfl,h.1⟩
  | [],h=>exact h.elim
  |_::_::_,h=>exact h.2.elim
 unfold Kc at h;split at h
 .simp at h;subst h;obtain⟨x,rfl,hx⟩:=one hr;cases hx.d_inv with
  |p h=>obtain⟨b,c,rfl,_⟩:=h.slice_form;exact⟨b,_,c,rfl,rfl⟩
 .simp at h;subst h;obtain⟨x,rfl,hx⟩:=one hr;rw[hx.exact_inv];exact⟨none,0,_,rfl,rfl⟩
 .rename_i i;split at h
  .rename_i e size rows hi;simp at h;subst h;obtain⟨x,rfl,hx⟩:=one hr;cases hx.d_inv with
   |os hρ h1=>
    rcases(hI.ok i _ x hi hρ).live h1 with⟨rfl,rfl⟩|⟨b,o,cap,vs,rfl,_⟩
    .exact⟨none,0,0,rfl,rfl⟩
    .exact⟨_,_,_,rfl,rfl⟩
  .rename_i e s g hi;split at h
   .rename_i s2 tys rows hole hg;cases hb:(Nat.beq s s2&&Nat.blt 0 s) with
    |false=>rw[hb]at h;simp at h
    | true=>
     rw[hb]at h;simp at h;subst h;simp only[aa]at hb;have:=af hb.1;subst this;obtain⟨x,rfl,hx⟩:=one hr;cases hx.d_inv with
     |os hρ h1=>
      obtain⟨_,_,_,_,_,k⟩:=Py hI hi hg hρ h1 (by have:=hb.2;simpa[eu]using this);rcases k with⟨rfl,rfl⟩|⟨b,o,cap,vs,rfl,_⟩
      .exact⟨none,0,0,rfl,rfl⟩
      .exact⟨_,_,_,rfl,rfl⟩
   .cases h
  .rename_i e s cells hi;simp only[ae]at h;subst h;obtain⟨x,rfl,hx⟩:=one hr;cases hx.d_inv with
   |os hρ h1=>obtain⟨b,o,len,cap,vs,rfl,_,⟨h2,h3,_⟩,_⟩:=(hI.ok i _ x hi hρ).live h1;exact⟨_,_,_,rfl,by rw[h2,Nat.mul_div_cancel _ h3]⟩
  .cases h
 .simp at h;subst h;obtain⟨x,rfl,hx⟩:=one hr;cases hx.d_inv with
  |osb _ _ _ _ _=>exact⟨_,_,_,rfl,rfl⟩
 .cases h
theorem Aox(hr:Ay (RdA S w ρ) vs l)(h:Zm l=some n):∃s:ByteArray,vs=[.string s]/\n=s.size:=by
 unfold Zm at h;split at h
 .simp at h;subst h
  match vs,hr with
  | [x],hr=>rw[hr.1.exact_inv];exact⟨_,rfl,rfl⟩
  | [],hr=>exact hr.elim
  |_::_::_,hr=>exact hr.2.elim
 .cases h
theorem Zg(h:L5 P s f=some (k,ft)) :
  ∃fields x,P.underlying s=some (.struct fields)/\fields[f]?=some x/\x.offset=k/\x.type=ft:=by
 unfold L5 at h;split at h
 .rename_i fields hu;split at h
  .rename_i x hx;simp at h;exact⟨fields,x,hu,hx,h.1,h.2⟩
  .cases h
 .cases h
variable{n:Nat}
theorem P6{ad:Addr}(h:L5 P s f=some (k,ft))(hn:A8 P ft=some (n+1)) :
  (Instr.fieldAt s (.pointer (some ad)) f).run P w=.ok (.pointer (some (ad.add k))) w:=by
 obtain⟨fields,x,hu,hx,rfl,rfl⟩:=Zg h;simp[Instr.fieldAt,el hu,hx,Instr.sureAddr,fieldPlace,Ch hn]
theorem Kx(hI:Inv C S w ρ R)(hi:R[i]?=some (.box t cells))(hb:ρ[i]?=some (.pointer (some ⟨b,0,none⟩))) :
  ∃vs,w.heap[b]?=some (.cells vs t (0,0))/\Ay (Rd S w ρ) vs.toList cells:=by
 obtain⟨b',vs,he,h1,h2⟩:=(hI.ok i _ _ hi hb).live rfl;cases he;exact⟨vs,h1,h2⟩
theorem Aej(hI:Inv C S w ρ R)(hi:R[i]?=some (.box t cells))(hb:ρ[i]?=some (.pointer (some ⟨b,0,none⟩)))
  (off n:Nat)(j:Nat)(d:D)(hd:((cells.drop off).take n)[j]?=some d):∃x,w.cell? ((⟨b,off,none⟩:Addr).add j)=some x/\Rd S w ρ x d:=by
 obtain⟨vs,h1,h2⟩:=Kx hI hi hb;rw[ap]at hd;split at hd
 .rw[ar]at hd;obtain⟨x,hx,hR⟩:=h2.get hd;refine⟨x,?_,hR⟩;rw[Cn,Jn h1];simpa using hx
 .cases hd
theorem Qt(hv:Ay (Rd S w ρ) vs ds)(hn:A8 P t=some n){av:AV}(h:Gr P t ((ds.drop k).take n)=some av) :
  ∃x,(part t vs.toArray k).run P w=.ok x w/\RdA S w ρ x av:=by
 unfold Gr at h;cases hu:P.underlying t with
 |none=>simp[Rz,hu]at h
 | some td=>
  have ha:Rz P t=some (Oy td):=by simp[Rz,hu]
  rw[ha,hn]at h;cases hb:Oy td with
  | true=>
   simp only[hb]at h;cases hl:Nat.beq ((ds.drop k).take n).length n with
   |false=>rw[hl]at h;simp at h
   |true=>rw[hl]at h;simp at h;subst h;have:=(hv.drop k).take n;refine⟨.agg ((vs.drop k).take n).toArray,?_,.agg this⟩;simp[part,Pn hu,hb,Ch hn]
  | false=>
   rw[hb]at h;split at h
   .simp_all
   .rename_i hs;cases hs;split at h
    .rename_i d hd;simp at h;subst h;have hk:ds[k]?=some d:=by
      have:((ds.drop k).take 1)[0]?=some d:=by rw[hd];rfl
      rw[ap]at this;simpa using this
     obtain⟨x,hx,hR⟩:=hv.get hk;refine⟨x,?_,.d hR⟩;simp[part,Pn hu,hb,hx]
    .cases h
   .cases h
end
end Go.SL
namespace Go.SL
variable{α β:Type}{parts:Array (Nat×Value)}{r:Array Value}{t:TypeId}{z:Value}
section
variable{P:Program}{C:Ctx}{S:Nat->Prop}{w:World}{ρ:eA}{R:List Res}{L:List Ent}{cur:A_}{a:Act}
variable{x:Option α}{y:β}
theorem Dt{f:α->Option β}(h:x.bind f=some y):∃z,x=some z/\f z=some y:=by
 cases x with
 |none=>cases h
 |some z=>exact⟨z,rfl,h⟩
theorem Cv{f:α->β}(h:x.map f=some y):∃z,x=some z/\f z=y:=by
 cases x with
 |none=>cases h
 |some z=>exact⟨z,rfl,by simpa using h⟩
theorem Aov(hL : Cd S w ρ a L)(hp : pt a cur){k x y : Operand}{v : AV}(h : Zj L cur k x y = some v) :
  ∃b,a.eval k=.bool b/\RdA S w ρ (if b then a.eval x else a.eval y) v:=by
 unfold Zj at h;split at h
 .rename_i t;split at h
  .rename_i b hb;have hk:=Ut hL hp hb;refine⟨b,hk,?_⟩;have hslot:a.tmps[t]?=some (.bool b):=by
    simp only[Act.eval,bt]at hk;cases hs:a.tmps[t]? with
    |none=>rw[hs]at hk;simp[undef]at hk
    |some z=>rw[hs]at hk;simp at hk;rw[hk]
   cases hx:uJ x with
   | true=>
    rw[hx]at h;simp only[eh]at h;have hxe:a.eval x=.bool true:=by
     unfold uJ at hx;split at hx
     .subst hx;rfl
     .cases hx
    split at h
    .rename_i z hz;simp at h;subst h;cases b with
     |true=>simp[hxe];exact Eg rfl
     | false=>
      have hp':pt a (cur++[(t,false)]):=by
       intro g hg;rcases aw.1 hg with hg|hg
       .exact hp g hg
       .simp at hg;subst hg;exact hslot
      have:=Ut hL hp' hz;simp[this];exact Eg rfl
    .cases h
   | false=>
    rw[hx]at h;simp only[eg]at h;cases hy:X3 y with
    |false=>rw[hy]at h;simp at h
    | true=>
     rw[hy]at h;simp only[eh]at h;have hye:a.eval y=.bool false:=by
      unfold X3 at hy;split at hy
      .rename_i q;cases q <;> simp at hy ⊢;rfl
      .cases hy
     split at h
     .rename_i z hz;simp at h;subst h;cases b with
      |false=>simp[hye];exact Eg rfl
      | true=>
       have hp':pt a (cur++[(t,true)]):=by
        intro g hg;rcases aw.1 hg with hg|hg
        .exact hp g hg
        .simp at hg;subst hg;exact hslot
       have:=Ut hL hp' hz;simp[this];exact Eg rfl
     .cases h
  .cases h
 .cases h
theorem Wq(places:Nat->Option (Nat×Nat))(pl:List (Nat×Nat))(hpl:∀(i:Nat) x,pl[i]?=some x->places i=some x) :
  ∀(ps:List (Nat×Value))(qs:List (Nat×List D))(cs:Array Value)(ds out:List D),
   Ay (λ(p:Nat×Value)(q:Nat×List D)=>p.1=q.1/\Ay (Rd S w ρ) p.2.cells.toList q.2) ps qs->Ay (Rd S w ρ) cs.toList ds->H5 pl ds qs=some out ->
   ∃r,Instr.fill places cs ps=some r/\Ay (Rd S w ρ) r.toList out
 | [],[],cs,ds,out,_,h2,h3=>by simp[H5]at h3;subst h3;exact⟨cs,rfl,h2⟩
 | [],_::_,_,_,_,h1,_,_=>h1.elim
 |_::_,[],_,_,_,h1,_,_=>h1.elim
 | (i, v) :: ps, (j, es) :: qs, cs, ds, out, h1, h2, h3 => by
  obtain⟨⟨e,hv⟩,h1⟩:=h1;simp only at e;subst e;simp only[H5]at h3;split at h3
  .rename_i off size hp;cases hb:(Nat.beq es.length size&&Nat.ble (off+es.length) ds.length) with
   |false=>rw[hb]at h3;simp at h3
   | true=>
    rw[hb]at h3;simp only[eh]at h3;rw[aa]at hb;have hl1:es.length=size:=af hb.1;have hl2:off+es.length<=ds.length:=aF hb.2;have hcs:cs.size=ds.length:=by have:=h2.length;simpa using this
    have hvl:v.cells.size=es.length:=by have:=hv.length;simpa using this
    have step:∀(l:eA)(k:Nat)(cs:Array Value),off+k+l.length<=cs.size ->
      ((l.zipIdx k).foldl (λcs(x:Value×Nat)=>cs.setIfInBounds (off+x.2) x.1) cs).toList=cs.toList.take (off+k)++(l++cs.toList.drop (off+k+l.length)):=by
     intro l;induction l with
     |nil=>intro k cs _;simp
     |cons x l ih=>
      intro k cs hk;simp only[List.zipIdx_cons,bq];simp only[aT]at hk;rw[ih (k+1) _ (by simp;omega)];have hlt:off+k<cs.toList.length:=by simp;omega
      rw[Array.toList_setIfInBounds];rw[show off+(k+1)=off+k+1 from by omega];rw[List.take_succ_eq_append_getElem (by simpa using hlt)];rw[List.take_set_of_le (ai _)];rw[List.drop_set_of_lt (by omega)];simp only[List.getElem_set_self,bF,cz,bG,aT];congr 4;omega
    have hz:=step v.cells.toList 0 cs (by simp;omega);simp only[bo]at hz;obtain⟨r,hr1,hr2⟩:=Wq places pl hpl ps qs ((v.cells.zipIdx).foldl (λcs(x:Value×Nat)=>cs.setIfInBounds (off+x.2) x.1) cs) (Ik ds off es) out h1 (by
     have e:(v.cells.zipIdx).foldl (λcs(x:Value×Nat)=>cs.setIfInBounds (off+x.2) x.1) cs=(v.cells.toList.zipIdx).foldl (λcs(x:Value×Nat)=>cs.setIfInBounds (off+x.2) x.1) cs:=by rw[←Array.foldl_toList,Array.toList_zipIdx]
     rw[e,hz];unfold Ik;refine(h2.take off).append (hv.append ?_);have hl:v.cells.toList.length=es.length:=hv.length;rw[hl];exact h2.drop _) h3
    refine⟨r,?_,hr2⟩;simp only[Instr.fill,hpl _ _ hp];rw[em (by simp[hvl,hl1,hcs];omega)];exact hr1
  .cases h3
theorem K6(hL:Cd S w ρ a L)(hp:pt a cur):∀{l:List (Nat×Operand)}{qs:List (Nat×List D)},H_ L cur l=some qs ->
  Ay (λ(p:Nat×Value)(q:Nat×List D)=>p.1=q.1/\Ay (Rd S w ρ) p.2.cells.toList q.2) (l.map λx=>(x.1,a.eval x.2)) qs
 | [],qs,h=>by simp[H_]at h;subst h;trivial
 | (i,x)::r,qs,h=>by
  simp only[H_]at h;split at h
  .rename_i v l h1 h2;simp at h;subst h;obtain⟨av,ha,hc⟩:=Dt h1;exact⟨⟨rfl,N2 (Bp hL hp ha) hc⟩,K6 hL hp h2⟩
  .cases h
theorem Xe:∀{l:List Field}{pl:List (Nat×Nat)},Kn P l=some pl ->
  (l.mapM λf=>do pure (f.offset,←sizeOf f.type):Sem (List (Nat×Nat))).run P w=.ok pl w
 | [],pl,h=>by simp[Kn]at h;subst h;simp
 | f::r,pl,h=>by
  simp only[Kn]at h;split at h
  .rename_i n l h1 h2;simp at h;subst h;have ih:=Xe h2;simp only[List.mapM_cons,eo,eq,Ch h1,ep];rw[ih];simp
  .cases h
theorem Uf(f:α->Sem β)(xs:Array α):(xs.mapM f:Sem (Array β)).run P w=((xs.toList.mapM f:Sem (List β)).run P w).andThen λl w'=>.ok l.toArray w':=by rw[Array.mapM_eq_mapM_toList];simp
theorem Xw{fields:Array Field}{pl:List (Nat×Nat)}(hz:Dn P t=some z)(hu:P.underlying t=some (.struct fields))
  (hpl:Kn P fields.toList=some pl)(hf:Instr.fill (λ(x:Nat)=>pl[x]?) z.cells parts.toList=some r):(Instr.build t parts).run P w=.ok (.agg r) w:=by
 have:=Xe (P:=P) (w:=w) hpl;simp only[Instr.build,eo,Fz hz,el hu,ep,Uf,this];have e:(λ(x:Nat)=>(pl.toArray)[x]?)=(λ(x:Nat)=>pl[x]?):=by funext x;simp
 simp only[e,hf];rfl
theorem Y0{e:TypeId}{n s:Nat}(hz:Dn P t=some z)(hu:P.underlying t=some (.array n e))(hs:A8 P e=some s)
  (hf:Instr.fill (λi=>some (i*s,s)) z.cells parts.toList=some r):(Instr.build t parts).run P w=.ok (.agg r) w:=by
 simp only[Instr.build,eo,Fz hz,el hu,ep,Ch hs,hf];rfl
end
end Go.SL
set_option maxHeartbeats 8000000
namespace Go.SL
variable{av v:AV}{ad:Addr}{c:Cl}{f:Fn}{n:Int}{l:List AV}{ds:List D}{cells ps row:List Pd}{cap i len m off size sz y:Nat}{b:Option Addr}{k:Option Cl}{e t:TypeId}{x:Value}
section
variable{P:Program}{C:Ctx}{S:Nat->Prop}{w:World}{ρ:eA}{R:List Res}{L:List Ent}{cur:A_}{a:Act}
theorem An0(h:(l.mapM fun|.d x=>some x|_=>none)=some ds):l=ds.map AV.d:=by
 induction l generalizing ds with
 |nil=>simp at h;subst h;rfl
 | cons x l ih=>
  simp only[List.mapM_cons]at h;cases x with
  |d y=>simp only[Option.bind_eq_bind,aj]at h;obtain⟨es,h1,h2⟩:=Dt h;grind
  |_=>simp at h
theorem Aqf{vs:eA}(h:Ay (RdA S w ρ) vs (ds.map AV.d)):Ay (Rd S w ρ) vs ds:=by refine da (by simpa using h.length) λj x d hx hd=>?_;have:=h.both hx (by rw[au,hd];rfl);exact this.d_inv
variable{k:IntKind}
theorem Gw(hu:P.underlying t=some (.slice e))(hs:A8 P e=some sz)(hb:b=some ad)(h0:0<=n)(h1:n<len:=by omega) :
  (Instr.indexAt t (.slice b len cap) (.int k n)).run P w=.ok (.pointer (some (ad.add (n.toNat*sz)))) w:=by
 subst hb;simp[Instr.indexAt,asIntOf,el hu,Ch hs,h0,h1]
theorem uS{same:TypeId->AV->AV->Option Bool}{d:Nat}(hs:∀(t:TypeId)(a b:AV)(z:Bool),same t a b=some z->∀x y,RdA S w ρ x a->RdA S w ρ y b->(Op.equalIn d t x y).run P w=.ok z w){vs us:eA} :
  ∀{fs:List Field}{ds es:List D}{z:Bool},uT P same fs ds es=some z->Ay (Rd S w ρ) vs ds->Ay (Rd S w ρ) us es->(Op.eqFields d vs.toArray us.toArray fs).run P w=.ok z w
 | [],ds,es,z,h,_,_=>by simp[uT]at h;subst h;simp[Op.eqFields]
 | f :: fs, ds, es, z, h, hv, hu => by
  simp only[uT]at h
  cases hn : (f.name == "_") with
  |true=>
   rw[hn]at h
   have : ¬ (f.name ≠ "_") := by simpa using hn
   simp only[Op.eqFields,em this];exact uS hs h hv hu
  | false=>
   rw[hn]at h;simp only[eg]at h
   have hne : f.name ≠ "_" := by simpa using hn
   split at h
   .rename_i n e1;split at h
    .rename_i a b e2 e3;split at h
     .rename_i r q e4 e5;simp at h;subst h;obtain⟨x,hx,hrx⟩:=Qt (P:=P) hv e1 e2;obtain⟨y,hy,hry⟩:=Qt (P:=P) hu e1 e3;have h1:=hs _ _ _ _ e4 x y hrx hry;have h2:=uS hs e5 hv hu;simp only[Op.eqFields,ei hne,eo,hx,hy,h1,ep];cases r with
      |true=>simpa using h2
      |false=>simp
     .cases h
    .cases h
   .cases h
theorem Ady:∀{m:Nat}{t:TypeId}{a b:AV}{z:Bool},eqA P m t a b=some z->∀{N:Nat},m<=N->∀{x y:Value},RdA S w ρ x a->RdA S w ρ y b->(Op.equalIn N t x y).run P w=.ok z w
 |0,t,a,b,z,h,N,_,x,y,_,_=>by simp[eqA]at h
 | m + 1, t, a, b, z, h, N, hN, x, y, hx, hy => by
  obtain⟨N,rfl⟩:∃q,N=q+1:=⟨N-1,by omega⟩;simp only[eqA]at h;split at h
  .rename_i ht;split at h
   .simp at h;subst h;rw[hx.exact_inv,hy.exact_inv];exact Go.run_equalIn_bool w N t _ _ ht
   .cases h
  .rename_i k ht;split at h
   .split at h
    .rename_i hk;subst hk;simp at h;subst h;rw[hx.exact_inv,hy.exact_inv];exact Go.run_equalIn_int w N t _ _ _ _ ht
    .cases h
   .cases h
  .rename_i ht;split at h
   .simp at h;subst h;rw[hx.exact_inv,hy.exact_inv];exact Go.run_equalIn_string w N t _ _ ht
   .cases h
  .rename_i fs ht;split at h
   .rename_i ds es;cases hst:P.stoodInHeld t with
    |true=>rw[hst]at h;simp at h
    |false=>
     rw[hst]at h;simp only[eg]at h;obtain⟨vs,rfl,hvs⟩:=hx.agg_inv;obtain⟨us,rfl,hus⟩:=hy.agg_inv;have hfo:P.fieldsOf t=fs:=by simp[Program.fieldsOf,ht]
     rw[Go.run_equalIn_struct w N t _ _ (by rw[hfo];exact ht) hst,hfo];exact uS (λt a b z h x y hx hy=>Ady h (by omega) hx hy) h hvs hus
   .cases h
  .cases h
theorem Nq{n:Nat}(hu:P.underlying t=some (.array m e))(hs:A8 P e=some sz)(h1:n<m) :
  (Instr.indexAt t (.pointer (some ad)) (.int k (Int.ofNat n))).run P w=.ok (.pointer (some (ad.add (n*sz)))) w:=by
 have h0:(0:Int)<=Int.ofNat n/\Int.ofNat n<(m:Int):=⟨Int.natCast_nonneg _,by simpa using h1⟩;have e:(Int.ofNat n).toNat=n:=rfl;simp only[Instr.indexAt,asIntOf,Instr.sureAddr,eo,eq,ep,el hu,Ch hs,h0,and_self,if_true,e]
theorem RdP.cut{l h:Nat}{rows:List (List Pd)}(hr:RdP S w (.slice b len cap) (.s rows))(hl:l<=h)(hh:h<=len)(hz:∀row,row∈rows->row.length=size) :
  RdP S w (.slice (if cap=l then b else b.map (·.add (l*size))) (h-l) (cap-l)) (.s ((rows.take h).drop l)):=by
 cases hr with
 | s _ ad _ sz _ xs hc hm hn hsz hx hrr =>
  have e:h-l=((rows.take h).drop l).length:=by simp;omega
  rw[e];by_cases hcl:cap=l
  .have:((rows.take h).drop l)=[]:=by
    apply List.drop_eq_nil_of_le;simp;omega
   rw[this];refine .s _ ad (cap-l) size [] xs (by simp) (by omega) (λhb=>?_) (by simp) (by simp) (by simp);omega
  .rw[em hcl];have hmem:∀(i:Nat) row,((rows.take h).drop l)[i]?=some row->rows[l+i]?=some row:=by
    grind
   refine .s _ (ad.add (l*size)) (cap-l) size _ (λi j=>xs (l+i) j) (by rw[←e];omega) (by omega) (λhb=>?_) (λrow hrow=>?_) (λi row hi j d hj=>?_) (λi row hi j d hj=>?_)
   .cases b with
    |none=>have:=hn rfl;omega
    |some x=>simp at hb
   .exact hz row (bc (cx hrow))
   .have hi':=hmem i row hi;obtain⟨g1,g2,g3⟩:=hx _ row hi' j d hj;have hss:sz=size:=by
     grind
    subst hss;refine⟨by rw[g1];rfl,by rw[Dh];exact g2,?_⟩;rw[Rf,←g3];congr 2;rw[az];omega
   .exact hrr _ row (hmem i row hi) j d hj
theorem Cc{c:BoundsCode}(h0:0<=n)(h1:n<=y:=by omega):(Instr.sliceBound (.int k n) y c).run P w=.ok n.toNat w:=by simp[Instr.sliceBound,asIntOf,h0,h1]
theorem Rd.o_inv(h:Rd S w ρ x (.o i off)):∃b,x=.pointer (some ⟨b,off,none⟩)/\ρ[i]?=some (.pointer (some ⟨b,0,none⟩)):=by cases h with|o h=>exact⟨_,rfl,h⟩
theorem Rd.os_inv(h:Rd S w ρ x (.os i)):ρ[i]?=some x:=by cases h with|os h _=>exact h
theorem Rd.oe_inv{k:Nat}(h:Rd S w ρ x (.oe i k size off)):∃b o len cap,x=.pointer (some ⟨b,o+k*size+off,none⟩)/\ρ[i]?=some (.slice (some ⟨b,o,none⟩) len cap):=by cases h with|oe h=>exact⟨_,_,_,_,rfl,h⟩
theorem Rd.ip_inv(h:Rd S w ρ x (.ip cells)):∃ad,x=.pointer (some ad)/\Fy S w ad cells:=by cases h with|ip h=>exact⟨_,rfl,h⟩
theorem Rd.p_inv{y:Pd}(h:Rd S w ρ x (.p y)):RdP S w x y:=by cases h with|p h=>exact h
theorem Rd.fb_inv(h:Rd S w ρ x (.fb f ps)):∃vs:eA,x=.func f #[.agg vs.toArray] #[]/\Ay (RdP S w) vs ps:=by cases h with|fb hl h=>exact⟨_,rfl,da hl h⟩
theorem Rd.fn_inv{first caps:List D}(h:Rd S w ρ x (.fn f first caps)):∃xs cs:eA,x=.func f xs.toArray cs.toArray/\Ay (Rd S w ρ) xs first/\Ay (Rd S w ρ) cs caps:=by cases h with|fn hl hm hx hc=>exact⟨_,_,rfl,da hl hx,da hm hc⟩
theorem RdA.tup_inv(h:RdA S w ρ x (.tup l)):∃vs:eA,x=.tuple vs.toArray/\Ay (RdA S w ρ) vs l:=by cases h with|tup hl h=>exact⟨_,rfl,da hl h⟩
theorem Nk{i g k size:Nat}:∀{l:List Pd}{off j:Nat}{d:D},(Jm i g k size off l)[j]?=some d->∃p,l[j]?=some p/\((∃x,p=.v x/\d=.p (.v x))\/∃r,p=.s r/\d=.oi i g k size (off+j))
 | [],off,j,d,h=>by simp[Jm]at h
 | .v x::r,off,j,d,h=>by
  simp only[Jm]at h;cases j with
  |zero=>grind
  |succ j=>simp at h;obtain⟨p,h1,h2⟩:=Nk h;grind
 | .s x::r,off,j,d,h=>by
  simp only[Jm]at h;cases j with
  |zero=>simp at h;subst h;exact⟨_,rfl,.inr ⟨x,rfl,rfl⟩⟩
  |succ j=>simp at h;obtain⟨p,h1,h2⟩:=Nk h;grind
theorem Yy(ht:P.underlying t=some (.slice e))(a:Option Addr)(n c d:Nat):(Op.equalIn (d+1) t (.slice a n c) (.slice none 0 0)).run P w=.ok a.isNone w:=by cases a <;> simp[Op.equalIn,el ht]
theorem Nf(ht:P.underlying t=some (.slice e))(a:Option Addr)(n c:Nat):(Op.equal t (.slice a n c) (.slice none 0 0)).run P w=.ok a.isNone w:=
 Yy ht a n c 9999
theorem Ai9(hL:Cd S w ρ a L)(hp:pt a cur){lo hi:Option Operand}{k1 k2:IntKind}{l hh:Int}(e3:(match lo with|none=>some (Value.int .i64 0)|some y=>(look L cur y).bind By)=some (.int k1 l))
  (e4:(match hi with|none=>some (Value.int .i64 len)|some y=>(look L cur y).bind By)=some (.int k2 hh))(h0:0<=l)(h1:l<=hh)(h2:hh<=cap) :
  (Instr.sliceBounds true len cap (lo.map a.eval) (hi.map a.eval) none).run P w=.ok (l.toNat,hh.toNat,cap) w:=by
 unfold Instr.sliceBounds;cases hi with
 | none=>
  simp only[ae,Value.int.injEq]at e4;obtain⟨_,e4⟩:=e4;subst e4;cases lo with
  |none=>simp only[ae,Value.int.injEq]at e3;obtain⟨_,e3⟩:=e3;subst e3;simp
  |some y=>simp only at e3;have:=Cc (P:=P) (w:=w) (k:=k1) (n:=l) (y:=len) (c:=.sliceB) h0;simp[Bc hL hp e3,this]
 | some z=>
  simp only at e4;have g1:=Cc (P:=P) (w:=w) (k:=k2) (n:=hh) (y:=cap) (c:=.sliceAcap) (by omega);cases lo with
  |none=>simp only[ae,Value.int.injEq]at e3;obtain⟨_,e3⟩:=e3;subst e3;simp[Bc hL hp e4,g1]
  |some y=>simp only at e3;have:=Cc (P:=P) (w:=w) (k:=k1) (n:=l) (y:=hh.toNat) (c:=.sliceB) h0;simp[Bc hL hp e3,Bc hL hp e4,this,g1]
variable{k:Option Cl}
theorem A5n{v0:AV}(h:fnV P t c v0=some (v,k))(hk:∀y,k=some y->y.ok P)(hr:RdA S w ρ x v0):RdA S w ρ x v:=by
 unfold fnV at h;split at h
 .rename_i y q g _ _ _ hu;simp only[ae,al]at h;obtain⟨rfl,rfl⟩:=h;have e:=hr.exact_inv;have g1:y=.func (.func g) #[] #[]:=hk _ rfl;rw[e,g1];exact .d (Rd.fn (xs:=[]) (cs:=[]) rfl rfl (by simp) (by simp))
 .simp only[ae,al]at h;obtain⟨rfl,rfl⟩:=h;exact hr
theorem Atd(h:Aaw c=some row):∃a b,c=.idx a b row:=by cases c <;> simp[Aaw]at h;subst h;exact⟨_,_,rfl⟩
theorem Q_{α:Type}(size:Nat):∀(n:Nat)(l:List α),(Cm size n l).length=n
 |0,_=>rfl
 |n+1,l=>by simp[Cm,Q_ size n]
theorem Xl{α:Type}(size:Nat):∀(n:Nat)(l:List α)(i:Nat)(row:List α),(Cm size n l)[i]?=some row->row=(l.drop (i*size)).take size
 |0,_,_,_,h=>by simp[Cm]at h
 |n+1,l,0,row,h=>by simp[Cm]at h;simp[h]
 |n+1,l,i+1,row,h=>by simp only[Cm,cI]at h;have:=Xl size n (l.drop size) i row h;rw[this,cq];congr 2;rw[az];omega
theorem uY : ∀{ds : List D}{ps : List Pd}{vs : eA}, dPs ds = some ps -> Ay (Rd S w ρ) vs ds -> Ay (Rd S w ρ) vs (ps.map D.p)
 | [],ps,vs,h,hv=>by simp[dPs]at h;subst h;exact hv
 | d :: r, ps, vs, h, hv => by
  simp only[dPs]at h;split at h
  .rename_i x l h1 h2;simp at h;subst h;cases vs with
   |nil=>exact hv.elim
   | cons v vs=>
    refine⟨?_,uY h2 hv.2⟩;have hd:=hv.1;cases d with
    |p y=>simp[dP]at h1;subst h1;exact hd
    | fn f a b=>
     cases a with
     |cons=>simp[dP]at h1
     | nil=>
      cases b with
      |cons=>simp[dP]at h1
      | nil=>
       simp[dP]at h1;subst h1;cases hd with
       |fn hl hm _ _=>rename_i xs cs _ _;have e1:xs=[]:=List.length_eq_zero_iff.1 hl;have e2:cs=[]:=List.length_eq_zero_iff.1 hm;subst e1;subst e2;exact .p (.v _ rfl)
    |_=>simp[dP]at h1
  .cases h
theorem A0y{S:Nat->Prop}{w:World}{y:Value}(h:RdP S w x (.v y)):x=y:=by cases h;rfl
variable{x:Operand}
theorem Aor(hI:Inv C S w ρ R)(hL:Cd S w ρ a L)(hp:pt a cur){s d:TypeId}(h:U7 P L cur R c s d x=some (v,k))
  (hk:∀x,k=some x->x.ok P):∃y,(convert s d (a.eval x)).run P w=.ok y w/\RdA S w ρ y v:=by
 unfold U7 at h;split at h
 .rename_i e _ b hs hd;have key:∀(ad:Option Addr)(len cap:Nat)(rows:List (List Pd)),a.eval x=.slice ad len cap->rows.length=len->P.underlying e=some (.int .u8)->(rows=b.data.toList.map λb=>[Pd.v (.int .u8 (b.toNat:Int))]) ->
    (∀(i:Nat) n,b.data.toList[i]?=some n->∃a0,ad=some a0/\w.cell? (a0.add i)=some (.int .u8 (n.toNat:Int)))->(convert s d (a.eval x)).run P w=.ok (.string b) w:=by
   intro ad len cap rows hx hl he hr hc;rw[hx,run_convert_bytes_string (P:=P) w s d e ad len cap hs he hd];have hlen:len=b.data.toList.length:=by rw[←hl,hr];simp
   have hfold:∀(l:List UInt8)(acc:ByteArray),(l.map λn=>(n.toNat:Int)).foldl (λr n=>r.push (UInt8.ofNat n.toNat)) acc=⟨(acc.data.toList++l).toArray⟩:=by
    intro l;induction l with
    |nil=>intro acc;simp
    |cons n l ih=>intro acc;rw[bv,bq,ih];congr 1;simp[ByteArray.push]
   cases ad with
   | none=>
    have:b.data.toList=[]:=by
     cases hb:b.data.toList with
     |nil=>rfl
     |cons n l=>obtain⟨a0,h0,_⟩:=hc 0 n (by rw[hb];rfl);cases h0
    have hb:b=.empty:=by obtain⟨⟨l⟩⟩:=b;simp only at this;subst this;rfl
    subst hb;rfl
   | some a0=>
    have hload:=run_loadCells_list (P:=P) w a0 (b.data.toList.map λn=>Value.int .u8 (n.toNat:Int)) λj v hv=>by rw[au]at hv;obtain⟨n,h1,rfl⟩:=Cv hv;obtain⟨a1,h2,h3⟩:=hc j n h1;cases h2;exact h3
    have h5:=run_bytesToString (P:=P) w a0 len cap (b.data.toList.map λn=>(n.toNat:Int)) (by rw[cC];have:(Value.int .u8∘λn:UInt8=>(n.toNat:Int))=λn=>Value.int .u8 (n.toNat:Int):=rfl;rw[this,hlen];simpa using hload)
    rw[h5,hfold];obtain⟨⟨l⟩⟩:=b;rfl
  split at h
  .rename_i i he hx;split at h
   .rename_i e' z rows hi;cases hb:Nat.beq z 1 with
    |false=>rw[hb]at h;cases h
    | true=>
     rw[hb]at h;have hz:=af hb;subst hz;simp only[eh,ae,al]at h;obtain⟨rfl,rfl⟩:=h;have hr:=hk _ rfl;refine⟨_,?_,Eg rfl⟩;have hx':=Bp hL hp hx;have hρ:=hx'.d_inv.os_inv;rcases(hI.ok i _ _ hi hρ).live hx'.d_inv.one with⟨h1,h2⟩|⟨b0,o,cap,vs,h1,h2,h3,h4,h5,h6,h7⟩
     .refine key none 0 0 rows h1 (by rw[h2];rfl) he hr λi n hn=>?_;have:rows=b.data.toList.map λb=>[Pd.v (.int .u8 (b.toNat:Int))]:=hr;rw[h2]at this;have:=congrArg List.length this;simp only[bn,aq]at this;have:=(ac.1 hn).1;omega
     .refine key _ _ cap rows h1 rfl he hr λi n hn=>⟨_,rfl,?_⟩;have hrow:rows[i]?=some [Pd.v (.int .u8 (n.toNat:Int))]:=by
       have:rows=b.data.toList.map λb=>[Pd.v (.int .u8 (b.toNat:Int))]:=hr;rw[this,au,hn];rfl
      obtain⟨y,hy,hR⟩:=h7 i _ hrow 0 _ rfl;rw[Cn,h2.cell];rw[Nat.mul_one,bo]at hy;have:=A0y hR;rw[hy,this]
   .cases h
  .rename_i rows he hx;simp only[ae,al]at h;obtain⟨rfl,rfl⟩:=h;have hr:=hk _ rfl;refine⟨_,?_,Eg rfl⟩;have hx':=(Bp hL hp hx).d_inv.p_inv;generalize hv:a.eval x=val at hx';have hr':rows=b.data.toList.map λb=>[Pd.v (.int .u8 (b.toNat:Int))]:=hr;cases hx' with
   | s a0 ad cap sz _ xs _ _ _ hsz hxs hrs=>
    rw[←hv];refine key a0 _ cap rows hv rfl he hr λi n hn=>?_;have hrow:rows[i]?=some [Pd.v (.int .u8 (n.toNat:Int))]:=by rw[hr',au,hn];rfl
    have hs1:sz=1:=by rw[←hsz _ (ag hrow)];rfl
    subst hs1;obtain⟨g1,g2,g3⟩:=hxs i _ hrow 0 _ rfl;have g4:=hrs i _ hrow 0 _ rfl;refine⟨ad,g1,?_⟩;rw[Nat.mul_one,bo]at g3;rw[g3,A0y g4]
  .cases h
 .cases h
theorem L9(hI:Inv C S w ρ R)(hL:Cd S w ρ a L)(hp:pt a cur)(h:O6 L cur x=some av):RdA S w ρ (a.eval x) av:=by
 cases x with
 |global g=>simp only[O6]at h;obtain⟨cells,h1,rfl⟩:=Cv h;exact .d (.ip (hI.glOk.1 g cells h1).1)
 |_=>exact Bp hL hp h
theorem Aou(hI : Inv C S w ρ R)(hL : Cd S w ρ a L)(hp : pt a cur){o : Oper}(h : Cg P L cur R c o.op = some (v, k))
  (hk:∀x,k=some x->x.ok P):A65 P S w ρ a o v:=by
 obtain⟨dst,op,type,pos,after,guard⟩:=o;simp only at h;cases op with
 |move x=>simp only[Cg]at h;obtain⟨z,h1,h2⟩:=Cv h;simp at h2;obtain⟨rfl,rfl⟩:=h2;exact⟨_,rfl,Bp hL hp h1⟩
 |assign x=>simp only[Cg]at h;obtain⟨z,h1,h2⟩:=Cv h;simp at h2;obtain⟨rfl,rfl⟩:=h2;exact⟨_,rfl,Bp hL hp h1⟩
 |pick u x y=>simp only[Cg]at h;obtain⟨z,h1,h2⟩:=Cv h;simp at h2;obtain⟨rfl,rfl⟩:=h2;obtain⟨b,hb,hr⟩:=Aov hL hp h1;exact⟨_,by simp[execOp,hb,asBool],hr⟩
 | build t parts=>
  simp only[Cg]at h;split at h
  .rename_i zs fields ps e1 e2 e3;obtain⟨z,hz,hd⟩:=Dt e1;split at h
   .rename_i ds e4;obtain⟨pl,hpl,hf⟩:=Dt e4;simp at h;obtain⟨rfl,rfl⟩:=h;obtain⟨r,hr1,hr2⟩:=Wq (S:=S) (w:=w) (ρ:=ρ) (λ(x:Nat)=>pl[x]?) pl (λ_ _ h=>h) _ _ z.cells zs ds (K6 hL hp e3) (J1 hd) hf;refine⟨.agg r,?_,by simpa using RdA.agg hr2⟩;simp only[execOp,eo];rw[Xw hz e2 hpl (r:=r) (by simpa using hr1)];rfl
   .cases h
  .rename_i zs n e ps e1 e2 e3;obtain⟨z,hz,hd⟩:=Dt e1;split at h
   .rename_i s e5;split at h
    .rename_i ds hf;simp at h;obtain⟨rfl,rfl⟩:=h;obtain⟨r,hr1,hr2⟩:=Wq (S:=S) (w:=w) (ρ:=ρ) (λ(x:Nat)=>some (x*s,s)) ((List.range n).map λi=>(i*s,s)) (λi x hx=>by
      rw[au]at hx;obtain⟨j,hj,rfl⟩:=Cv hx;have:j=i:=by have hi:=(ac.1 hj).1;simp at hi;rw[bA hi]at hj;exact(aQ hj).symm
      rw[this]) _ _ z.cells zs ds (K6 hL hp e3) (J1 hd) hf
     refine⟨.agg r,?_,by simpa using RdA.agg hr2⟩;simp only[execOp,eo];rw[Y0 hz e2 e5 (r:=r) (by simpa using hr1)];rfl
    .cases h
   .cases h
  .cases h
 | load t x =>
  by_cases hg:∃g,x=.global g
  .obtain⟨g,rfl⟩:=hg;simp only[Cg]at h;split at h
   .rename_i cells n e1 e2;obtain⟨z,h1,h2⟩:=Cv h;simp at h2;obtain⟨rfl,rfl⟩:=h2;have hc:=(hI.glOk.1 g cells e1).1;obtain⟨y,hy,hr⟩:=Ha (P:=P) (S:=S) (w:=w) (ρ:=ρ) (ad:=⟨g,0,none⟩) h1 (λj d hd=>by
     rw[au]at hd;obtain⟨d',h3,h4⟩:=Cv hd;subst h4;obtain⟨x,h5,h6,h7⟩:=hc.take n j d' h3;exact⟨x,h6,.p h7⟩)
    refine⟨y,?_,hr⟩;simp only[execOp,eo,Act.eval,Instr.loadAt,Instr.sureAddr,eq,ep,hy]
   .cases h
  .have h : Q5 P L cur R c t x = some (v, k) := by
    cases x with
    |global g=>exact absurd ⟨g,rfl⟩ hg
    |_=>exact h
   unfold Q5 at h;split at h
   .rename_i i off n e1 e2;split at h
    .rename_i t' cells hi;obtain⟨z,h1,h2⟩:=Dt h;obtain⟨b,hx,hρ⟩:=(Bp hL hp e1).d_inv.o_inv;obtain⟨y,hy,hr⟩:=Ha (P:=P) (S:=S) (w:=w) (ρ:=ρ) (ad:=⟨b,off,none⟩) h1 (λj d hd=>Aej hI hi hρ off n j d hd);refine⟨y,?_,A5n h2 hk hr⟩;simp only[execOp,eo,hx,Instr.loadAt,Instr.sureAddr,eq,ep,hy]
    .cases h
   .rename_i cells n e1 e2;obtain⟨z,h1,h2⟩:=Cv h;simp at h2;obtain⟨rfl,rfl⟩:=h2;obtain⟨ad,hx,hc⟩:=(Bp hL hp e1).d_inv.ip_inv;obtain⟨y,hy,hr⟩:=Ha (P:=P) (S:=S) (w:=w) (ρ:=ρ) (ad:=ad) h1 (λj d hd=>by
     rw[au]at hd;obtain⟨d',h3,h4⟩:=Cv hd;subst h4;obtain⟨x,h5,h6,h7⟩:=hc.take n j d' h3;exact⟨x,h6,.p h7⟩)
    refine⟨y,?_,hr⟩;simp only[execOp,eo,hx,Instr.loadAt,Instr.sureAddr,eq,ep,hy]
   .rename_i i kk size off n e1 e2;split at h
    .rename_i s rows q1 q2 row hi q3;cases hb:Nat.beq s size with
     |false=>rw[hb]at h;simp at h
     | true=>
      rw[hb]at h;simp only[eh]at h;have hss:=af hb;subst hss;obtain⟨z,h1,h2⟩:=Cv h;simp at h2;obtain⟨rfl,rfl⟩:=h2;obtain⟨_,hrow⟩:=hk _ rfl;simp only[aG]at hrow;obtain⟨b,o,l,cp,hx,hρ⟩:=(Bp hL hp e1).d_inv.oe_inv;rcases(hI.ok i _ _ hi hρ).live rfl with⟨h3,h4⟩|⟨b',o',cp',vs,h3,hb',_,_,_,_,h5⟩
      .cases h3
      .cases h3;obtain⟨y,hy,hr⟩:=Ha (P:=P) (S:=S) (w:=w) (ρ:=ρ) (ad:=⟨b,o+kk*s+off,none⟩) h1 (λj d hd=>by
        rw[au]at hd;obtain⟨d',g1,g2⟩:=Cv hd;subst g2;rw[ap]at g1;split at g1
        .rw[ar]at g1;obtain⟨x,g3,g4⟩:=h5 kk row hrow (off+j) d' g1;refine⟨x,?_,.p g4⟩;rw[Cn,hb'.cell];rw[←g3];congr 1;omega
        .cases g1)
       refine⟨y,?_,hr⟩;simp only[execOp,eo,hx,Instr.loadAt,Instr.sureAddr,eq,ep,hy]
    .rename_i e s g q1 q2 row hi q3;split at h
     .rename_i s2 tys rows hg;cases hb:(Nat.blt 0 s&&(Nat.beq s size&&Nat.beq s s2)) with
      |false=>rw[hb]at h;simp at h
      | true=>
       rw[hb]at h;simp only[eh]at h;simp only[aa]at hb;obtain⟨b0,b1,b2⟩:=hb;have hs0:0<s:=by simpa[eu]using b0
       have hss:=af b1;subst hss;have hss:=af b2;subst hss;obtain⟨z,h1,h2⟩:=Cv h;simp at h2;obtain⟨rfl,rfl⟩:=h2;obtain⟨_,hrow⟩:=hk _ rfl;simp only[aG]at hrow;obtain⟨b,o,l,cp,hx,hρ⟩:=(Bp hL hp e1).d_inv.oe_inv;obtain⟨f,xs,cs,hgρ,hgo,hform⟩:=Py hI hi hg hρ rfl hs0;rcases hform with⟨h3,h4⟩|⟨b',o',cp',vs,h3,hb',_,_,_,h5⟩
       .cases h3
       .cases h3;obtain⟨y,hy,hr⟩:=Ha (P:=P) (S:=S) (w:=w) (ρ:=ρ) (ad:=⟨b,o+kk*s+off,none⟩) h1 (λj d hd=>by
         obtain⟨p,g1,g2⟩:=Nk hd;rw[ap]at g1;split at g1
         .rw[ar]at g1;obtain⟨x,g3,g4⟩:=hgo.2.2.1 kk row hrow (off+j) p g1;have g5:=h5 _ x g3;refine⟨x,?_,?_⟩
          .rw[Cn,Jn hb'];rw[←g5];congr 1;omega
          .rcases g2 with⟨u,rfl,rfl⟩|⟨r,rfl,rfl⟩
           .obtain⟨rfl,g6,_⟩:=g4;exact .p (.v _ g6)
           .exact .oi hgρ g3 g4.1
         .cases g1)
        refine⟨y,?_,hr⟩;simp only[execOp,eo,hx,Instr.loadAt,Instr.sureAddr,eq,ep,hy]
     .cases h
    .rename_i q0 q2 cells hi q1;obtain⟨z,h1,h2⟩:=Cv h;simp at h2;obtain⟨rfl,rfl⟩:=h2;obtain⟨b,o,l,cp,hx,hρ⟩:=(Bp hL hp e1).d_inv.oe_inv;obtain⟨b',o',len,cap,vs,h3,hb',_,hc⟩:=(hI.ok i _ _ hi hρ).live rfl;cases h3;obtain⟨y,hy,hr⟩:=Ha (P:=P) (S:=S) (w:=w) (ρ:=ρ) (ad:=⟨b,o+kk*size+off,none⟩) h1 (λj d hd=>by
      rw[ap]at hd;split at hd
      .rw[ar]at hd;obtain⟨x,g3,g4⟩:=hc.get hd;refine⟨x,?_,g4⟩;rw[Cn,hb'.cell];rw[ap]at g3;split at g3
       .rw[ar]at g3;rw[show o+kk*size+off+j=o+(kk*size+off+j) from by omega];simpa using g3
       .cases g3
      .cases hd)
     refine⟨y,?_,hr⟩;simp only[execOp,eo,hx,Instr.loadAt,Instr.sureAddr,eq,ep,hy]
    .cases h
   .cases h
 | nilCheck x=>
  simp only[Cg]at h;split at h
  .rename_i i off e1;simp at h;obtain⟨rfl,rfl⟩:=h;have hr:=Bp hL hp e1;obtain⟨b,hx,_⟩:=hr.d_inv.o_inv;exact⟨_,by simp only[execOp,hx];rfl,hx ▸ hr⟩
  .rename_i i off s k e1;simp at h;obtain⟨rfl,rfl⟩:=h;have hr:=Bp hL hp e1;obtain⟨b,o,l,c,hx,_⟩:=hr.d_inv.oe_inv;exact⟨_,by simp only[execOp,hx];rfl,hx ▸ hr⟩
  .rename_i cells e1;simp at h;obtain⟨rfl,rfl⟩:=h;have hr:=Bp hL hp e1;obtain⟨ad,hx,_⟩:=hr.d_inv.ip_inv;exact⟨_,by simp only[execOp,hx];rfl,hx ▸ hr⟩
  .cases h
 | binOp b t x y yt=>
  simp only[Cg]at h;split at h
  .rename_i u1 v1 e1 e2;have hx:=Bc hL hp e1;have hy:=Bc hL hp e2;split at h
   .rename_i z hz;simp at h;obtain⟨rfl,rfl⟩:=h;obtain⟨r1,r2⟩:=A6x (P:=P) (w:=w) hz t x y;refine⟨z,?_,Eg r2⟩;simp only[execOp,hx,hy];rw[eo,r1];rfl
   .split at h
    .rename_i z n hz;simp at h;obtain⟨rfl,rfl⟩:=h;have hn:n≠0:=hk _ rfl;obtain⟨r1,r2⟩:=A2m (P:=P) (w:=w) hz hn t x y;refine⟨z,?_,Eg r2⟩;simp only[execOp,hx,hy];rw[eo,r1];rfl
    .split at h
     .rename_i hu;obtain⟨z,hz,h2⟩:=Cv h;simp at h2;obtain⟨rfl,rfl⟩:=h2;obtain⟨r1,r2⟩:=A2n (P:=P) (w:=w) hz t hu x y;refine⟨z,?_,Eg r2⟩;simp only[execOp,hx,hy];rw[eo,r1];rfl
     .cases h
  .unfold Aa1 at h;split at h
   .rename_i rows e1 e2;split at h
    .rename_i e hu;simp at h;obtain⟨rfl,rfl⟩:=h;have hx:=(Bp hL hp e1).d_inv.p_inv;have hy:=(Bp hL hp e2).exact_inv;generalize hxe:a.eval x=xv at hx;cases hx with
     | s ad0 ad cap size _ xs hc hm hz=>
      refine⟨.bool ad0.isNone,?_,.d (.nq λhn=>?_)⟩
      .have he:=Nf (P:=P) (w:=w) (t:=t) hu ad0 rows.length cap;simp only[execOp,hxe,hy,eqGuard,binOp,eo];simp[he]
      .have hn:ad0=none:=by cases ad0 <;> simp_all
       have:=hz hn;exact bm (by omega)
    .cases h
   .rename_i j e1 e2;split at h
    .rename_i e e' s rows hu hi;simp at h;obtain⟨rfl,rfl⟩:=h;have hr:=(Bp hL hp e1).d_inv;have hy:=(Bp hL hp e2).exact_inv;rcases(hI.ok j _ _ hi hr.os_inv).live hr.one with⟨h3,h4⟩|⟨b',o,cp,vs,h3,_⟩
     .refine⟨.bool true,?_,.d (.nq λ_=>h4)⟩;have he:=Nf (P:=P) (w:=w) (t:=t) hu none 0 0;simp only[execOp,h3,hy,eqGuard,binOp,eo];simp[he]
     .refine⟨.bool false,?_,.d (.nq λhn=>by cases hn)⟩;have he:=Nf (P:=P) (w:=w) (t:=t) hu (some ⟨b',o,none⟩) rows.length cp;simp only[execOp,h3,hy,eqGuard,binOp,eo];simp[he]
    .cases h
   .rename_i ds es e1 e2;cases hg:P.eqGuardType P.depth t with
    |true=>rw[hg]at h;simp at h
    | false=>
     rw[hg]at h;simp only[eg]at h;obtain⟨vs,hv,hvs⟩:=(Bp hL hp e1).agg_inv;obtain⟨us,hu,hus⟩:=(Bp hL hp e2).agg_inv;cases b with
     |eql=>obtain⟨z,hz,h2⟩:=Cv h;simp at h2;obtain⟨rfl,rfl⟩:=h2;have:=Ady (P:=P) (S:=S) (w:=w) (ρ:=ρ) hz (N:=10000) (by omega) (.agg hvs) (.agg hus);refine⟨.bool z,?_,Eg rfl⟩;simp only[execOp,hv,hu,eo,Go.run_eqGuard_agg w .eql t x y vs.toArray us.toArray hg,ep,Go.run_eql_struct,this];rfl
     |neq=>obtain⟨z,hz,h2⟩:=Cv h;simp at h2;obtain⟨rfl,rfl⟩:=h2;have:=Ady (P:=P) (S:=S) (w:=w) (ρ:=ρ) hz (N:=10000) (by omega) (.agg hvs) (.agg hus);refine⟨.bool !z,?_,Eg rfl⟩;simp only[execOp,hv,hu,eo,Go.run_eqGuard_agg w .neq t x y vs.toArray us.toArray hg,ep,Go.run_neq_struct,this];rfl
     |_=>cases h
   .cases h
 | unOp u t x=>
  simp only[Cg]at h;split at h
  .rename_i v1 e1;have hx:=Bc hL hp e1;obtain⟨z,hz,h2⟩:=Cv h;simp at h2;obtain⟨rfl,rfl⟩:=h2;obtain⟨r1,r2⟩:=A7t (P:=P) (w:=w) hz;refine⟨z,?_,Eg r2⟩;simp only[execOp,hx];rw[eo,r1];rfl
  .cases h
 | convert s d x=>
  simp only[Cg]at h;split at h
  .rename_i k1 k2 k3 n e1 e2 e3;have hx:=Bc hL hp e3;simp at h;obtain⟨rfl,rfl⟩:=h;refine⟨_,?_,Eg rfl⟩;simp[execOp,hx,convert,el e1,el e2,Conv.intToInt]
  .obtain⟨y,h1,h2⟩:=Aor hI hL hp h hk;exact⟨y,by simp only[execOp,eo,h1];rfl,h2⟩
 | makeFunc f first caps=>
  simp only[Cg]at h;split at h
  .rename_i x y e1 e2;split at h
   .rename_i x' y' e3 e4;simp at h;obtain⟨rfl,rfl⟩:=h;have r1:=Ed hL hp e1;have r2:=Ed hL hp e2;rw[An0 e3]at r1;rw[An0 e4]at r2;have s1:=Aqf r1;have s2:=Aqf r2;refine⟨_,?_,.d (.fn s1.length s2.length (λj x d hx hd=>s1.both hx hd) (λj x d hx hd=>s2.both hx hd))⟩;simp only[execOp,Instr.makeFunc,eo,eq,ep];congr 3 <;> (apply bL;simp)
   .split at h
    .rename_i ds _;obtain⟨ps,hps,h2⟩:=Cv h;simp only[al]at h2;obtain⟨rfl,rfl⟩:=h2;have r1:=Ed hL hp e1;have r2:=Ed hL hp e2;obtain⟨x0,hx0,hr0⟩:∃x0,first.toList.map a.eval=[x0]/\RdA S w ρ x0 (.agg ds):=by
      generalize first.toList.map a.eval=l at r1
      match l,r1 with
      | [x0],h=>exact⟨x0,rfl,h.1⟩
      | [],h=>exact h.elim
      |_::_::_,h=>exact h.2.elim
     have hc0:caps.toList.map a.eval=[]:=by
      generalize caps.toList.map a.eval=l at r2
      match l,r2 with
      | [],_=>rfl
      |_::_,h=>exact h.elim
     obtain⟨vs,rfl,hvs⟩:=hr0.agg_inv;have hq0:=uY hps hvs;have hq:Ay (RdP S w) vs ps:=da (by have:=hq0.length;simpa using this) (λj x d hx hd=>(hq0.both hx (by rw[au,hd];rfl)).p_inv);refine⟨_,?_,.d (.fb (f:=f) hq.length λj x d hx hd=>hq.both hx hd)⟩;simp only[execOp,Instr.makeFunc,eo,eq,ep];have f1:first.map a.eval = #[.agg vs.toArray]:=by apply bL;simpa using hx0
     have f2:caps.map a.eval = #[]:=by apply bL;simpa using hc0
     rw[f1,f2]
    .cases h
  .cases h
 | fieldAddr s x f=>
  simp only[Cg]at h;split at h
  .rename_i i off kk ft e1 e2;split at h
   .rename_i m e3;simp at h;obtain⟨rfl,rfl⟩:=h;obtain⟨b,hx,hρ⟩:=(Bp hL hp e1).d_inv.o_inv;refine⟨.pointer (some ⟨b,off+kk,none⟩),?_,.d (.o hρ)⟩;simp only[execOp,hx,eo,P6 e2 e3,Cn];rfl
   .cases h
  .rename_i cells kk ft e1 e2;split at h
   .rename_i m e3;simp at h;obtain⟨rfl,rfl⟩:=h;obtain⟨ad,hx,hc⟩:=(Bp hL hp e1).d_inv.ip_inv;refine⟨.pointer (some (ad.add kk)),?_,.d (.ip (hc.drop kk))⟩;simp only[execOp,hx,eo,P6 e2 e3];rfl
   .cases h
  .rename_i i r size off kk ft e1 e2;split at h
   .rename_i m e3;simp at h;obtain⟨rfl,rfl⟩:=h;obtain⟨b,o,l,c,hx,hρ⟩:=(Bp hL hp e1).d_inv.oe_inv;refine⟨.pointer (some ⟨b,o+r*size+(off+kk),none⟩),?_,.d (.oe hρ)⟩;simp only[execOp,hx,eo,P6 e2 e3,Cn];rw[bg];rfl
   .cases h
  .cases h
 | field s x f=>
  simp only[Cg]at h;split at h
  .rename_i ds kk ft e1 e2;split at h
   .rename_i n e3;obtain⟨z,hz,h2⟩:=Cv h;simp at h2;obtain⟨rfl,rfl⟩:=h2;obtain⟨vs,hv,hr⟩:=(Bp hL hp e1).agg_inv;obtain⟨fields,y,hu,hy,rfl,rfl⟩:=Zg e2;obtain⟨r,hr1,hr2⟩:=Qt (P:=P) hr e3 hz;refine⟨r,?_,hr2⟩;simp only[execOp,Instr.field,hv,eo,el hu,hy,asAgg,eq,ep,hr1]
   .cases h
  .cases h
 | indexAddr t x i=>
  simp only[Cg]at h;unfold Zn at h;split at h
  .rename_i e rows ik n e1 e2 e3;split at h
   .rename_i q1 q2 row;split at h
    .rename_i m e4;cases hb:Nat.beq row.length (m+1) with
     |false=>rw[hb]at h;simp at h
     |true=>rw[hb]at h;simp at h;obtain⟨rfl,rfl⟩:=h;have hlen:row.length=m+1:=af hb;have hpd:=(L9 hI hL hp e2).d_inv.p_inv;have hn:=Bc hL hp e3;obtain⟨h0,hrow⟩:=hk _ rfl;obtain⟨b,cap,hform,hcap,hm⟩:=hpd.slice_form;rw[hform]at hpd;obtain⟨hlt,hcells⟩:=hpd.row hrow;obtain⟨ad,had,hc⟩:=hcells (by intro e;rw[e]at hlen;simp at hlen);refine⟨.pointer (some (ad.add (n.toNat*(m+1)))),?_,.d (.ip (by rw[hlen]at hc;exact hc))⟩;simp only[execOp,hform,hn];rw[eo,Gw e1 e4 had h0];rfl
    .cases h
   .cases h
  .rename_i e j ik n e1 e2 e3;split at h
   .rename_i q0 s rows q1 q2 row hi;split at h
    .rename_i m e4;cases hb:Nat.beq s (m+1) with
     |false=>rw[hb]at h;simp at h
     | true=>
      rw[hb]at h;simp at h;obtain⟨rfl,rfl⟩:=h;have hss:=af hb;subst hss;have hr:=(L9 hI hL hp e2).d_inv;have hn:=Bc hL hp e3;obtain⟨h0,hrow⟩:=hk _ rfl;have hlt:=(ac.1 hrow).1;rcases(hI.ok j _ _ hi hr.os_inv).live hr.one with⟨h3,h4⟩|⟨b,o,cp,vs,h3,hb',_⟩
      .rw[h4]at hlt;simp at hlt
      .refine⟨.pointer (some ⟨b,o+n.toNat*(m+1)+0,none⟩),?_,.d (.oe (by rw[←h3];exact hr.os_inv))⟩;simp only[execOp,h3,hn];rw[eo,Gw e1 e4 rfl h0,Cn];rfl
    .cases h
   .rename_i q0 s g q1 q2 row hi;split at h
    .rename_i m s2 tys rows hole e4 hg;cases hb:(Nat.beq s (m+1)&&Nat.beq s s2) with
     |false=>rw[hb]at h;simp at h
     | true=>
      rw[hb]at h;simp at h;obtain⟨rfl,rfl⟩:=h;simp only[aa]at hb;have hss:=af hb.2;subst hss;have hss:=af hb.1;subst hss;have hr:=(L9 hI hL hp e2).d_inv;have hn:=Bc hL hp e3;obtain⟨h0,hrow⟩:=hk _ rfl;have hlt:=(ac.1 hrow).1;obtain⟨_,_,_,_,_,hform⟩:=Py hI hi hg hr.os_inv hr.one (bZ _);rcases hform with⟨h3,h4⟩|⟨b,o,cp,vs,h3,hb',_⟩
      .rw[h4]at hlt;simp at hlt
      .refine⟨.pointer (some ⟨b,o+n.toNat*(m+1)+0,none⟩),?_,.d (.oe (by rw[←h3];exact hr.os_inv))⟩;simp only[execOp,h3,hn];rw[eo,Gw e1 e4 rfl h0,Cn];rfl
    .cases h
   .rename_i q0 s0 cells hi;split at h
    .rename_i m e4;cases hb:Nat.beq s0 (m+1) with
     |false=>rw[hb]at h;simp at h
     |true=>
      rw[hb]at h;simp only[eh,ae,al]at h;obtain⟨rfl,rfl⟩:=h;obtain⟨h0,_,hlt,_⟩:=hk _ rfl;have hm:=af hb;subst hm;have hlt:n.toNat<cells.length / (m+1):=by omega
      have hr:=(L9 hI hL hp e2).d_inv;have hn:=Bc hL hp e3;obtain⟨b,o,len,cap,vs,h3,hb',⟨h5,h6,_⟩,_⟩:=(hI.ok j _ _ hi hr.os_inv).live hr.one;rw[h5,Nat.mul_div_cancel _ h6]at hlt;refine⟨.pointer (some ⟨b,o+n.toNat*(m+1)+0,none⟩),?_,.d (.oe (by rw[←h3];exact hr.os_inv))⟩;simp only[execOp,h3,hn];rw[eo,Gw e1 e4 rfl h0,Cn];rfl
    .cases h
   .cases h
  .rename_i e j lo m0 s2 ik n e1 e2 e3;split at h
   .rename_i q0 s rows q1 q2 row hi;split at h
    .rename_i m e4;cases hb:((Nat.beq s (m+1)&&Nat.beq s2 (m+1))&&(decide (0<=n)&&Nat.blt n.toNat m0)) with
     |false=>rw[hb]at h;simp at h
     | true=>
      rw[hb]at h;simp only[eh,ae,al]at h;obtain⟨rfl,rfl⟩:=h;simp only[aa,dM]at hb;obtain⟨⟨hs1,hs2⟩,h0,hlt⟩:=hb;have hs1:=af hs1;have hs2:=af hs2;subst hs1;subst hs2;have hlt:n.toNat<m0:=by simpa[eu]using hlt
      have hr:=(L9 hI hL hp e2).d_inv;have hn:=Bc hL hp e3;obtain⟨_,hrow⟩:=hk _ rfl;have hrl:=(ac.1 hrow).1;generalize hx:a.eval x=xv at hr;cases hr with
      | @osb _ _ _ _ q ad len cap g1 hl hc hq hq2=>
       rcases(hI.ok j _ _ hi g1).live rfl with⟨h3,h4⟩|⟨b,o,cp,vs,h3,hb',hcp,_⟩
       .rw[h4]at hrl;simp at hrl
       .cases h3;have hlc:lo<cap:=by omega
        have:=hq2 hlc;subst this;refine⟨.pointer (some ⟨b,o+(lo+n.toNat)*(m+1)+0,none⟩),?_,.d (.oe g1)⟩;simp only[execOp,hx,hn,aU];rw[eo,Gw e1 e4 rfl h0,Cn,Cn];rw[show o+lo*(m+1)+n.toNat*(m+1)=o+(lo+n.toNat)*(m+1)+0 from by rw[az];omega];rfl
    .cases h
   .cases h
  .rename_i m e j off ik kk e1 e2 e3;split at h
   .rename_i s e4;cases hb:Nat.blt kk m with
    |false=>rw[hb]at h;simp at h
    |true=>
     rw[hb]at h;simp at h;obtain⟨rfl,rfl⟩:=h;have hlt:kk<m:=by simpa[eu]using hb
     obtain⟨b,hx,hρ⟩:=(L9 hI hL hp e2).d_inv.o_inv;have hn:=Bc hL hp e3;refine⟨.pointer (some ⟨b,off+kk*s,none⟩),?_,.d (.o hρ)⟩;simp only[execOp,hx,hn];rw[eo,Nq e1 e4 hlt,Cn];rfl
   .cases h
  .rename_i m e cells ik kk e1 e2 e3;split at h
   .rename_i s e4;cases hb:Nat.blt kk m with
    |false=>rw[hb]at h;simp at h
    |true=>
     rw[hb]at h;simp at h;obtain⟨rfl,rfl⟩:=h;have hlt:kk<m:=by simpa[eu]using hb
     obtain⟨ad,hx,hc⟩:=(L9 hI hL hp e2).d_inv.ip_inv;have hn:=Bc hL hp e3;refine⟨.pointer (some (ad.add (kk*s))),?_,.d (.ip (hc.drop _))⟩;simp only[execOp,hx,hn];rw[eo,Nq e1 e4 hlt];rfl
   .cases h
  .split at h
   .simp only[ae,al]at h;obtain⟨rfl,rfl⟩:=h;have h0:=(hk _ rfl).2;simp at h0
   .cases h
  .cases h
 | index t x i=>
  simp only[Cg]at h;split at h
  .rename_i n e ds ik kki e1 e2 e3;split at h
   .rename_i row hrow;have hc:=Atd hrow;unfold Adp at h;split at h
    .rename_i s ps e4 e5;cases hb:Nat.beq ps.length (n*(s+1)) with
     |false=>rw[hb]at h;simp at h
     | true=>
      rw[hb]at h;simp only[eh]at h;have hlen:=af hb;obtain⟨z,hz,h2⟩:=Cv h;simp at h2;obtain⟨rfl,rfl⟩:=h2;obtain⟨h0,hget⟩:=hk _ rfl;obtain⟨vs,hv,hr⟩:=(Bp hL hp e2).agg_inv;have hn:=Bc hL hp e3;have hlt:kki.toNat<n:=by
       have:=(ac.1 hget).1
       rwa [Q_]at this
      have hrw:=Xl _ _ _ _ _ hget;have hr':=uY e5 hr;have hz':Gr P e (((ps.map D.p).drop (kki.toNat*(s+1))).take (s+1))=some z:=by rw[←hz,hrw,cF,List.map_drop]
      obtain⟨r,hr1,hr2⟩:=Qt (P:=P) hr' e4 hz';refine⟨r,?_,hr2⟩;have h1:(0:Int)<=kki/\kki<(n:Int):=⟨h0,by omega⟩;simp only[execOp,Instr.index,hv,hn,asIntOf,eo,eq,ep,el e1,h1,and_self,if_true,Ch e4];rw[hr1];rfl
    .cases h
   .split at h
    .rename_i kk s e4;cases hb:(Nat.blt kk n&&Nat.ble ((kk+1)*s) ds.length) with
     |false=>rw[hb]at h;simp at h
     |true=>
      rw[hb]at h;simp only[eh]at h;rw[aa]at hb;obtain⟨z,hz,h2⟩:=Cv h;simp at h2;obtain⟨rfl,rfl⟩:=h2;have hlt:kk<n:=by have:=hb.1;simpa[eu]using this
      obtain⟨vs,hv,hr⟩:=(Bp hL hp e2).agg_inv;have hn:=Bc hL hp e3;obtain⟨r,hr1,hr2⟩:=Qt (P:=P) hr e4 hz;refine⟨r,?_,hr2⟩;have h1:(0:Int)<=Int.ofNat kk/\Int.ofNat kk<(n:Int):=⟨Int.natCast_nonneg _,by simpa using hlt⟩;simp only[execOp,Instr.index,hv,hn,asIntOf,eo,eq,ep,el e1,h1,and_self,if_true,Ch e4];have e:(Int.ofNat kk).toNat=kk:=rfl;rw[e,hr1];rfl
    .cases h
  .rename_i s ik n e1 e2 e3;split at h
   .rename_i q1 q2 b;simp at h;obtain⟨rfl,rfl⟩:=h;obtain⟨h0,hb⟩:=hk _ rfl;have hx:=Bc hL hp (x:=x) (v:=.string s) (by rw[e2];rfl);have hn:=Bc hL hp e3;refine⟨_,?_,Eg rfl⟩;have hs:s[n.toNat]?=some b:=by
     rw[←hb];rfl
    simp[execOp,Instr.index,hx,hn,asIntOf,el e1,h0,hs]
   .cases h
  .cases h
 | extract x i=>
  simp only[Cg]at h;split at h
  .rename_i l e1;obtain⟨z,hz,h2⟩:=Cv h;simp at h2;obtain⟨rfl,rfl⟩:=h2;obtain⟨vs,hv,hall⟩:=(Bp hL hp e1).tup_inv;obtain⟨y,hy,hr⟩:=hall.get hz;refine⟨y,?_,hr⟩;simp[execOp,hv,Instr.extract,hy]
  .cases h
 | slice t x lo hi mx =>
  cases mx with
  | some m =>
   cases lo with
   |none=>simp[Cg]at h
   | some lo => cases hi with
    |none=>simp[Cg]at h
    | some hi=>
     simp only[Cg]at h;split at h
     .rename_i e i e1 e2;split at h
      .rename_i e' s rows hri;split at h
       .rename_i k1 l k2 hh k3 mm e3 e4 e5;split at h
        .rename_i q1 q2 q3 q4 sz e6;simp at h;obtain⟨rfl,rfl⟩:=h;obtain⟨h0,h1,h2,h3⟩:=hk _ rfl;have hr:=(Bp hL hp e2).d_inv;have hlen:∃b cap,a.eval x=.slice b rows.length cap/\rows.length<=cap:=by
          rcases(hI.ok i _ _ hri hr.os_inv).live hr.one with⟨h3,h4⟩|⟨b,o,cp,vs,h3,_,h4,_⟩
          .exact⟨none,0,by rw[h3,h4];rfl,by rw[h4];simp⟩
          .exact⟨_,cp,h3,h4⟩
         obtain⟨b,cap,hform,hcap⟩:=hlen;have g1:=Cc (P:=P) (w:=w) (k:=k3) (n:=mm) (y:=cap) (c:=.slice3Acap) (by omega);have g2:=Cc (P:=P) (w:=w) (k:=k2) (n:=hh) (y:=mm.toNat) (c:=.slice3B) (by omega);have g3:=Cc (P:=P) (w:=w) (k:=k1) (n:=l) (y:=hh.toNat) (c:=.slice3C) (by omega);have hb:(Instr.sliceBounds true rows.length cap (some (a.eval lo)) (some (a.eval hi)) (some (a.eval m))).run P w=.ok (l.toNat,hh.toNat,mm.toNat) w:=by simp[Instr.sliceBounds,Bc hL hp e3,Bc hL hp e4,Bc hL hp e5,g1,g2,g3]
         refine⟨.slice (if mm.toNat=l.toNat then b else b.map (·.add (l.toNat*sz))) (hh.toNat-l.toNat) (mm.toNat-l.toNat),?_,.d (.any rfl)⟩;simp only[execOp,hform,Instr.sliceAt,eo,el e1,ep,aU];simp only[Instr.slice,eo,el e1,ep,hb,Ch e6,eq]
        .cases h
       .cases h
      .cases h
     .cases h
  | none =>
   simp only[Cg]at h;split at h
   .rename_i e rows e1 e2;split at h
    .rename_i n k1 l k2 hh e5 e3 e4;split at h
     case h_2=>cases h
     rename_i rows' _;simp at h;obtain⟨rfl,rfl⟩:=h;obtain⟨h0,h1,h2,h3,h4⟩:=hk _ rfl;subst h4;have hpd:=(Bp hL hp e2).d_inv.p_inv;obtain⟨b,cap,hform,hcap,hm⟩:=hpd.slice_form;rw[hform]at hpd;refine⟨_,?_,.d (.p (RdP.cut hpd (l:=l.toNat) (h:=hh.toNat) (by omega) (by omega) h3))⟩;have hb:(Instr.sliceBounds true rows.length cap (lo.map a.eval) (hi.map a.eval) none).run P w=.ok (l.toNat,hh.toNat,cap) w:=by
      unfold Instr.sliceBounds;cases hi with
      | none=>
       simp only[ae,Value.int.injEq]at e4;obtain⟨_,e4⟩:=e4;subst e4;cases lo with
       |none=>simp only[ae,Value.int.injEq]at e3;obtain⟨_,e3⟩:=e3;subst e3;simp
       |some y=>simp only at e3;have:=Cc (P:=P) (w:=w) (k:=k1) (n:=l) (y:=rows.length) (c:=.sliceB) h0;simp[Bc hL hp e3,this]
      | some z=>
       simp only at e4;have g1:=Cc (P:=P) (w:=w) (k:=k2) (n:=hh) (y:=cap) (c:=.sliceAcap) (by omega);cases lo with
       |none=>simp only[ae,Value.int.injEq]at e3;obtain⟨_,e3⟩:=e3;subst e3;simp[Bc hL hp e4,g1]
       |some y=>simp only at e3;have:=Cc (P:=P) (w:=w) (k:=k1) (n:=l) (y:=hh.toNat) (c:=.sliceB) h0;simp[Bc hL hp e3,Bc hL hp e4,this,g1]
     simp only[execOp,hform,Instr.sliceAt,eo,el e1,ep,cW];simp only[Instr.slice,eo,el e1,ep,hb,Ch e5,eq]
    .cases h
   .rename_i e i e1 e2;split at h
    .rename_i e' s rows hri;split at h
     .rename_i n k1 l k2 hh e5 e3 e4;split at h
      case h_2=>cases h
      cases hsn:Nat.beq s n with
      |false=>rw[hsn]at h;simp at h
      |true=>
      rw[hsn]at h;simp at h;obtain⟨rfl,rfl⟩:=h;obtain⟨h0,h1,h2,h9⟩:=hk _ rfl;subst h9;have hr:=(Bp hL hp e2).d_inv;have hlen:∃b cap,a.eval x=.slice b rows.length cap/\rows.length<=cap:=by
       rcases(hI.ok i _ _ hri hr.os_inv).live hr.one with⟨h3,h4⟩|⟨b,o,cp,vs,h3,_,h4,_⟩
       .exact⟨none,0,by rw[h3,h4];rfl,by rw[h4];simp⟩
       .exact⟨_,cp,h3,h4⟩
      obtain⟨b,cap,hform,hcap⟩:=hlen;have hρ:=hr.os_inv;rw[hform]at hρ;refine⟨.slice (if cap=l.toNat then b else b.map (·.add (l.toNat*n))) (hh.toNat-l.toNat) (cap-l.toNat),?_,?_⟩
      case refine_2=>
       by_cases hcl:cap=l.toNat
       .rw[ei hcl];have:=Rd.osb (S:=S) (w:=w) (lo:=l.toNat) (n:=hh.toNat-l.toNat) (size:=n) (q:=0) hρ (by omega) (by omega) (by omega) (by omega);have hb0:b.map (·.add 0)=b:=by cases b <;> simp[M9]
        rw[hb0]at this;exact .d this
       .rw[em hcl];exact .d (.osb hρ (by omega) (by omega) (ai _) (λ_=>rfl))
      have hb:(Instr.sliceBounds true rows.length cap (lo.map a.eval) (hi.map a.eval) none).run P w=.ok (l.toNat,hh.toNat,cap) w:=by
       unfold Instr.sliceBounds;cases hi with
       | none=>
        simp only[ae,Value.int.injEq]at e4;obtain⟨_,e4⟩:=e4;subst e4;cases lo with
        |none=>simp only[ae,Value.int.injEq]at e3;obtain⟨_,e3⟩:=e3;subst e3;simp
        |some y=>simp only at e3;have:=Cc (P:=P) (w:=w) (k:=k1) (n:=l) (y:=rows.length) (c:=.sliceB) h0;simp[Bc hL hp e3,this]
       | some z=>
        simp only at e4;have g1:=Cc (P:=P) (w:=w) (k:=k2) (n:=hh) (y:=cap) (c:=.sliceAcap) (by omega);cases lo with
        |none=>simp only[ae,Value.int.injEq]at e3;obtain⟨_,e3⟩:=e3;subst e3;simp[Bc hL hp e4,g1]
        |some y=>simp only at e3;have:=Cc (P:=P) (w:=w) (k:=k1) (n:=l) (y:=hh.toNat) (c:=.sliceB) h0;simp[Bc hL hp e3,Bc hL hp e4,this,g1]
      simp only[execOp,hform,Instr.sliceAt,eo,el e1,ep,cW];simp only[Instr.slice,eo,el e1,ep,hb,Ch e5,eq]
     .cases h
    .cases h
   .rename_i e i o0 n0 s0 e1 e2;split at h
    .rename_i e' s rows hri;split at h
     .rename_i n k1 l k2 hh e5 e3 e4;split at h
      case h_2=>cases h
      cases hsn:(Nat.beq s n&&Nat.beq s0 n) with
      |false=>rw[hsn]at h;simp at h
      |true=>
      rw[hsn]at h;simp at h;obtain⟨rfl,rfl⟩:=h;simp only[aa]at hsn;have hs0:=af hsn.2;subst hs0;obtain⟨h0,h1,h2,h9⟩:=hk _ rfl;subst h9;have hr:=(Bp hL hp e2).d_inv;generalize hval:a.eval x=xv at hr;cases hr with
      | @osb _ _ _ _ q ad len cap hρ hl hc hq hq2=>
       have hlen:len=rows.length/\rows.length<=cap:=by
        rcases(hI.ok i _ _ hri hρ).live rfl with⟨h3,h4⟩|⟨b,o,cp,vs,h3,_,h4,_⟩
        .cases h3;subst h4;exact⟨rfl,by simp⟩
        .cases h3;exact⟨rfl,h4⟩
       obtain⟨hlen,hcap⟩:=hlen;subst hlen;have hb:=Ai9 (P:=P) (w:=w) hL hp (len:=n0) (cap:=cap-o0) e3 e4 h0 h1 (by omega);refine⟨.slice (if cap-o0=l.toNat then ad.map (·.add q) else (ad.map (·.add q)).map (·.add (l.toNat*s0))) (hh.toNat-l.toNat) (cap-o0-l.toNat),?_,?_⟩
       .simp only[execOp,hval,Instr.sliceAt,eo,el e1,ep,cW];simp only[Instr.slice,eo,el e1,ep,hb,Ch e5,eq]
       .rw[show cap-o0-l.toNat=cap-(o0+l.toNat) from by omega];by_cases hcl:cap-o0=l.toNat
        .rw[ei hcl];exact .d (.osb hρ (by omega) (by omega) (by rw[az];omega) (by omega))
        .rw[em hcl];have hq3:=hq2 (by omega);have:(ad.map (·.add q)).map (·.add (l.toNat*s0))=ad.map (·.add (q+l.toNat*s0)):=by cases ad <;> simp[Rf]
         rw[this];exact .d (.osb hρ (by omega) (by omega) (by rw[az];omega) (λ_=>by rw[az,hq3]))
     .cases h
    .cases h
   .rename_i s e1 e2;split at h
    .rename_i k1 l k2 hh e3 e4;split at h
     case h_2=>cases h
     simp only[ae,al]at h;obtain⟨rfl,rfl⟩:=h;obtain⟨h0,h1,h2,h9⟩:=hk _ rfl;subst h9;have hx:=(Bp hL hp e2).exact_inv;have hb:(Instr.sliceBounds false s.size s.size (lo.map a.eval) (hi.map a.eval) none).run P w=.ok (l.toNat,hh.toNat,s.size) w:=by
      unfold Instr.sliceBounds;cases hi with
      | none=>
       simp only[ae,Value.int.injEq]at e4;obtain⟨_,e4⟩:=e4;subst e4;cases lo with
       |none=>simp only[ae,Value.int.injEq]at e3;obtain⟨_,e3⟩:=e3;subst e3;simp
       |some y=>simp only at e3;have:=Cc (P:=P) (w:=w) (k:=k1) (n:=l) (y:=s.size) (c:=.sliceB) h0;simp[Bc hL hp e3,this]
      | some z=>
       simp only at e4;have g1:=Cc (P:=P) (w:=w) (k:=k2) (n:=hh) (y:=s.size) (c:=.sliceAlen) (by omega);cases lo with
       |none=>simp only[ae,Value.int.injEq]at e3;obtain⟨_,e3⟩:=e3;subst e3;simp[Bc hL hp e4,g1]
       |some y=>simp only at e3;have:=Cc (P:=P) (w:=w) (k:=k1) (n:=l) (y:=hh.toNat) (c:=.sliceB) h0;simp[Bc hL hp e3,Bc hL hp e4,this,g1]
     refine⟨.string (s.extract l.toNat hh.toNat),?_,Eg rfl⟩;simp only[execOp,hx,Instr.sliceAt,eo,el e1,ep,cW];simp[Instr.slice,el e1,hb]
    .cases h
   .rename_i e e1 e2;split at h
    .rename_i y;split at h
     .rename_i n k1 e3 e4;simp only[ae,al]at h;obtain⟨rfl,rfl⟩:=h;have hx:=(Bp hL hp e2).exact_inv;have hy:=Bc hL hp e4;have g1:=Cc (P:=P) (w:=w) (k:=k1) (n:=0) (y:=0) (c:=.sliceAcap) (by omega);have hb:(Instr.sliceBounds true 0 0 none (some (a.eval y)) none).run P w=.ok (0,0,0) w:=by
       unfold Instr.sliceBounds;rw[hy];simp only[Int.toNat_zero]at g1;simp[g1]
      refine⟨.slice none 0 0,?_,.d (.p (.v _ rfl))⟩;simp only[execOp,hx,Instr.sliceAt,eo,el e1,ep,cW,aU];simp only[Instr.slice,eo,el e1,ep,hb,Ch e3,eq];rfl
     .cases h
    .cases h
   .cases h
 | call kk =>
  obtain⟨callee,cargs,argTypes⟩:=kk;cases callee with
  |value f=>simp[Cg]at h
  |invoke r m=>simp[Cg]at h
  | builtin b=>
   simp only[Cg]at h;split at h
   .rename_i args e1;have hargs:=Ed hL hp e1;have hrun:∀x,(builtin b argTypes type (cargs.map fun|.const _=>true|_=>false) (cargs.map a.eval)).run P w=.ok (.value x) w ->
      (execOp a.eval ⟨dst,.call ⟨.builtin b,cargs,argTypes⟩,type,pos,after,guard⟩).run P w=.ok (.value x) w:=by
     intro x hx;simp only[execOp,resolve,eo,eq,ep,invoke];exact hx
    have hl:(cargs.map a.eval).toList=cargs.toList.map a.eval:=by simp
    have harr:∀l,cargs.toList.map a.eval=l->cargs.map a.eval=l.toArray:=λl h=>by apply bL;rw[hl,h]
    split at h
    .rename_i t e2;split at h
     .rename_i e hu;obtain⟨n,hn,he⟩:∃n,Kc R args=some n/\v=ofV (.int .i64 n):=by
       split at h
       .obtain⟨n,hn,h2⟩:=Cv h;simp at h2;obtain⟨rfl,rfl⟩:=h2;have:=hk _ rfl;have this:n=_:=this;exact⟨n,hn,by rw[←this]⟩
       .obtain⟨n,hn,h2⟩:=Cv h;simp at h2;exact⟨n,hn,h2.1.symm⟩
      subst he;obtain⟨b,kx,c,hv,rfl⟩:=Aoy hI hargs hn;refine⟨_,hrun _ ?_,Eg rfl⟩;rw[harr _ hv];simp[builtin,Builtin.len_,e2,el hu,goInt]
     .rename_i hu;obtain⟨n,hn,h2⟩:=Cv h;simp at h2;obtain⟨rfl,rfl⟩:=h2;obtain⟨s,hv,rfl⟩:=Aox hargs hn;refine⟨_,hrun _ ?_,Eg rfl⟩;rw[harr _ hv];simp[builtin,Builtin.len_,e2,el hu,goInt]
     .cases h
    .rename_i t e2;split at h
     .rename_i e hu;simp only[ae,al]at h;obtain⟨rfl,rfl⟩:=h;have hv:=Xh (l:=[.d (.p (.v (.slice none 0 0)))]) (xs:=[.slice none 0 0]) rfl hargs;refine⟨_,hrun _ ?_,Eg rfl⟩;rw[harr _ hv];simp[builtin,Builtin.cap_,e2,el hu,goInt]
     .cases h
    .obtain⟨n,hn,h2⟩:=Cv h;simp at h2;obtain⟨rfl,rfl⟩:=h2;unfold Aty at hn;split at hn
     .rename_i x r hx;have hv:=Xh hx hargs;split at hn
      .refine⟨_,hrun _ ?_,Eg rfl⟩;rw[harr _ hv];have:=Ahg (P:=P) (w:=w) hn;simp[builtin,Builtin.max_,this]
      .refine⟨_,hrun _ ?_,Eg rfl⟩;rw[harr _ hv];have:=Ahf (P:=P) (w:=w) hn;simp[builtin,Builtin.min_,this]
      .cases hn
     .cases hn
   .cases h
 |_=>simp[Cg]at h
end
end Go.SL
