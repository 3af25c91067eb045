import Derived.Test.YtaplakgdkkmpfaaGreatDoorPd
import Derived.Test.YtaplakgdkkmpfaaGreatDoorBo
set_option linter.unusedVariables false
set_option linter.unusedSimpArgs false
namespace Go.Proofs.YtaplakgdkkmpfaaGreatDoor
open Go Go.RowKit Go.Shelf Go.SL
def Cr (L:Aa->Option ByteArray):List Aa->Option (List UInt8)
 | []=>some []
 | c::r=>match L c with
  | none=>none
  | some t=>match Cr L r with
   | none=>none
   | some u=>some (t.data.toList++u)
def H3 (Wr:List Aa->Option Bool) (L:Aa->Option ByteArray) (l:List Aa):Option (ByteArray×Int):=
 bif decide (80<l.length) then some (⟨#[]⟩,2) else match Wr l with
  | none=>none
  | some true=>some (⟨#[]⟩,74)
  | some false=>match Cr L l with
   | none=>none
   | some t=>bif decide (t.length<=1000000)&&(l.isEmpty || !t.isEmpty) then some (⟨t.toArray⟩,0) else none
theorem Rs {L:Aa->Option ByteArray}:∀ {l:List Aa} {t:List UInt8} {k:Nat} {c:Aa} {acc:List UInt8},Cr L l=some t->l[k]? = some c->Cr L (l.take k)=some acc ->
  ∃ u,L c=some u/\Cr L (l.take (k+1))=some (acc++u.data.toList)/\acc.length+u.size<=t.length
 | [],t,k,c,acc,_,h,_=>by simp at h
 | d::l,t,0,c,acc,h,h1,h2=>by
  simp at h1;subst h1
  simp [Cr] at h2;subst h2
  unfold Cr at h
  cases hd:L d with
  | none=>rw [hd] at h;cases h
  | some u=>
   rw [hd] at h
   simp only at h
   cases hr:Cr L l with
   | none=>rw [hr] at h;cases h
   | some v=>
    rw [hr] at h
    cases h
    refine⟨u,rfl,by simp [Cr,hd],?_⟩
    rw [Lib.size_eq]
    simp
 | d :: l, t, k + 1, c, acc, h, h1, h2 => by
  unfold Cr at h
  simp only [List.take_succ_cons] at h2 ⊢
  unfold Cr at h2
  cases hd:L d with
  | none=>rw [hd] at h;cases h
  | some u=>
   rw [hd] at h h2
   simp only at h h2
   cases hr:Cr L l with
   | none=>rw [hr] at h;cases h
   | some v=>
    rw [hr] at h
    cases h
    cases hq:Cr L (l.take k) with
    | none=>rw [hq] at h2;cases h2
    | some a=>
     rw [hq] at h2
     cases h2
     obtain⟨z,z1,z2,z3⟩:=Rs hr (by simpa using h1) hq
     refine⟨z,z1,?_,?_⟩
     ·conv=>lhs;unfold Cr
      rw [hd]
      simp only [z2,aY]
     ·simp only [ay];omega
theorem jM {w:World} {v:Value} {l:List Aa} (h:RdP (D8 w) w v (.s (l.map q26))) :
  ∃ la lc,v = .slice la l.length lc/\∀ (i:Nat) c,l[i]? = some c->∃ g o nv,la=some ⟨g,o,none⟩/\g<w.heap.size/\w.cell? ⟨g,o+i*2,none⟩=some (.int .i64 c.Kind)/\w.cell? ⟨g,o+i*2+1,none⟩=some nv/\RdP (D8 w) w nv (.s (c.Numbers.map pI)):=by
 generalize hR:l.map q26=R at h
 cases h with
 | s a ad cap z _ xs hc hm hz hsz2 hx hr=>
  have hl:R.length=l.length:=by rw [←hR];simp
  rw [hl] at hc ⊢
  refine⟨a,cap,rfl,λ i c hi=>?_⟩
  have hi':R[i]? = some (q26 c):=by rw [←hR,al,hi];rfl
  have hz2:z=2:=(hsz2 _ (aq hi')).symm
  subst hz2
  obtain⟨ha,hS0,hcell⟩:=hx i _ hi' 0 _ rfl
  have hv:=(hr i _ hi' 0 _ rfl).v_form
  obtain⟨_,_,hcell1⟩:=hx i _ hi' 1 _ rfl
  have hr1:=hr i _ hi' 1 _ rfl
  obtain⟨c0,h0⟩:∃ x,l[0]? = some x:=⟨_,am (by have:=(aa.1 hi).1;omega)⟩
  obtain⟨_,_,hcz⟩:=hx 0 _ (show R[0]? = some (q26 c0) by rw [←hR,al,h0];rfl) 0 _ rfl
  rw [Nat.zero_mul,aQ,Ej] at hcz
  have spot:∃ b o,ad=⟨b,o,none⟩:=by
   obtain⟨b,o,sp⟩:=ad
   cases sp with
   | none=>exact⟨b,o,rfl⟩
   | some q=>
    exfalso
    unfold World.cell? at hcz
    split at hcz
    ·simp at hcz
    ·cases hcz
  obtain⟨b,o,rfl⟩:=spot
  rw [A3,hv] at hcell
  rw [A3] at hcell1
  exact⟨b,o,_,ha,hS0,by rw [bf] at hcell;exact hcell,by rw [bj];exact hcell1,hr1⟩
theorem Zp {B b:Nat} {l:List UInt8} {w w':World} (h:Pg B b l w) (hg:w.grownBy w' none):Pg B b l w':=by
 have key:∀ p,Oj B b p l w->Oj B b p l w':=by
  rintro p ⟨hB,v,hbk,hown,hne⟩
  refine⟨hB,v,?_,hown.kept hg ?_,hne⟩
  ·rw [hg.block b (aI.1 hbk).1 (by simp)]
   exact hbk
  ·cases hq:v.ownBlock with
   | none=>exact .inl rfl
   | some g=>exact .inr (by simp)
 exact h.imp (key _) (key _)
theorem qU (w:World):Pg w.heap.size w.heap.size [] (w.alloc (.cells #[.pointer none,.slice none 0 0] 67)):=
 .inl ⟨ae _,_,World.alloc_heap_new w _,World.ownsRow_nil _ _ _ _,by simp [Value.ownBlock]⟩
set_option maxHeartbeats 2000000 in
set_option maxRecDepth 100000 in
theorem qN (b:Nat) (w:World) (hb:w.heap[b]? = some (.cells #[.pointer none,.slice none 0 0] 67 (0,0))):Calls Tryz.prog 27 #[.pointer (some ⟨b,0,none⟩)] w λ e w'=>e = .returned (.string .empty)/\Below w.heap.size w w':=by
 have mixed:Tryz.prog.follows .mixedOrders=true:=by kernel_rfl
 have hbd:w.drew.heap[b]? = some (.cells #[.pointer none,.slice none 0 0] 67 (0,0)):=hb
 have c1:w.drew.cell? ⟨b,1,none⟩=some (.slice none 0 0):=Dm hbd
 have h1:(Builtin.unsafeSliceData_ #[44] 108 #[.slice none 0 0]).run Tryz.prog w.drew = .ok (.pointer none) w.drew:=Lib.run_unsafeSliceData_nil _ _ _ _ _
 have h2:(Builtin.unsafeString_ #[108,3] 9 #[.pointer none,.int .i64 0]).run Tryz.prog w.drew = .ok (.string .empty) w.drew:=Lib.run_unsafeString_none _ _ _ _ _
 go_enter Tryz.func27,Tryz.ntmps27
 go_wp2
 go_region
 all_goals (go_wp2;go_ret;exact⟨rfl,(Below.refl _ w).drew⟩)
set_option maxRecDepth 100000 in
set_option maxHeartbeats 4000000 in
theorem Wt (Wr : List Aa -> Option Bool) (L : Aa -> Option ByteArray)
    (hW:∀ l r,Wr l=some r->CallOk Tryz.prog 24 [.d (DS q26 l)] [] (.d (.p (.v (.bool r)))) [])
    (hL:∀ c r,L c=some r->CallOk Tryz.prog 26 [.agg (d26 c)] [] (.d (.p (.v (.string r)))) [])
    (l:List Aa) (r:ByteArray×Int) (h:H3 Wr L l=some r) (lv:Value) (w:World) (hl:RdP (D8 w) w lv (.s (l.map q26))) (hg:Dn (D8 w) w) :
    Calls Tryz.prog 11 #[lv] w λ e w'=>e = .returned (.tuple #[.string r.1,.int .i64 r.2])/\Below w.heap.size w w':=by
  obtain⟨la,lc,rfl,hcells⟩:=jM hl
  unfold H3 at h
  by_cases h80:80<l.length
  · rw [cT h80] at h
    cases h
    go_enter Tryz.func11,Tryz.ntmps11
    go_wp2
    go_ret2
    exact⟨rfl,Below.refl _ _⟩
  · rw [cU h80] at h
    simp only [cond_false] at h
    cases hw:Wr l with
    | none=>rw [hw] at h;cases h
    | some wb=>
    rw [hw] at h
    have wk:=CallOk.plain (hW l wb hw) hg (vs:=[.slice la l.length lc]) ⟨.d (.p hl),trivial⟩
    cases wb with
    | true=>
      cases h
      go_enter Tryz.func11,Tryz.ntmps11
      go_wp2_with (first | (go_at_call 24;refine wk.mono ?_;rintro e w1 ⟨rfl,hb1⟩) | go_in)
      go_ret2
      exact⟨rfl,hb1⟩
    | false=>
    simp only at h
    cases ht:Cr L l with
    | none=>rw [ht] at h;cases h
    | some t=>
    rw [ht] at h
    simp only at h
    cases hd:decide (t.length<=1000000)&&(l.isEmpty || !t.isEmpty) with
    | false=>rw [hd] at h;cases h
    | true=>
    rw [hd] at h
    cases h
    simp only [af,cR] at hd
    obtain⟨hd1,hd2⟩:=hd
    go_enter Tryz.func11,Tryz.ntmps11
    go_wp2_with (first | (go_at_call 24;refine wk.mono ?_;rintro e w1 ⟨rfl,hb1⟩) | go_in)
    have hs1:=hb1.size
    have nw:(w1.alloc (.cells #[.pointer none,.slice none 0 0] 67)).heap[w1.heap.size]? = some (.cells #[.pointer none,.slice none 0 0] 67 (0,0)):=World.alloc_heap_new w1 _
    have cL:∀ c u nv,L c=some u->RdP (D8 w) w nv (.s (c.Numbers.map pI))->∀ W1,Below w.heap.size w W1->Calls Tryz.prog 26 #[.agg #[.int .i64 c.Kind,nv]] W1 λ e w'=>e = .returned (.string u)/\Below W1.heap.size W1 w':=λ c u nv hu hn W1 hW1=>
      CallOk.plain (hL c u hu) (E9 hg hW1) (vs:=[.agg #[.int .i64 c.Kind,nv]]) ⟨.agg (vs:=[.int .i64 c.Kind,nv]) ⟨.p (.v _ rfl),.p (hn.mono (λ b hb=>aF hb hW1.size) λ b hb=>hW1.block b hb),trivial⟩,trivial⟩
    clear wk hW hL hw hl
    go_loopw [16] (λ i wr=>∃ (k:Nat) (acc:List UInt8),k<=l.length/\i = .int .i64 k/\Cr L (l.take k)=some acc/\Pg w1.heap.size w1.heap.size acc wr/\(k=0->wr.heap[w1.heap.size]? = some (.cells #[.pointer none,.slice none 0 0] 67 (0,0))) /\
      Below w.heap.size w wr/\w1.heap.size<wr.heap.size) (λ i _=>l.length-(intOf i).toNat)
    case atStart=>exact⟨0,[],by omega,rfl,rfl,qU w1,λ _=>nw,hb1.alloc hs1 _,by simp⟩
    case round=>
      obtain⟨k,acc,hk,rfl,hc,hP,hk0,hb,hlt1⟩:=hrel
      clear nw
      by_cases hlt:k<l.length
      · obtain⟨c,hcl⟩:∃ c,l[k]? = some c:=⟨_,am hlt⟩
        obtain⟨u,hu,hc2,hul⟩:=Rs ht hcl hc
        obtain⟨g,o,nv,rfl,hgl,e0,e1,hn⟩:=hcells k c hcl
        obtain⟨na,nn,env,_⟩:=hn.slice_form
        rw [aL] at env
        subst env
        have d0:=(hb.cell (p:=⟨g,o+k*2,none⟩) hgl).trans e0
        have d1:=(hb.cell (p:=⟨g,o+k*2+1,none⟩) hgl).trans e1
        have cl:=cL c u _ hu hn
        have hbs:=hb.size
        have ws:=vC w1.heap.size w1.heap.size acc u
        clear hcells hcl hc hk0 cL hn e0 e1 ht hd2
        go_wp2_with (first
          | (go_at_call 26; refine (cl _ (hb.alloc hbs _)).mono ?_; rintro e w2 ⟨rfl, hb2⟩
             have hP2:=Zp (Zp hP (World.grownBy_alloc wr _ none)) (Rz hb2)
             have hs2:=hb2.size
             rw [World.size_alloc] at hs2
             go_frame)
          | (go_at_call 25;refine (ws _ hP2 (by omega) (by omega)).mono ?_;rintro e w3 ⟨rfl,hP3,hb3,_⟩)
          | go_in)
        have R1:=((hb.alloc hbs _).trans (hb2.mono (by simp;omega))).trans (hb3.mono (by omega))
        have R2:=hb3.size
        go_wp2
        go_roundw
        case rel=>exact⟨k+1,_,by omega,by go_num,hc2,.inr hP3,λ e=>by omega,R1,by omega⟩
        case measure=>simp [intOf];omega
      · obtain rfl:k=l.length:=by omega
        rw [List.take_length,ht] at hc
        cases hc
        have hbs:=hb.size
        cases hne:t.isEmpty with
        | true=>
          rw [hne] at hd2
          simp only [bv,Bool.or_false,bK] at hd2
          have ht0:t=[]:=bK.1 hne
          subst hd2
          subst ht0
          have st:=qN w1.heap.size wr (hk0 rfl)
          clear hk0 hP hcells cL ht
          go_wp2_with (first | (go_at_call 27;refine st.mono ?_;rintro e w3 ⟨rfl,hb3⟩) | go_in)
          go_ret2
          exact⟨rfl,hb.trans (hb3.mono hbs)⟩
        | false=>
          have st:=qO w1.heap.size w1.heap.size t wr hP (λ e=>by rw [e] at hne;cases hne)
          clear hk0 hP hcells cL ht hd2
          go_wp2_with (first | (go_at_call 27;refine st.mono ?_;rintro e w3 ⟨rfl,hb3⟩) | go_in)
          go_ret2
          exact⟨rfl,hb.trans (hb3.mono hs1)⟩
theorem jJ (Wr:List Aa->Option Bool) (L:Aa->Option ByteArray)
  (hW:∀ l r,Wr l=some r->CallOk Tryz.prog 24 [.d (DS q26 l)] [] (.d (.p (.v (.bool r)))) [])
  (hL:∀ c r,L c=some r->CallOk Tryz.prog 26 [.agg (d26 c)] [] (.d (.p (.v (.string r)))) [])
  (l:List Aa) (r:ByteArray×Int) (h:H3 Wr L l=some r) :
  CallOk Tryz.prog 11 [.d (DS q26 l)] [] (.tup [.d (.p (.v (.string r.1))),.d (I r.2)]) []:=by
 intro S w ρ vs hS hA
 obtain⟨v0,rfl,r0⟩:∃ v0,vs=[v0]/\RdA S w ρ v0 (.d (DS q26 l)):=by
  match vs,hA with
  | [v0],h=>exact⟨v0,rfl,h.1⟩
  | [],h=>exact h.elim
  | _::_::_,h=>exact h.2.elim
 have hr:RdP (D8 w) w v0 (.s (l.map q26)):=(rdS r0.d_inv).mono (λ b hb=>hS.sup b hb) λ _ _=>rfl
 refine (Wt Wr L hW hL l r h v0 w hr (hS.gl.mono (λ b hb=>hS.sup b hb) λ _ _=>rfl)).mono λ e w' hp=>?_
 obtain⟨rfl,hb⟩:=hp
 refine⟨_,S,ρ,rfl,?_,hS.inv.grow (λ _ h=>h) (λ b hb=>.inl hb) hb.block hb.size hb.os hb.tape hb.output⟩
 refine .tup (vs:=[.string r.1,.int .i64 r.2]) rfl λ j x a hj ha=>?_
 match j,hj,ha with
 | 0,hj,ha=>
  cases hj;cases ha
  exact .d (.p (.v _ rfl))
 | 1,hj,ha=>
  cases hj;cases ha
  exact .d (.p (.v _ rfl))
 | j+2,hj,_=>simp at hj
end Go.Proofs.YtaplakgdkkmpfaaGreatDoor
