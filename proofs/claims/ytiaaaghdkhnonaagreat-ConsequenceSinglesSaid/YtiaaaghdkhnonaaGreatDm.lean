import Derived.Maps.Views
import Derived.Maps.OwnSet
import Derived.Test.YtiaaaghdkhnonaaGreatDk
set_option linter.unusedVariables false
set_option linter.unusedSimpArgs false
namespace Go.Proofs.YtiaaaghdkhnonaaGreat
open Go Go.RowKit Go.SL Go.Maps Go.WideMaps Go.WideShapes
variable{p q:Ab}{done seen:List Ab}{b n:Nat}{w:World}
theorem yK(hp:ptW p)(hq:ptW q)(h:ptK p=ptK q):p=q:=by
 have h1:=N9 hp;have h2:=N9 hq;rw[h]at h1;have:=O7.inj h1 h2;unfold ptV at this;simp only[Value.agg.injEq,Array.mk.injEq,List.cons.injEq,Value.int.injEq,true_and,and_true]at this;exact Anr this.1 this.2
theorem jA{P:Program}{e:TypeId}(he:P.underlying e=some .bool){v:Value}{x:Bool}{ps:List MemPlace}(h:plainElem (H:=Unit) P e v=some (.lit (.bool x),ps)):v=.bool x:=by
 unfold plainElem at h;rw[he]at h;split at h
 ·simp only[ah,ar,DataW.lit.injEq,Lit.bool.injEq]at h;rw[h.1]
 ·rename_i h1;cases h1
 ·rename_i h1;cases h1
 ·cases h
def Jt(w:World)(b n:Nat)(seen:List Ab):Prop:=∃D:DataW Unit,w.ownsMap Tryz.prog 88 (plainElem Tryz.prog 4) b n D /\
 (∀p,ptW p->D.atKey (ptK p) (.lit (.bool false))=.lit (.bool (Di seen p)))/\(∀p,ptW p->Maps.has D (ptK p)=Di seen p)/\(∀p,p∈seen->ptW p)/\(∀kl,Maps.has D kl=true->∃p,p∈seen/\kl=ptK p)
theorem Arj(w:World):Jt (w.alloc (.map #[] 0)) w.heap.size 0 []:=
 ⟨.map [],World.ownsMap_made w _ _ _,λp _=>rfl,λp _=>rfl,by simp,λkl h=>by cases h⟩
theorem Jt.look(h:Jt w b n seen)(hp:ptW p):(Instr.lookup 199 (.map (some b)) (ptV p) false).run Tryz.prog w=.ok (.bool (Di seen p)) w:=by
 obtain⟨D,h1,h2,_⟩:=h;have hz:(zeroValue 4).run Tryz.prog w=.ok (.bool false) w:=Fa (by kernel_rfl);obtain⟨v,ps,hr,hv⟩:=h1.lookup O7 Tryz.underlying199 hz (plainElem_bool Tryz.underlying4 false) (N9 hp);rw[h2 p hp]at hv;rw[hr];have:=jA Tryz.underlying4 hv;rw[this]
theorem Jt.put(h:Jt w b n seen)(hp:ptW p)(hn:n<maxLen) :
  ∃w',(Instr.mapUpdate 199 (.map (some b)) (ptV p) (.bool true)).run Tryz.prog w=.ok () w'/\Jt w' b (n+1) (p::seen)/\w.grownBy w' (some b):=by
 obtain⟨D,h1,h2,h3,h4,h5⟩:=h;obtain⟨w',hr,ho,hg⟩:=h1.update O7 Tryz.underlying199 hn (N9 hp) (plainElem_bool Tryz.underlying4 true);have hM:=h1.isMap;have hK:=O7.key (N9 hp);refine⟨w',hr,⟨_,ho,λq hq=>?_,λq hq=>?_,λq hq=>?_,λkl hk=>?_⟩,hg⟩
 ·by_cases e:q=p
  ·subst e;rw[atKey_put_same hM hK,J2.2 aj]
  ·have hne:ptK q≠ptK p:=λh=>e (yK hq hp h);rw[atKey_put_other hne,h2 q hq];have:Di (p::seen) q=Di seen q:=by
    show (Ez p q || Di seen q)=_;have:Ez p q=false:=by
     cases hh:Ez p q with
     |false=>rfl
     |true=>exact absurd (Dn.1 hh).symm e
    rw[this];rfl
   rw[this]
 ·by_cases e:q=p
  ·subst e;rw[has_put_same hM hK,J2.2 aj]
  ·have hne:ptK q≠ptK p:=λh=>e (yK hq hp h);rw[has_put_other hne,h3 q hq];have:Ez p q=false:=by
    cases hh:Ez p q with
    |false=>rfl
    |true=>exact absurd (Dn.1 hh).symm e
   show _=(Ez p q || Di seen q);rw[this];rfl
 ·rcases ag.1 hq with e|e
  ·rw[e];exact hp
  ·exact h4 q e
 ·by_cases e:kl=ptK p
  ·exact⟨p,aj,e⟩
  ·rw[has_put_other e]at hk;obtain⟨q,hq,he⟩:=h5 kl hk;exact⟨q,ak p hq,he⟩
def My(w:World)(b r n:Nat)(seen done:List Ab)(cnt:Nat):Prop:=∃(D:DataW Unit)(left:Lit->Bool),w.ranges Tryz.prog 88 (plainElem Tryz.prog 4) b r n D left cnt /\
 (∀p,p∈seen->ptW p)/\(∀p,ptW p->D.atKey (ptK p) (.lit (.bool false))=.lit (.bool (Di seen p)))/\(∀p,ptW p->(left (ptK p)=true↔p∈seen/\p∉done))/\(∀kl,left kl=true->∃p,p∈seen/\kl=ptK p)/\(∀p,p∈done->p∈seen)/\done.Nodup
theorem Jt.range(h:Jt w b n seen):∃w' cnt,(Instr.range 199 (.map (some b))).run Tryz.prog w=.ok (.pointer (some ⟨w.heap.size,0,none⟩)) w'/\My w' b w.heap.size n seen [] cnt/\w.grownBy w' none/\w'.heap.size=w.heap.size+1:=by
 obtain⟨D,h1,h2,h3,h4,h5⟩:=h;obtain⟨w',hr,hg,hb,hs⟩:=h1.range O7 Tryz.underlying199;refine⟨w',_,hr,⟨D,_,hg,h4,h2,λp hp=>?_,h5,by simp,List.nodup_nil⟩,hb,hs⟩;rw[h3 p hp,J2];simp
theorem Aju(hp:ptW p)(hq:ptW q):(ptK p).sameKey (ptK q)=Ez p q:=by
 cases h:Ez p q with
 |true=>rw[Dn.1 h];exact WideAt.sameKey_self (O7.key (N9 hq))
 |false=>
  refine sameKey_ne λe=>?_;rw[Dn.2 (yK hp hq e)]at h;cases h
theorem My.next{r cnt:Nat}(h:My w b r n seen done cnt)(ty:TypeId) :
  (cnt=0/\(∀p,p∈seen↔p∈done)/\(Instr.next (.pointer (some ⟨r,0,none⟩)) false ty).run Tryz.prog w=.ok (.tuple #[.bool false]) w) \/
  ∃p w' cnt',ptW p/\p∈seen/\p∉done/\(Instr.next (.pointer (some ⟨r,0,none⟩)) false ty).run Tryz.prog w=.ok (.tuple #[.bool true,ptV p,.bool true]) w'/\My w' b r n seen (p::done) cnt'/\cnt'<cnt/\w.grownBy w' (some r)/\w'.heap.size=w.heap.size /\
   (Instr.entry (.pointer (some ⟨r,0,none⟩))).run Tryz.prog w'=.ok (.tuple #[ptV p,.bool true]) w':=by
 obtain⟨D,left,h1,h2,h2b,h3,h4,h5,h6⟩:=h;rcases h1.next O7 ty with⟨c0,hl,hr⟩|⟨key,v,kl,y,w',cnt',k1,k2,k3,k4,k5,k6,k7,k8,k9,k10⟩
 ·refine .inl ⟨c0,λp=>⟨λhp=>?_,h5 p⟩,hr⟩;have:=h3 p (h2 p hp);rw[hl]at this;exact Classical.byContradiction λhn=>by have:=this.2 ⟨hp,hn⟩;cases this
 ·obtain⟨p,hp,rfl⟩:=h4 kl k2;have hw:=h2 p hp;have hkey:=O7.inj k1 (N9 hw);subst hkey;have hm:=(h3 p hw).1 k2;have hy:=k4 (.lit (.bool false));rw[h2b p hw,J2.2 hp]at hy;obtain⟨y1,y2⟩:=y;simp only at hy;subst hy;have hv:=jA Tryz.underlying4 k3;subst hv;refine .inr ⟨p,w',cnt',hw,hp,hm.2,k5,⟨D,_,k6,h2,h2b,λq hq=>?_,λkl hk=>?_,λq hq=>?_,List.nodup_cons.2 ⟨hm.2,h6⟩⟩,k7,k8,k9,k10⟩
  ·simp only[ac,aV,Aju hq hw,h3 q hq,ag,not_or];constructor
   ·rintro⟨⟨a1,a2⟩,a3⟩;exact⟨a1,(λe=>by rw[Dn.2 e]at a3;cases a3),a2⟩
   ·rintro⟨a1,a2,a3⟩;refine⟨⟨a1,a3⟩,?_⟩;cases hh:Ez q p with
    |false=>rfl
    |true=>exact absurd (Dn.1 hh) a2
  ·simp only[ac]at hk;exact h4 kl hk.1
  ·rcases ag.1 hq with e|e
   ·rw[e];exact hp
   ·exact h5 q e
end Go.Proofs.YtiaaaghdkhnonaaGreat
