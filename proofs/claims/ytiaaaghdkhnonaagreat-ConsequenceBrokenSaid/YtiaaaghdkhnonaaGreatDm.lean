import Derived.Maps.Views
import Derived.Maps.OwnSet
import Derived.Test.YtiaaaghdkhnonaaGreatDk
set_option linter.unusedVariables false
set_option linter.unusedSimpArgs false
namespace Go.Proofs.YtiaaaghdkhnonaaGreat
open Go Go.RowKit Go.SL Go.Maps Go.WideMaps Go.WideShapes
variable{p q:Aa}{done seen:List Aa}{b n:Nat}{w:World}
theorem qL(hp:ptW p)(hq:ptW q)(h:ptK p=ptK q):p=q:=by
 have h1:=Nr hp;have h2:=Nr hq;rw[h]at h1;have:=On.inj h1 h2;unfold ptV at this;simp only[Value.agg.injEq,Array.mk.injEq,List.cons.injEq,Value.int.injEq,true_and,and_true]at this;exact Aki this.1 this.2
theorem Yj{P:Program}{e:TypeId}(he:P.underlying e=some .bool){v:Value}{x:Bool}{ps:List MemPlace}(h:plainElem (H:=Unit) P e v=some (.lit (.bool x),ps)):v=.bool x:=by
 unfold plainElem at h;rw[he]at h;split at h
 ·simp only[ah,aq,DataW.lit.injEq,Lit.bool.injEq]at h;rw[h.1]
 ·rename_i h1;cases h1
 ·rename_i h1;cases h1
 ·cases h
def Jo(w:World)(b n:Nat)(seen:List Aa):Prop:=∃D:DataW Unit,w.ownsMap Tryz.prog 88 (plainElem Tryz.prog 4) b n D /\
 (∀p,ptW p->D.atKey (ptK p) (.lit (.bool false))=.lit (.bool (Ct seen p)))/\(∀p,ptW p->Maps.has D (ptK p)=Ct seen p)/\(∀p,p∈seen->ptW p)/\(∀kl,Maps.has D kl=true->∃p,p∈seen/\kl=ptK p)
theorem An3(w:World):Jo (w.alloc (.map #[] 0)) w.heap.size 0 []:=
 ⟨.map [],World.ownsMap_made w _ _ _,λp _=>rfl,λp _=>rfl,by simp,λkl h=>by cases h⟩
theorem Jo.look(h:Jo w b n seen)(hp:ptW p):(Instr.lookup 199 (.map (some b)) (ptV p) false).run Tryz.prog w=.ok (.bool (Ct seen p)) w:=by
 obtain⟨D,h1,h2,_⟩:=h;have hz:(zeroValue 4).run Tryz.prog w=.ok (.bool false) w:=E8 (by kernel_rfl);obtain⟨v,ps,hr,hv⟩:=h1.lookup On Tryz.underlying199 hz (plainElem_bool Tryz.underlying4 false) (Nr hp);rw[h2 p hp]at hv;rw[hr];have:=Yj Tryz.underlying4 hv;rw[this]
theorem Jo.put(h:Jo w b n seen)(hp:ptW p)(hn:n<maxLen) :
  ∃w',(Instr.mapUpdate 199 (.map (some b)) (ptV p) (.bool true)).run Tryz.prog w=.ok () w'/\Jo w' b (n+1) (p::seen)/\w.grownBy w' (some b):=by
 obtain⟨D,h1,h2,h3,h4,h5⟩:=h;obtain⟨w',hr,ho,hg⟩:=h1.update On Tryz.underlying199 hn (Nr hp) (plainElem_bool Tryz.underlying4 true);have hM:=h1.isMap;have hK:=On.key (Nr hp);refine⟨w',hr,⟨_,ho,λq hq=>?_,λq hq=>?_,λq hq=>?_,λkl hk=>?_⟩,hg⟩
 ·by_cases e:q=p
  ·subst e;rw[atKey_put_same hM hK,G2.2 aj]
  ·have hne:ptK q≠ptK p:=λh=>e (qL hq hp h);rw[atKey_put_other hne,h2 q hq];have:Ct (p::seen) q=Ct seen q:=by
    show (Ei p q || Ct seen q)=_;have:Ei p q=false:=by
     cases hh:Ei p q with
     |false=>rfl
     |true=>exact absurd (C7.1 hh).symm e
    rw[this];rfl
   rw[this]
 ·by_cases e:q=p
  ·subst e;rw[has_put_same hM hK,G2.2 aj]
  ·have hne:ptK q≠ptK p:=λh=>e (qL hq hp h);rw[has_put_other hne,h3 q hq];have:Ei p q=false:=by
    cases hh:Ei p q with
    |false=>rfl
    |true=>exact absurd (C7.1 hh).symm e
   show _=(Ei p q || Ct seen q);rw[this];rfl
 ·rcases ag.1 hq with e|e
  ·rw[e];exact hp
  ·exact h4 q e
 ·by_cases e:kl=ptK p
  ·exact⟨p,aj,e⟩
  ·rw[has_put_other e]at hk;obtain⟨q,hq,he⟩:=h5 kl hk;exact⟨q,ak p hq,he⟩
def Mh(w:World)(b r n:Nat)(seen done:List Aa)(cnt:Nat):Prop:=∃(D:DataW Unit)(left:Lit->Bool),w.ranges Tryz.prog 88 (plainElem Tryz.prog 4) b r n D left cnt /\
 (∀p,p∈seen->ptW p)/\(∀p,ptW p->D.atKey (ptK p) (.lit (.bool false))=.lit (.bool (Ct seen p)))/\(∀p,ptW p->(left (ptK p)=true↔p∈seen/\p∉done))/\(∀kl,left kl=true->∃p,p∈seen/\kl=ptK p)/\(∀p,p∈done->p∈seen)/\done.Nodup
theorem Jo.range(h:Jo w b n seen):∃w' cnt,(Instr.range 199 (.map (some b))).run Tryz.prog w=.ok (.pointer (some ⟨w.heap.size,0,none⟩)) w'/\Mh w' b w.heap.size n seen [] cnt/\w.grownBy w' none/\w'.heap.size=w.heap.size+1:=by
 obtain⟨D,h1,h2,h3,h4,h5⟩:=h;obtain⟨w',hr,hg,hb,hs⟩:=h1.range On Tryz.underlying199;refine⟨w',_,hr,⟨D,_,hg,h4,h2,λp hp=>?_,h5,by simp,List.nodup_nil⟩,hb,hs⟩;rw[h3 p hp,G2];simp
theorem Agp(hp:ptW p)(hq:ptW q):(ptK p).sameKey (ptK q)=Ei p q:=by
 cases h:Ei p q with
 |true=>rw[C7.1 h];exact WideAt.sameKey_self (On.key (Nr hq))
 |false=>
  refine sameKey_ne λe=>?_;rw[C7.2 (qL hp hq e)]at h;cases h
theorem Mh.next{r cnt:Nat}(h:Mh w b r n seen done cnt)(ty:TypeId) :
  (cnt=0/\(∀p,p∈seen↔p∈done)/\(Instr.next (.pointer (some ⟨r,0,none⟩)) false ty).run Tryz.prog w=.ok (.tuple #[.bool false]) w) \/
  ∃p w' cnt',ptW p/\p∈seen/\p∉done/\(Instr.next (.pointer (some ⟨r,0,none⟩)) false ty).run Tryz.prog w=.ok (.tuple #[.bool true,ptV p,.bool true]) w'/\Mh w' b r n seen (p::done) cnt'/\cnt'<cnt/\w.grownBy w' (some r)/\w'.heap.size=w.heap.size /\
   (Instr.entry (.pointer (some ⟨r,0,none⟩))).run Tryz.prog w'=.ok (.tuple #[ptV p,.bool true]) w':=by
 obtain⟨D,left,h1,h2,h2b,h3,h4,h5,h6⟩:=h;rcases h1.next On ty with⟨c0,hl,hr⟩|⟨key,v,kl,y,w',cnt',k1,k2,k3,k4,k5,k6,k7,k8,k9,k10⟩
 ·refine .inl ⟨c0,λp=>⟨λhp=>?_,h5 p⟩,hr⟩;have:=h3 p (h2 p hp);rw[hl]at this;exact Classical.byContradiction λhn=>by have:=this.2 ⟨hp,hn⟩;cases this
 ·obtain⟨p,hp,rfl⟩:=h4 kl k2;have hw:=h2 p hp;have hkey:=On.inj k1 (Nr hw);subst hkey;have hm:=(h3 p hw).1 k2;have hy:=k4 (.lit (.bool false));rw[h2b p hw,G2.2 hp]at hy;obtain⟨y1,y2⟩:=y;simp only at hy;subst hy;have hv:=Yj Tryz.underlying4 k3;subst hv;refine .inr ⟨p,w',cnt',hw,hp,hm.2,k5,⟨D,_,k6,h2,h2b,λq hq=>?_,λkl hk=>?_,λq hq=>?_,List.nodup_cons.2 ⟨hm.2,h6⟩⟩,k7,k8,k9,k10⟩
  ·simp only[ac,aU,Agp hq hw,h3 q hq,ag,not_or];constructor
   ·rintro⟨⟨a1,a2⟩,a3⟩;exact⟨a1,(λe=>by rw[C7.2 e]at a3;cases a3),a2⟩
   ·rintro⟨a1,a2,a3⟩;refine⟨⟨a1,a3⟩,?_⟩;cases hh:Ei q p with
    |false=>rfl
    |true=>exact absurd (C7.1 hh) a2
  ·simp only[ac]at hk;exact h4 kl hk.1
  ·rcases ag.1 hq with e|e
   ·rw[e];exact hp
   ·exact h5 q e
end Go.Proofs.YtiaaaghdkhnonaaGreat
