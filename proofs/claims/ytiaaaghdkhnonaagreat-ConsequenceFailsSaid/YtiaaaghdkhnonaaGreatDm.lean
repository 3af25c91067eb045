import Derived.Maps.Views
import Derived.Maps.OwnSet
import Derived.Test.YtiaaaghdkhnonaaGreatDk
set_option linter.unusedVariables false
set_option linter.unusedSimpArgs false
namespace Go.Proofs.YtiaaaghdkhnonaaGreat
open Go Go.RowKit Go.SL Go.Maps Go.WideMaps Go.WideShapes
variable{done seen:List a_}{b n:Nat}{w:World}{p q:a_}
theorem yD(hp:ptW p)(hq:ptW q)(h:ptK p=ptK q):p=q:=by have h1:=O1 hp;have h2:=O1 hq;rw[h]at h1;have:=P1.inj h1 h2;unfold ptV at this;simp only[Value.agg.injEq,Array.mk.injEq,List.cons.injEq,Value.int.injEq,true_and,and_true]at this;exact Ame this.1 this.2
theorem jH{P:Program}{e:TypeId}(he:P.underlying e=some .bool){v:Value}{x:Bool}{ps:List MemPlace}(h:plainElem (H:=Unit) P e v=some (.lit (.bool x),ps)):v=.bool x:=by
 unfold plainElem at h;rw[he]at h;split at h
 .simp only[ah,au,DataW.lit.injEq,Lit.bool.injEq]at h;rw[h.1]
 .rename_i h1;cases h1
 .rename_i h1;cases h1
 .cases h
def Kk(w:World)(b n:Nat)(seen:List a_):Prop:=∃D:DataW Unit,w.ownsMap Tryz.prog 88 (plainElem Tryz.prog 4) b n D /\
 (∀p,ptW p->D.atKey (ptK p) (.lit (.bool false))=.lit (.bool (Dw seen p)))/\(∀p,ptW p->Maps.has D (ptK p)=Dw seen p)/\(∀p,p∈seen->ptW p)/\(∀kl,Maps.has D kl=true->∃p,p∈seen/\kl=ptK p)
theorem Ap8(w:World):Kk (w.alloc (.map #[] 0)) w.heap.size 0 []:=
 ⟨.map [],World.ownsMap_made w _ _ _,λp _=>rfl,λp _=>rfl,by simp,λkl h=>by cases h⟩
theorem Kk.look(h:Kk w b n seen)(hp:ptW p):(Instr.lookup 199 (.map (some b)) (ptV p) false).run Tryz.prog w=.ok (.bool (Dw seen p)) w:=by obtain⟨D,h1,h2,_⟩:=h;have hz:(zeroValue 4).run Tryz.prog w=.ok (.bool false) w:=Ga (by kernel_rfl);obtain⟨v,ps,hr,hv⟩:=h1.lookup P1 Tryz.underlying199 hz (plainElem_bool Tryz.underlying4 false) (O1 hp);rw[h2 p hp]at hv;rw[hr];have:=jH Tryz.underlying4 hv;rw[this]
theorem Kk.put(h:Kk w b n seen)(hp:ptW p)(hn:n<maxLen) :
  ∃w',(Instr.mapUpdate 199 (.map (some b)) (ptV p) (.bool true)).run Tryz.prog w=.ok () w'/\Kk w' b (n+1) (p::seen)/\w.grownBy w' (some b):=by
 obtain⟨D,h1,h2,h3,h4,h5⟩:=h;obtain⟨w',hr,ho,hg⟩:=h1.update P1 Tryz.underlying199 hn (O1 hp) (plainElem_bool Tryz.underlying4 true);have hM:=h1.isMap;have hK:=P1.key (O1 hp);refine⟨w',hr,⟨_,ho,λq hq=>?_,λq hq=>?_,λq hq=>?_,λkl hk=>?_⟩,hg⟩
 .by_cases e:q=p
  .subst e;rw[atKey_put_same hM hK,H0.2 ai]
  .have hne:ptK q≠ptK p:=λh=>e (yD hq hp h);rw[atKey_put_other hne,h2 q hq];have:Dw (p::seen) q=Dw seen q:=by
    show (Fj p q || Dw seen q)=_;have:Fj p q=false:=by
     cases hh:Fj p q with
     |false=>rfl
     |true=>exact absurd (D8.1 hh).symm e
    rw[this];rfl
   rw[this]
 .by_cases e:q=p
  .subst e;rw[has_put_same hM hK,H0.2 ai]
  .have hne:ptK q≠ptK p:=λh=>e (yD hq hp h);rw[has_put_other hne,h3 q hq];have:Fj p q=false:=by
    cases hh:Fj p q with
    |false=>rfl
    |true=>exact absurd (D8.1 hh).symm e
   show _=(Fj p q || Dw seen q);rw[this];rfl
 .rcases ag.1 hq with e|e
  .rw[e];exact hp
  .exact h4 q e
 .by_cases e:kl=ptK p
  .exact⟨p,ai,e⟩
  .rw[has_put_other e]at hk;obtain⟨q,hq,he⟩:=h5 kl hk;exact⟨q,al p hq,he⟩
def Nk(w:World)(b r n:Nat)(seen done:List a_)(cnt:Nat):Prop:=∃(D:DataW Unit)(left:Lit->Bool),w.ranges Tryz.prog 88 (plainElem Tryz.prog 4) b r n D left cnt /\
 (∀p,p∈seen->ptW p)/\(∀p,ptW p->D.atKey (ptK p) (.lit (.bool false))=.lit (.bool (Dw seen p)))/\(∀p,ptW p->(left (ptK p)=true↔p∈seen/\p∉done))/\(∀kl,left kl=true->∃p,p∈seen/\kl=ptK p)/\(∀p,p∈done->p∈seen)/\done.Nodup
theorem Kk.range(h:Kk w b n seen):∃w' cnt,(Instr.range 199 (.map (some b))).run Tryz.prog w=.ok (.pointer (some ⟨w.heap.size,0,none⟩)) w'/\Nk w' b w.heap.size n seen [] cnt/\w.grownBy w' none/\w'.heap.size=w.heap.size+1:=by obtain⟨D,h1,h2,h3,h4,h5⟩:=h;obtain⟨w',hr,hg,hb,hs⟩:=h1.range P1 Tryz.underlying199;refine⟨w',_,hr,⟨D,_,hg,h4,h2,λp hp=>?_,h5,by simp,List.nodup_nil⟩,hb,hs⟩;rw[h3 p hp,H0];simp
theorem Aij(hp:ptW p)(hq:ptW q):(ptK p).sameKey (ptK q)=Fj p q:=by
 cases h:Fj p q with
 |true=>rw[D8.1 h];exact WideAt.sameKey_self (P1.key (O1 hq))
 |false=>refine sameKey_ne λe=>?_;rw[D8.2 (yD hp hq e)]at h;cases h
theorem Nk.next{r cnt:Nat}(h:Nk w b r n seen done cnt)(ty:TypeId) :
  (cnt=0/\(∀p,p∈seen↔p∈done)/\(Instr.next (.pointer (some ⟨r,0,none⟩)) false ty).run Tryz.prog w=.ok (.tuple #[.bool false]) w) \/
  ∃p w' cnt',ptW p/\p∈seen/\p∉done/\(Instr.next (.pointer (some ⟨r,0,none⟩)) false ty).run Tryz.prog w=.ok (.tuple #[.bool true,ptV p,.bool true]) w'/\Nk w' b r n seen (p::done) cnt'/\cnt'<cnt/\w.grownBy w' (some r)/\w'.heap.size=w.heap.size /\
   (Instr.entry (.pointer (some ⟨r,0,none⟩))).run Tryz.prog w'=.ok (.tuple #[ptV p,.bool true]) w':=by
 obtain⟨D,left,h1,h2,h2b,h3,h4,h5,h6⟩:=h;rcases h1.next P1 ty with⟨c0,hl,hr⟩|⟨key,v,kl,y,w',cnt',k1,k2,k3,k4,k5,k6,k7,k8,k9,k10⟩
 .refine .inl ⟨c0,λp=>⟨λhp=>?_,h5 p⟩,hr⟩;have:=h3 p (h2 p hp);rw[hl]at this;exact Classical.byContradiction λhn=>by have:=this.2 ⟨hp,hn⟩;cases this
 .obtain⟨p,hp,rfl⟩:=h4 kl k2;have hw:=h2 p hp;have hkey:=P1.inj k1 (O1 hw);subst hkey;have hm:=(h3 p hw).1 k2;have hy:=k4 (.lit (.bool false));rw[h2b p hw,H0.2 hp]at hy;obtain⟨y1,y2⟩:=y;simp only at hy;subst hy;have hv:=jH Tryz.underlying4 k3;subst hv;refine .inr ⟨p,w',cnt',hw,hp,hm.2,k5,⟨D,_,k6,h2,h2b,λq hq=>?_,λkl hk=>?_,λq hq=>?_,cG.2 ⟨hm.2,h6⟩⟩,k7,k8,k9,k10⟩
  .simp only[ac,aW,Aij hq hw,h3 q hq,ag,not_or];constructor
   .rintro⟨⟨a1,a2⟩,a3⟩;exact⟨a1,(λe=>by rw[D8.2 e]at a3;cases a3),a2⟩
   .rintro⟨a1,a2,a3⟩;refine⟨⟨a1,a3⟩,?_⟩;cases hh:Fj q p with
    |false=>rfl
    |true=>exact absurd (D8.1 hh) a2
  .simp only[ac]at hk;exact h4 kl hk.1
  .rcases ag.1 hq with e|e
   .rw[e];exact hp
   .exact h5 q e
end Go.Proofs.YtiaaaghdkhnonaaGreat
