import Derived.Test.YtedojeimigneaaaGreatDoorSlV
import Derived.Carry
import Derived.ChangeArms
import Derived.ChangeOld
import Derived.JoinedCond
namespace Go.SL
open Go.ChangeShapes Go.WideShapes Go.ChangeAt Go.RowKit
variable{H α:Type}{base size:Nat}{t:TypeId}{v:Value}
section
variable{P:Program}{W:World}
def old(W:World)(b:Nat):Prop:=b<W.heap.size
def Reads(P:Program)(W:World)(t:TypeId){α:Type}(E:α->List Pd)(ok:α->Prop):Prop:=
 ∀(H:Type)(enc:TypeId×Value->H)(base:Nat)(sp:Nat->Bool)(held:Bool)(fuel:Nat)(cs:eA)(x:DataW H×List MemPlace),
  DataW.trod enc P W base sp held fuel t cs=some x->∃a,ok a/\Ay (RdP (old W) W) cs (E a)
theorem Reads.int{k:IntKind}(ht:P.underlying t=some (.int k)):Reads P W t (pK k) (λn=>(Lit.int k n).wf=true):=by
 intro H enc base sp held fuel cs x h;cases fuel with
 |zero=>simp[DataW.trod]at h
 |succ m=>unfold DataW.trod at h;rw[ht]at h;split at h <;> simp_all;obtain⟨⟨rfl,hw⟩,_⟩:=h;exact⟨_,hw,.v _ rfl,trivial⟩
theorem Reads.i64(ht:P.underlying t=some (.int .i64)):Reads P W t pI (λn=>(Lit.int .i64 n).wf=true):=Reads.int ht
theorem Aua{a:Addr}(h:W.cell? a=some v):old W a.block:=by
 show a.block<W.heap.size;unfold World.cell? at h;cases hb:W.heap[a.block]? with
 |none=>rw[hb]at h;simp at h
 |some o=>exact(aL.1 hb).1
theorem Agv{β:Type}{Q:α->β->Prop}{l:List α}(h:∀a,a∈l->∃b,Q a b):∃m:List β,Ay Q l m:=by
 induction l with
 |nil=>exact⟨[],trivial⟩
 |cons a l ih=>obtain⟨b,hb⟩:=h a an;obtain⟨m,hm⟩:=ih λa ha=>h a (am _ ha);exact⟨b::m,hb,hm⟩
variable{E:α->List Pd}{ok:α->Prop}
theorem Reads.slice{e:TypeId}(ht:P.underlying t=some (.slice e))(hc:P.cellsOf e=size)(hE:∀a,(E a).length=size)(h:Reads P W e E ok) :
  Reads P W t (pL E) (λl=>(∀a,a∈l->ok a)/\l.length<=maxLen):=by
 intro H enc base sp held fuel cs x hx;rcases DataW.trod_slice ht hx with⟨rfl,_⟩|⟨a,len,cap,elems,rest,n,_,rfl,_,hb,hl,hm,hlen,hel,_,_⟩
 .refine⟨[],⟨by simp,bi _⟩,?_,trivial⟩;exact .s none ⟨0,0,none⟩ 0 0 [] (λ_ _=>undef) (ai _) (bi _) (λ_=>rfl) (by simp) (by simp) (by simp)
 .have key:∀i,i<len->∃(z:α)(ws:eA),ok z/\Ay (RdP (old W) W) ws (E z)/\∀j,j<size->W.cell? (a.add (i*size+j))=ws[j]?:=by
   intro i hi;have h1:=hel i hi;have h2:i<elems.length:=by omega
   rw[ak h2,hc]at h1;obtain⟨ws,h3,h4⟩:=Dt h1;obtain⟨_,h5,h6⟩:=World.cells?_some h3;obtain⟨z,h7,h8⟩:=h H enc base sp held n ws _ h4;refine⟨z,ws,h7,h8,λj hj=>?_⟩;have:=h6 j hj
   rwa [Rf]at this
  obtain⟨m,hm2⟩:=Agv (l:=List.range len) (Q:=λi(q:α×eA)=>ok q.1/\Ay (RdP (old W) W) q.2 (E q.1)/\∀j,j<size->W.cell? (a.add (i*size+j))=q.2[j]?) λi hi=>by obtain⟨z,ws,q⟩:=key i (bT.1 hi);exact⟨(z,ws),q⟩
  have hml:m.length=len:=by rw[←hm2.length];simp
  have hget:∀(i:Nat) q,m[i]?=some q->ok q.1/\Ay (RdP (old W) W) q.2 (E q.1)/\∀j,j<size->W.cell? (a.add (i*size+j))=q.2[j]?:=by
   intro i q hq;have hi:i<len:=by rw[←hml];exact(ac.1 hq).1
   exact hm2.both (x:=i) (by rw[bA hi]) hq
  refine⟨m.map (·.1),⟨λz hz=>?_,by rw[aq,hml];omega⟩,?_,trivial⟩
  .obtain⟨q,hq,rfl⟩:=aA.1 hz;obtain⟨i,hi⟩:=bC hq;exact(hget i q hi).1
  .have hrow:∀(i:Nat) row,((m.map (·.1)).map E)[i]?=some row->∃q,m[i]?=some q/\row=E q.1:=by
    intro i row hr;rw[au,au]at hr;obtain⟨z,h1,rfl⟩:=Cv hr;obtain⟨q,h2,rfl⟩:=Cv h1;exact⟨q,h2,rfl⟩
   have hcell:∀(i:Nat) row,((m.map (·.1)).map E)[i]?=some row->∀(j:Nat) d,row[j]?=some d->∃v,W.cell? (a.add (i*size+j))=some v/\RdP (old W) W v d:=by
    intro i row hr j d hd;obtain⟨q,h1,rfl⟩:=hrow i row hr;obtain⟨_,h3,h4⟩:=hget i q h1;obtain⟨v,h5,h6⟩:=h3.get hd;have hj:j<size:=by rw[←hE q.1];exact(ac.1 hd).1
    exact⟨v,by rw[h4 j hj,h5],h6⟩
   have hlen':((m.map (·.1)).map E).length=len:=by simp[hml]
   have:=RdP.s (S:=old W) (w:=W) (some a) a cap size ((m.map (·.1)).map E) (λi j=>(W.cell? (a.add (i*size+j))).getD undef) (by rw[hlen'];exact hl) hm (λh=>by cases h)
    (λrow hr=>by obtain⟨z,_,rfl⟩:=aA.1 hr;exact hE z)
    (λi row hr j d hd=>by obtain⟨v,h1,h2⟩:=hcell i row hr j d hd;have:=Aua h1;rw[Dh]at this;exact⟨rfl,this,by rw[h1];rfl⟩)
    (λi row hr j d hd=>by obtain⟨v,h1,h2⟩:=hcell i row hr j d hd;rw[h1];exact h2)
   rw[hlen']at this;exact this
theorem Reads.one{enc:TypeId×Value->H}(h:Reads P W t E ok)(hE:∀a,(E a).length=1){d:DataW H}{p:List MemPlace}{sp:Nat->Bool}{held:Bool}
  (hv:v.oneCell'=true)(hd:DataW.Trod enc P W base sp held t v d p):∃a,ok a/\RdA (old W) W [] v (.d (.p ((E a).headD default))):=by
 obtain⟨fuel,hf⟩:=hd;obtain⟨a,h1,h2⟩:=h H enc base sp held fuel _ _ hf;refine⟨a,h1,.d (.p ?_)⟩;have:=hE a
 match hea:E a,this with
 | [e],_=>
  rw[hea]at h2;have hc:v.cells.toList=[v]:=by cases v <;> first|rfl|(simp[Value.oneCell']at hv)
  rw[hc]at h2;exact h2.1
theorem trodAll_below{H:Type}{enc:TypeId×Value->H}(hl:laidOutB P=true){W W':World}(hb:Below W.heap.size W W'):∀{ts:List TypeId}{vs:eA}{ds:List (DataW H)}{ps:List MemPlace},(ts.all λt=>P.readableRec t&&decide (t<P.types.size))=true ->
  DataW.TrodAll enc P W 0 (λ_=>true) true ts vs ds ps->DataW.TrodAll enc P W' 0 (λb=>decide (b<W.heap.size)) true ts vs ds ps
 | [],vs,ds,ps,_,h=>by obtain⟨rfl,rfl,rfl⟩:=trodAll_nil h;exact trodAll_mk0
 |t::ts,vs,ds,ps,ht,h=>by
  obtain⟨v,vs',d,ds',p,q,rfl,rfl,rfl,h1,h2⟩:=trodAll_cons h;simp only[List.all_cons,aa,dM]at ht;have lt:∀x∈p,x.block<W.heap.size:=by obtain⟨m,hm⟩:=h1;exact DataW.trod_lt m _ _ _ hm
  exact trodAll_cons_mk (Below.trod hl ht.1.1 ht.1.2 h1 hb lt) (trodAll_below hl hb ht.2 h2)
theorem CallOk.law{f:FuncId}{vs:eA}{args:List AV}(h:CallOk P f args [] (.d (Bo true)) [])(hg:Tn (old W) W)(hv:Ay (RdA (old W) W []) vs args) :
  Calls P f vs.toArray W λe w'=>e=.returned (.bool true)/\Below W.heap.size W w':=by
 have hst:Start (old W) W [] []:=⟨rfl,λi r h hr=>by simp at hr,λi j r r' h h' b _ hr=>by simp at hr,λi r h b hr=>by simp at hr,λb hb=>hb,hg⟩;refine Calls.mono (h (old W) W [] vs hst hv) λe w' hp=>?_;obtain⟨v,S',ρ',rfl,hr,hI⟩:=hp;refine⟨by rw[hr.exact_inv],?_⟩;exact⟨hI.os,hI.tape.1,hI.output,hI.size,λb hb=>hI.frm b hb λ⟨i,r,h,h1,_⟩=>by simp at h1⟩
end
end Go.SL
