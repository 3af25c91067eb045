import Derived.Test.YtkcebipolafapaaGreatSlV
import Derived.Carry
import Derived.ChangeArms
import Derived.ChangeOld
import Derived.JoinedCond
namespace Go.SL
open Go.ChangeShapes Go.WideShapes Go.ChangeAt Go.RowKit
variable{H α β:Type}{held:Bool}{p:List MemPlace}{base off size:Nat}{sp:Nat->Bool}{t:TypeId}{v:Value}
section
variable{P:Program}{W:World}
def old(W:World)(b:Nat):Prop:=b<W.heap.size
def Reads(P:Program)(W:World)(t:TypeId){α:Type}(E:α->List Pd)(ok:α->Prop):Prop:=
 ∀(H:Type)(enc:TypeId×Value->H)(base:Nat)(sp:Nat->Bool)(held:Bool)(fuel:Nat)(cs:fh)(x:DataW H×List MemPlace),
  DataW.trod enc P W base sp held fuel t cs=some x->∃a,ok a/\Ap (RdP (old W) W) cs (E a)
theorem Reads.int{k:IntKind}(ht:P.underlying t=some (.int k)):Reads P W t (pK k) (λn=>(Lit.int k n).wf=true):=by
 intro H enc base sp held fuel cs x h;cases fuel with
 |zero=>simp[DataW.trod]at h
 |succ m=>unfold DataW.trod at h;rw[ht]at h;split at h <;> simp_all;obtain⟨⟨rfl,hw⟩,_⟩:=h;exact⟨_,hw,.v _ rfl,trivial⟩
theorem Reads.i64(ht:P.underlying t=some (.int .i64)):Reads P W t pI (λn=>(Lit.int .i64 n).wf=true):=Reads.int ht
theorem Reads.bool(ht:P.underlying t=some .bool):Reads P W t pB (λ_=>True):=by
 intro H enc base sp held fuel cs x h;cases fuel with
 |zero=>simp[DataW.trod]at h
 |succ m=>
  unfold DataW.trod at h;rw[ht]at h;split at h <;> try (simp at h;done)
  all_goals first|exact⟨_,trivial,.v _ rfl,trivial⟩|(simp_all;done)
variable{E:α->List Pd}{ok:α->Prop}
theorem Reads.map(h:Reads P W t E ok)(E':β->List Pd)(ok':β->Prop)(g:α->β)(hE:∀a,E a=E' (g a))(ho:∀a,ok a->ok' (g a)):Reads P W t E' ok':=by intro H enc base sp held fuel cs x hx;obtain⟨a,h1,h2⟩:=h H enc base sp held fuel cs x hx;exact⟨g a,ho a h1,by rw[←hE];exact h2⟩
theorem Asi{a:Addr}(h:W.cell? a=some v):old W a.block:=by
 show a.block<W.heap.size;unfold World.cell? at h;cases hb:W.heap[a.block]? with
 |none=>rw[hb]at h;simp at h
 |some o=>exact(bn.1 hb).1
theorem Aga{Q:α->β->Prop}{l:List α}(h:∀a,a∈l->∃b,Q a b):∃m:List β,Ap Q l m:=by
 induction l with
 |nil=>exact⟨[],trivial⟩
 |cons a l ih=>obtain⟨b,hb⟩:=h a ai;obtain⟨m,hm⟩:=ih λa ha=>h a (ak _ ha);exact⟨b::m,hb,hm⟩
theorem Reads.slice{e:TypeId}(ht:P.underlying t=some (.slice e))(hc:P.cellsOf e=size)(hE:∀a,(E a).length=size)(h:Reads P W e E ok) :
  Reads P W t (pL E) (λl=>(∀a,a∈l->ok a)/\l.length<=maxLen):=by
 intro H enc base sp held fuel cs x hx;rcases DataW.trod_slice ht hx with⟨rfl,_⟩|⟨a,len,cap,elems,rest,n,_,rfl,_,hb,hl,hm,hlen,hel,_,_⟩
 .refine⟨[],⟨by simp,ce _⟩,?_,trivial⟩;exact .s none ⟨0,0,none⟩ 0 0 [] (λ_ _=>undef) (ag _) (ce _) (λ_=>rfl) (by simp) (by simp) (by simp)
 .have key:∀i,i<len->∃(z:α)(ws:fh),ok z/\Ap (RdP (old W) W) ws (E z)/\∀j,j<size->W.cell? (a.add (i*size+j))=ws[j]?:=by
   intro i hi;have h1:=hel i hi;have h2:i<elems.length:=by omega
   rw[af h2,hc]at h1;obtain⟨ws,h3,h4⟩:=Cj h1;obtain⟨_,h5,h6⟩:=World.cells?_some h3;obtain⟨z,h7,h8⟩:=h H enc base sp held n ws _ h4;refine⟨z,ws,h7,h8,λj hj=>?_⟩;have:=h6 j hj
   rwa [P7]at this
  obtain⟨m,hm2⟩:=Aga (l:=List.range len) (Q:=λi(q:α×fh)=>ok q.1/\Ap (RdP (old W) W) q.2 (E q.1)/\∀j,j<size->W.cell? (a.add (i*size+j))=q.2[j]?) λi hi=>by obtain⟨z,ws,q⟩:=key i (aV.1 hi);exact⟨(z,ws),q⟩
  have hml:m.length=len:=by rw[←hm2.length];simp
  have hget:∀(i:Nat) q,m[i]?=some q->ok q.1/\Ap (RdP (old W) W) q.2 (E q.1)/\∀j,j<size->W.cell? (a.add (i*size+j))=q.2[j]?:=by
   intro i q hq;have hi:i<len:=by rw[←hml];exact(ab.1 hq).1
   exact hm2.both (x:=i) (by rw[bT hi]) hq
  refine⟨m.map (·.1),⟨λz hz=>?_,by rw[au,hml];omega⟩,?_,trivial⟩
  .obtain⟨q,hq,rfl⟩:=an.1 hz;obtain⟨i,hi⟩:=bB hq;exact(hget i q hi).1
  .have hrow:∀(i:Nat) row,((m.map (·.1)).map E)[i]?=some row->∃q,m[i]?=some q/\row=E q.1:=by
    intro i row hr;rw[aD,aD]at hr;obtain⟨z,h1,rfl⟩:=Cw hr;obtain⟨q,h2,rfl⟩:=Cw h1;exact⟨q,h2,rfl⟩
   have hcell:∀(i:Nat) row,((m.map (·.1)).map E)[i]?=some row->∀(j:Nat) d,row[j]?=some d->∃v,W.cell? (a.add (i*size+j))=some v/\RdP (old W) W v d:=by
    intro i row hr j d hd;obtain⟨q,h1,rfl⟩:=hrow i row hr;obtain⟨_,h3,h4⟩:=hget i q h1;obtain⟨v,h5,h6⟩:=h3.get hd;have hj:j<size:=by rw[←hE q.1];exact(ab.1 hd).1
    exact⟨v,by rw[h4 j hj,h5],h6⟩
   have hlen':((m.map (·.1)).map E).length=len:=by simp[hml]
   have:=RdP.s (S:=old W) (w:=W) (some a) a cap size ((m.map (·.1)).map E) (λi j=>(W.cell? (a.add (i*size+j))).getD undef) (by rw[hlen'];exact hl) hm (λh=>by cases h)
    (λrow hr=>by obtain⟨z,_,rfl⟩:=an.1 hr;exact hE z)
    (λi row hr j d hd=>by obtain⟨v,h1,h2⟩:=hcell i row hr j d hd;have:=Asi h1;rw[F_]at this;exact⟨rfl,this,by rw[h1];rfl⟩)
    (λi row hr j d hd=>by obtain⟨v,h1,h2⟩:=hcell i row hr j d hd;rw[h1];exact h2)
   rw[hlen']at this;exact this
def ReadsF(P:Program)(W:World)(fs:List Field)(off:Nat){α:Type}(E:α->List Pd)(ok:α->Prop):Prop:=
 ∀(H:Type)(enc:TypeId×Value->H)(base:Nat)(sp:Nat->Bool)(held:Bool)(m:Nat)(cs:fh)(xs:List (DataW H×List MemPlace)),cs.length=off+(fs.map λf=>P.cellsOf f.type).sum ->
  (fs.mapM λf=>DataW.trod enc P W base sp held m f.type ((cs.drop f.offset).take (P.cellsOf f.type)))=some xs->∃a,ok a/\Ap (RdP (old W) W) (cs.drop off) (E a)
theorem ReadsF.nil:ReadsF P W [] off (λ_:Unit=>[]) (λ_=>True):=by intro H enc base sp held m cs xs hl _;simp at hl;exact⟨(),trivial,by rw[List.drop_of_length_le (by omega)];trivial⟩
theorem ReadsF.cons{f:Field}{fs:List Field}{E':β->List Pd}{ok':β->Prop}(ho:f.offset=off)(hs:P.cellsOf f.type=size)(h1:Reads P W f.type E ok)(h2:ReadsF P W fs (off+size) E' ok') :
  ReadsF P W (f::fs) off (λ(x:α×β)=>E x.1++E' x.2) (λx=>ok x.1/\ok' x.2):=by
 intro H enc base sp held m cs xs hl hx;simp only[List.mapM_cons,Option.bind_eq_bind]at hx;obtain⟨y,h3,hx⟩:=Cj hx;obtain⟨ys,h4,hx⟩:=Cj hx;obtain⟨a,ha,hra⟩:=h1 H enc base sp held m _ _ h3;simp only[bo,List.sum_cons,hs]at hl;obtain⟨b,hb,hrb⟩:=h2 H enc base sp held m cs ys (by omega) h4;refine⟨(a,b),⟨ha,hb⟩,?_⟩;rw[ho,hs]at hra;have:cs.drop off=(cs.drop off).take size++cs.drop (off+size):=by rw[←bL,bP]
 rw[this];exact hra.append hrb
theorem Reads.struct{fs:Array Field}(ht:P.underlying t=some (.struct fs))(hc:P.cellsOf t=(fs.toList.map λf=>P.cellsOf f.type).sum)(h:ReadsF P W fs.toList 0 E ok):Reads P W t E ok:=by
 intro H enc base sp held fuel cs x hx;cases fuel with
 |zero=>simp[DataW.trod]at hx
 | succ m=>
  unfold DataW.trod at hx;rw[ht]at hx;simp only at hx;split at hx
  .rename_i hl;obtain⟨xs,h1,_⟩:=Cw hx;obtain⟨a,h2,h3⟩:=h H enc base sp held m cs xs (by rw[hl,hc];simp) h1;exact⟨a,h2,by simpa using h3⟩
  .cases hx
theorem Reads.one{enc:TypeId×Value->H}(h:Reads P W t E ok)(hE:∀a,(E a).length=1){d:DataW H} 
  (hv:v.oneCell'=true)(hd:DataW.Trod enc P W base sp held t v d p):∃a,ok a/\RdA (old W) W [] v (.d (.p ((E a).headD default))):=by
 obtain⟨fuel,hf⟩:=hd;obtain⟨a,h1,h2⟩:=h H enc base sp held fuel _ _ hf;refine⟨a,h1,.d (.p ?_)⟩;have:=hE a
 match hea:E a,this with
 | [e],_=>
  rw[hea]at h2;have hc:v.cells.toList=[v]:=by cases v <;> first|rfl|(simp[Value.oneCell']at hv)
  rw[hc]at h2;exact h2.1
theorem Reads.agg{enc:TypeId×Value->H}(h:Reads P W t E ok){cs:Array Value}{d:DataW H} 
  (hd:DataW.Trod enc P W base sp held t (.agg cs) d p):∃a,ok a/\RdA (old W) W [] (.agg cs) (.agg ((E a).map D.p)):=by
 obtain⟨fuel,hf⟩:=hd;obtain⟨a,h1,h2⟩:=h H enc base sp held fuel _ _ hf;refine⟨a,h1,?_⟩;have hc:(Value.agg cs).cells.toList=cs.toList:=rfl;rw[hc]at h2;have:=RdA.agg (S:=old W) (w:=W) (ρ:=[]) (vs:=cs.toList) (ds:=(E a).map D.p) (h2.map_right λ_ _ h=>.p h);simpa using this
theorem trodAll_below{H:Type}{enc:TypeId×Value->H}(hl:laidOutB P=true){W W':World}(hb:Below W.heap.size W W'):∀{ts:List TypeId}{vs:fh}{ds:List (DataW H)}{ps:List MemPlace},(ts.all λt=>P.readableRec t&&decide (t<P.types.size))=true ->
  DataW.TrodAll enc P W 0 (λ_=>true) true ts vs ds ps->DataW.TrodAll enc P W' 0 (λb=>decide (b<W.heap.size)) true ts vs ds ps
 | [],vs,ds,ps,_,h=>by obtain⟨rfl,rfl,rfl⟩:=trodAll_nil h;exact trodAll_mk0
 |t::ts,vs,ds,ps,ht,h=>by
  obtain⟨v,vs',d,ds',p,q,rfl,rfl,rfl,h1,h2⟩:=trodAll_cons h;simp only[List.all_cons,ac,dF]at ht;have lt:∀x∈p,x.block<W.heap.size:=by obtain⟨m,hm⟩:=h1;exact DataW.trod_lt m _ _ _ hm
  exact trodAll_cons_mk (Below.trod hl ht.1.1 ht.1.2 h1 hb lt) (trodAll_below hl hb ht.2 h2)
theorem dC{f:FuncId}{vs:fh}{args:List AV}(h:CallOk P f args [] (.d (Bo true)) [])(hg:X6 (old W) W)(hv:Ap (RdA (old W) W []) vs args) :
  Calls P f vs.toArray W λe w'=>e=.returned (.bool true)/\Below W.heap.size W w':=by
 have hst:Start (old W) W [] []:=⟨rfl,λi r h hr=>by simp at hr,λi j r r' h h' b _ hr=>by simp at hr,λi r h b hr=>by simp at hr,λb hb=>hb,hg⟩;refine Calls.mono (h (old W) W [] vs hst hv) λe w' hp=>?_;obtain⟨v,S',ρ',rfl,hr,hI⟩:=hp;refine⟨by rw[hr.exact_inv],?_⟩;exact⟨hI.os,hI.tape.1,hI.output,hI.size,λb hb=>hI.frm b hb λ⟨i,r,h,h1,_⟩=>by simp at h1⟩
end
end Go.SL
