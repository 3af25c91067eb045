import Derived.Shelf.Spec.SlicesInsert
import Derived.Lib.AppendZerosOnto
import Derived.Laws.NewBlocks
import Derived.Lib.Hide
import Derived.Test.YtedojeimigneaaaGreatDoorProg
import Derived.Test.YtedojeimigneaaaGreatDoorSlZ
set_option linter.unusedVariables false
set_option linter.unusedSimpArgs false
set_option maxHeartbeats 8000000
namespace Go.Proofs.YtedojeimigneaaaGreatDoor
open Go Go.RowKit Go.Shelf Go.SL Go.Lib Go.Proofs
variable{P:Program}
theorem Mg(w:World)(dT sT ty elem:TypeId)(g o dLen dCap:Nat)(a:Addr)(sLen sCap z:Nat)(cur:Array Value)(t:TypeId)(cs:eA)
  (hu:P.underlying dT=some (.slice elem))(hs:(P.info? elem).map (·.size)=some z)
  (hg:w.heap[g]?=some (.cells cur t (0,0)))(hn:cs.length=Nat.min sLen dLen*z)
  (hsrc:∀(j:Nat) v,cs[j]?=some v->w.cell? (a.add j)=some v)(hfit:o+cs.length<=cur.size)(h1:∀v∈cs,v.oneCell'=true) :
  (Builtin.copy_ #[dT,sT] ty #[.slice (some ⟨g,o,none⟩) dLen dCap,.slice (some a) sLen sCap]).run P w =
   .ok (goInt (Nat.min sLen dLen)) (w.setRow g (cur.toList.take o++cs++cur.toList.drop (o+cs.length)).toArray):=by
 have hl:=run_loadCells_list (P:=P) w a cs hsrc;have hst:=Hs (P:=P) (w:=w) (g:=g) (o:=o) (t:=t) (vs:=cs) (cur:=cur) (Blk.of hg) hfit h1;cases hq:P.info? elem with
 |none=>simp[hq]at hs
 |some i=>
  have hi:i.size=z:=by simpa[hq]using hs
  simp[Builtin.copy_,el hu,Builtin.lenOf,Builtin.firstCells,sizeOf,typeInfo,hq,hi,←hn,hl,hst]
theorem T9(w:World)(tS tR e:TypeId)(ht:P.underlying tS=some (.slice e))(size:Nat)(hz:∀w,(Go.sizeOf e).run P w=.ok size w)
  (a b:Addr)(la ca lb cb:Nat)(hne:a.block≠b.block)(tA tB:TypeId)(kA kB:Nat)
  (hsa:w.shape? a.block=some (tA,kA))(hsb:w.shape? b.block=some (tB,kB))(hkA:kA≠0)
  (hfb:w.frozen? b=false)(hfe:w.frozen? {block:=b.block,off:=kB}=false) :
  (Extern.SlicesOverlaps.overlaps #[tS,tS] #[tR] #[.slice (some a) la ca,.slice (some b) lb cb]).run P w=.ok (.bool false) w:=by
 have hnb:(a.block != b.block)=true:=by simpa using hne
 have hnb':(a.block==b.block)=false:=by simpa using hne
 change Sem.run P (α:=Value) (do
  let some t := (#[tS, tS] : Array TypeId)[0]? | stuck "slices.overlaps: no parameter types"
  let .slice elem ← underlying t | stuck "slices.overlaps: slice type expected"
  let size ←sizeOf elem
  match (some a:Option Addr),(some b:Option Addr) with
  | some a,some b=>
   if la=0\/lb=0\/size=0 then pure (Value.bool false)
   else if a.block != b.block&&(←frozen a)&&(←frozen b)then unsupported .addressObserved
   else do
    if a.block != b.block then do
     noView a;noView b
     if ← mayBeOne a b then return Value.bool ((← choose (.extern "sameAddr.stringBytes" 2)) == 1)
    pure (Value.bool (a.block==b.block&&a.off<b.off+lb*size&&b.off<a.off+la*size))
  |_,_=>pure (Value.bool false)) w=_
 by_cases h0:la=0\/lb=0\/size=0
 .simp[el ht,hz,h0]
 .cases kA with
  |zero=>exact absurd rfl hkA
  |succ kA=>
   cases h1:w.frozen? a <;> cases h2:w.frozen? {block:=a.block,off:=kA+1} <;>
   simp[el ht,hz,h0,hnb,hnb',frozen,noView,viewAt,mayBeOne,stringish,shape,Sem.run,hsa,hsb,hfb,hfe,h1,h2]
theorem szE:∀w,(Go.sizeOf 122).run Tryz.prog w=.ok 2 w:=λw=>Ch (by kernel_rfl)
theorem iE:(Tryz.prog.info? 122).map (·.size)=some 2:=by kernel_rfl
set_option maxRecDepth 100000 in
theorem Aoa(b off n c i vb voff m vc kA:Nat)(cur:Array Value)(tA:TypeId)(vs:eA)(w:World)(hi:i<n)(hm:0<m)(hroom:n+m<=c)(hc63:c<=9223372036854775807)(hvb:vb≠b)
  (hb:w.heap[b]?=some (.cells cur 122 (0,0)))(ho:off+c*2<=cur.size)
  (hvl:vs.length=m*2)(hvs:∀(j:Nat) v,vs[j]?=some v->w.cell? ⟨vb,voff+j,none⟩=some v)(hsa:w.shape? vb=some (tA,kA))(hkA:kA≠0)
  (h1c:∀v∈(cur.toList.drop off).take (n*2),v.oneCell'=true)(h1v:∀v∈vs,v.oneCell'=true)(R1 R2:Array Value)
  (hR1:R1=(cur.toList.take (off+(i+m)*2)++(cur.toList.drop (off+i*2)).take ((n-i)*2)++cur.toList.drop (off+(i+m)*2+(n-i)*2)).toArray)
  (hR2:R2=(R1.toList.take (off+i*2)++vs++R1.toList.drop (off+i*2+vs.length)).toArray) :
  Calls Tryz.prog 359 #[.slice (some ⟨b,off,none⟩) n c,.int .i64 i,.slice (some ⟨vb,voff,none⟩) m vc] w λe w'=>e=.returned (.slice (some ⟨b,off,none⟩) (n+m) c)/\w'=(w.drew.setRow b R1).setRow b R2:=by
 have hz1:¬((m:Int)=0):=by omega
 have hz2:¬((i:Int)=(n:Int)):=by omega
 have hsb:w.shape? b=some (122,cur.size):=by simp[World.shape?,hb]
 have hfb:∀o,w.frozen? ⟨b,o,none⟩=false:=λo=>by simp[World.frozen?,hb]
 have hov:∀lb cb o,(callFunc 453 #[.slice (some ⟨vb,voff,none⟩) m vc,.slice (some ⟨b,o,none⟩) lb cb]).run Tryz.prog w=.ok (.value (.bool false)) w:=λlb cb o=>by
  rw[run_callFunc_extern Tryz.func453 (by kernel_rfl) (by kernel_rfl) (by kernel_rfl) (e:=Extern.SlicesOverlaps.overlaps #[40,40] #[4]) (by kernel_rfl),
   T9 w 40 4 122 Tryz.underlying40 2 szE ⟨vb,voff,none⟩ ⟨b,o,none⟩ m vc lb cb hvb tA 122 kA cur.size hsa hsb hkA (hfb _) (hfb _)]
  rfl
 have hw1:IntKind.i64.wrap ((i:Int)+(m:Int))=(i:Int)+(m:Int):=by rw[IntKind.wrap_i64];omega
 have hb1:(0:Int)<=(i:Int)+(m:Int):=by omega
 have hin:i<=n:=by omega
 have htn:((i:Int)+(m:Int)).toNat=i+m:=by omega
 have hb2:¬(c=i+m):=by omega
 have hb3:(i:Int)<=(n:Int)+(m:Int):=by omega
 have hb4:¬(c=i):=by omega
 have hcp1:∀ty dc sc,(Builtin.copy_ #[40,40] ty #[.slice (some ⟨b,off+(i+m)*2,none⟩) (n+m-(i+m)) dc,.slice (some ⟨b,off+i*2,none⟩) (n+m-i) sc]).run Tryz.prog w.drew=.ok (goInt (Nat.cast (n-i))) (w.drew.setRow b R1):=λty dc sc=>by
  have hmin:Nat.min (n+m-i) (n+m-(i+m))=n-i:=by simp only[Nat.min_def];split <;> omega
  have hlen:((cur.toList.drop (off+i*2)).take ((n-i)*2)).length=(n-i)*2:=by simp;omega
  have:=Mg w.drew 40 40 ty 122 b (off+(i+m)*2) (n+m-(i+m)) dc ⟨b,off+i*2,none⟩ (n+m-i) sc 2 cur 122 ((cur.toList.drop (off+i*2)).take ((n-i)*2)) Tryz.underlying40 iE hb
   (by rw[hmin,hlen]) (λj v hj=>?_) (by rw[hlen];omega) (λv hv=>?_)
  .rw[hmin,hlen,←hR1]at this;exact this
  .rw[Cn,World.cell?_drew];rw[ap]at hj;split at hj
   .rw[ar]at hj;simp[World.cell?,hb];simpa using hj
   .cases hj
  .refine h1c v ?_;obtain⟨j,hj⟩:=bC hv;rw[ap]at hj;split at hj
   .rename_i hjl;rw[ar]at hj;refine ag (i:=i*2+j) ?_;rw[ap,ei (by omega),ar,←hj];congr 1;omega
   .cases hj
 have hb0:(w.drew.setRow b R1).heap[b]?=some (.cells R1 122 (0,0)):=Df _ _ _ _ _ _ hb;have hR1s:R1.size=cur.size:=by rw[hR1];simp;omega
 have hcp2:∀(W:World),W.heap=(w.drew.setRow b R1).heap->∀ty dc,(Builtin.copy_ #[40,40] ty #[.slice (some ⟨b,off+i*2,none⟩) (n+m-i) dc,.slice (some ⟨vb,voff,none⟩) m vc]).run Tryz.prog W=.ok (goInt m) (W.setRow b R2):=λW hW ty dc=>by
  have hmin:Nat.min m (n+m-i)=m:=by simp only[Nat.min_def];split <;> omega
  have:=Mg W 40 40 ty 122 b (off+i*2) (n+m-i) dc ⟨vb,voff,none⟩ m vc 2 R1 122 vs Tryz.underlying40 iE (by rw[hW];exact hb0)
   (by rw[hmin,hvl]) (λj v hj=>?_) (by rw[hvl,hR1s];omega) h1v
  .rw[hmin,←hR2]at this;exact this
  .rw[Cn,←hvs j v hj];refine World.cell?_of_block (a:=⟨vb,voff+j,none⟩) ?_;rw[hW];exact Bg w.drew _ _ _ hvb
 have mixed:Tryz.prog.follows .mixedOrders=true:=by kernel_rfl
 go_enter Tryz.func359,Tryz.ntmps359
 go_wp2_with (simp only[hov])
 go_region_law_o (refine step_copy_runI rfl _ _ 40 40 rfl _ _ (by simp[Act.eval,Act.put]) (by simp[Act.eval,Act.put]) (hcp1 _ _ _) ?_)
 go_wp2_with (at_builtin;refine wpList_copy_runI _ rfl _ _ 40 40 rfl _ _ rfl rfl (hcp2 _ rfl _ _) ?_)
 go_ret
 refine⟨rfl,?_⟩;rw[hR2,hR1];simp only[hvl,bF]
def Ia:Value:=.agg #[.int .i64 0,.int .i64 0]
theorem A8g:∃i,Tryz.prog.info? 122=some i/\i.zero=some Ia/\i.size=2/\i.bytes=16:=by
 obtain⟨i,h⟩:∃i,Tryz.prog.info? 122=some i:=by
  cases hq:Tryz.prog.info? 122 with
  |none=>have:=iE;rw[hq]at this;cases this
  |some i=>exact⟨i,rfl⟩
 have h1:(Tryz.prog.info? 122).map (·.size)=some 2:=by kernel_rfl
 have h2:(Tryz.prog.info? 122).map (·.bytes)=some 16:=by kernel_rfl
 have h3:(Tryz.prog.info? 122).bind (·.zero)=some Ia:=by kernel_rfl
 rw[h]at h1 h2 h3;exact⟨i,h,by simpa using h3,by simpa using h1,by simpa using h2⟩
set_option maxRecDepth 100000 in
theorem Atf(b off n c i vb voff m vc:Nat)(cur:Array Value)(vs:eA)(w:World)(hi:i<n)(hm:0<m)(hnc:n<=c)(hroom:c<n+m)(hbig:(n+m)*16<=140737488355328)
  (hb:w.heap[b]?=some (.cells cur 122 (0,0)))(ho:off+c*2<=cur.size)
  (hvl:vs.length=m*2)(hvs:∀(j:Nat) v,vs[j]?=some v->w.cell? ⟨vb,voff+j,none⟩=some v)
  (h1c:∀v∈(cur.toList.drop off).take (n*2),v.oneCell'=true)(h1v:∀v∈vs,v.oneCell'=true)(ROW RA RB:Array Value)
  (hROW:ROW=((cur.toList.drop off).take (i*2)).toArray++Builtin.zeroCells Ia.cells (n+m-i)++Builtin.zeroCells Ia.cells (grownCap w (n+m) c 122-(n+m)))
  (hRA:RA=(ROW.toList.take (i*2)++vs++ROW.toList.drop (i*2+vs.length)).toArray)
  (hRB:RB=(RA.toList.take ((i+m)*2)++(cur.toList.drop (off+i*2)).take ((n-i)*2)++RA.toList.drop ((i+m)*2+(n-i)*2)).toArray) :
  Calls Tryz.prog 359 #[.slice (some ⟨b,off,none⟩) n c,.int .i64 i,.slice (some ⟨vb,voff,none⟩) m vc] w λe w'=>e=.returned (.slice (some ⟨w.heap.size,0,none⟩) (n+m) (grownCap w (n+m) c 122))/\w'.heap=((w.alloc (.cells ROW 122)).setRow w.heap.size RA |>.setRow w.heap.size RB).heap/\w'.os=w.os/\Tp w w'/\w'.output=w.output:=by
 obtain⟨i0,hi0,hz0,hzs,hzb⟩:=A8g;have hz1:¬((m:Int)=0):=by omega
 have hz2:¬((i:Int)=(n:Int)):=by omega
 have hz3:(c:Int)<(n:Int)+(m:Int):=by omega
 have hbw:b<w.heap.size:=(aL.1 hb).1;have hvw:vb<w.heap.size:=block_lt_of_cell (hvs 0 _ (ak (by omega)));have hkk:(n:Int)+(m:Int)-(i:Int)=((n+m-i:Nat):Int):=by omega
 have hik:i+(n+m-i)=n+m:=by omega
 have hold:(Builtin.firstCells i0.size i (.slice (some ⟨b,off,none⟩) i c)).run Tryz.prog w.drew=.ok ((cur.toList.drop off).take (i*2)).toArray w.drew:=by
  rw[hzs];have hl:=run_loadCells_list (P:=Tryz.prog) w.drew ⟨b,off,none⟩ ((cur.toList.drop off).take (i*2)) (λj v hj=>by
   rw[Cn,World.cell?_drew];rw[ap]at hj;split at hj
   .rw[ar]at hj;simp[World.cell?,hb];simpa using hj
   .cases hj)
  have hlen:((cur.toList.drop off).take (i*2)).length=i*2:=by simp;omega
  rw[hlen]at hl;simp[Builtin.firstCells,hl]
 have hrz:∀ty,(Builtin.append_ #[40,3] ty #[.slice (some ⟨b,off,none⟩) i c,.int .i64 ((n:Int)+(m:Int)-(i:Int))]).run Tryz.prog w =
   .ok (.slice (some ⟨w.heap.size,0,none⟩) (n+m) (grownCap w (n+m) c 122)) (w.drew.alloc (.cells (((cur.toList.drop off).take (i*2)).toArray++Builtin.zeroCells Ia.cells (n+m-i)++Builtin.zeroCells Ia.cells (grownCap w (n+m) c 122-(n+m))) 122)):=λty=>by
  have h:=Lib.run_append_grow_zeros w 40 3 ty 122 i0 Ia .i64 .i64 Tryz.underlying40 Tryz.underlying3 hi0 hz0 (some ⟨b,off,none⟩) i c _ hold (n+m-i) (by omega) (by omega) (by omega) (by omega) (by rw[hzb];omega) (by rw[hzb,hik];exact growslice_fits hroom hbig);rw[hik]at h;rw[hkk];exact h
 obtain⟨G,hG⟩:∃G,G=grownCap w (n+m) c 122:=⟨_,rfl⟩;rw[←hG]at hrz hROW ⊢;rw[←hROW]at hrz;have hGn:n+m<=G:=by rw[hG];exact grownCap_ge w _ _ _
 have hG63:G<=9223372036854775807:=by have:=grownCap_le_maxLen w (n+m) c 122 (by unfold maxLen;omega);rw[←hG]at this;unfold maxLen at this;omega
 have hzc:Ia.cells = #[.int .i64 0,.int .i64 0]:=rfl;have hRl:ROW.size=G*2:=by rw[hROW];simp[Builtin.zeroCells,hzc];omega
 have hRAs:RA.size=G*2:=by rw[hRA];simp;omega
 obtain⟨W1,hW1⟩:∃W1,W1=w.drew.alloc (.cells ROW 122):=⟨_,rfl⟩;rw[←hW1]at hrz;have hN:W1.heap[w.heap.size]?=some (.cells ROW 122 (0,0)):=by rw[hW1];exact Fb w.drew _
 have hOb:W1.heap[b]?=some (.cells cur 122 (0,0)):=by rw[hW1,←hb];exact B8 w.drew _ b hbw
 have hOv:∀j,W1.cell? ⟨vb,j,none⟩=w.cell? ⟨vb,j,none⟩:=λj=>by refine World.cell?_of_block (a:=⟨vb,j,none⟩) ?_;rw[hW1];exact B8 w.drew _ vb hvw
 have hbN:b≠w.heap.size:=by omega
 have hvN:vb≠w.heap.size:=by omega
 have hcpA:∀(W:World),W.heap=W1.heap->∀ty dc,(Builtin.copy_ #[40,40] ty #[.slice (some ⟨w.heap.size,i*2,none⟩) (n+m-i) dc,.slice (some ⟨vb,voff,none⟩) m vc]).run Tryz.prog W=.ok (goInt m) (W.setRow w.heap.size RA):=λW hW ty dc=>by
  have hmin:Nat.min m (n+m-i)=m:=by simp only[Nat.min_def];split <;> omega
  have:=Mg W 40 40 ty 122 w.heap.size (i*2) (n+m-i) dc ⟨vb,voff,none⟩ m vc 2 ROW 122 vs Tryz.underlying40 iE (by rw[hW];exact hN)
   (by rw[hmin,hvl]) (λj v hj=>?_) (by rw[hvl,hRl];omega) h1v
  .rw[hmin,←hRA]at this;exact this
  .rw[Cn,←hvs j v hj,←hOv];exact World.cell?_of_block (a:=⟨vb,voff+j,none⟩) (by rw[hW])
 have hA0:(W1.setRow w.heap.size RA).heap[w.heap.size]?=some (.cells RA 122 (0,0)):=Df _ _ _ _ _ _ hN;have hAb:(W1.setRow w.heap.size RA).heap[b]?=some (.cells cur 122 (0,0)):=by rw[←hOb];exact Bg W1 _ _ _ hbN
 have hcpB:∀(W:World),W.heap=(W1.setRow w.heap.size RA).heap->∀ty dc sc,(Builtin.copy_ #[40,40] ty #[.slice (some ⟨w.heap.size,(i+m)*2,none⟩) (n+m-(i+m)) dc,.slice (some ⟨b,off+i*2,none⟩) (n-i) sc]).run Tryz.prog W=.ok (goInt (Nat.cast (n-i))) (W.setRow w.heap.size RB):=λW hW ty dc sc=>by
  have hmin:Nat.min (n-i) (n+m-(i+m))=n-i:=by simp only[Nat.min_def];split <;> omega
  have hlen:((cur.toList.drop (off+i*2)).take ((n-i)*2)).length=(n-i)*2:=by simp;omega
  have:=Mg W 40 40 ty 122 w.heap.size ((i+m)*2) (n+m-(i+m)) dc ⟨b,off+i*2,none⟩ (n-i) sc 2 RA 122 ((cur.toList.drop (off+i*2)).take ((n-i)*2)) Tryz.underlying40 iE (by rw[hW];exact hA0)
   (by rw[hmin,hlen]) (λj v hj=>?_) (by rw[hlen,hRAs];omega) (λv hv=>?_)
  .rw[hmin,hlen,←hRB]at this;exact this
  .rw[Cn];rw[ap]at hj;split at hj
   .rw[ar]at hj;simp[World.cell?,hW,hAb];simpa using hj
   .cases hj
  .refine h1c v ?_;obtain⟨j,hj⟩:=bC hv;rw[ap]at hj;split at hj
   .rename_i hjl;rw[ar]at hj;refine ag (i:=i*2+j) ?_;rw[ap,ei (by omega),ar,←hj];congr 1;omega
   .cases hj
 have hGi:¬(G=i):=by omega
 have hGim:¬(G=i+m):=by omega
 have hci:¬(c=i):=by omega
 have hw1:IntKind.i64.wrap ((i:Int)+(m:Int))=(i:Int)+(m:Int):=by rw[IntKind.wrap_i64];omega
 have hb1:(0:Int)<=(i:Int)+(m:Int):=by omega
 have hin:i<=n:=by omega
 have htn:((i:Int)+(m:Int)).toNat=i+m:=by omega
 have hb3:(i:Int)<=(n:Int):=by omega
 have hfin:∀(W:World),W.heap=(W1.setRow w.heap.size RA).heap->W.os=w.os->Tp w W->W.output=w.output ->
   (W.setRow w.heap.size RB).heap=((w.alloc (.cells ROW 122)).setRow w.heap.size RA |>.setRow w.heap.size RB).heap/\(W.setRow w.heap.size RB).os=w.os/\Tp w (W.setRow w.heap.size RB)/\(W.setRow w.heap.size RB).output=w.output:=by
  intro W h1 h2 h3 h4;have e:(W1.setRow w.heap.size RA).heap=((w.alloc (.cells ROW 122)).setRow w.heap.size RA).heap:=by subst hW1;rfl
  have key:∀(A B:World),A.heap=B.heap->(A.setRow w.heap.size RB).heap=(B.setRow w.heap.size RB).heap:=λA B h=>by unfold World.setRow;rw[h]
  exact⟨key _ _ (h1.trans e),h2,h3,h4⟩
 have HF:=Lib.hid hfin;clear hfin;have mixed:Tryz.prog.follows .mixedOrders=true:=by kernel_rfl
 clear hkk hik hold hROW hRA hRB hG;subst hW1;have hE1:((w.alloc (.cells ROW 122)).drew).heap=(w.drew.alloc (.cells ROW 122)).heap:=rfl;have hF1:(((w.alloc (.cells ROW 122)).drew.setRow w.heap.size RA).drew).heap=((w.drew.alloc (.cells ROW 122)).setRow w.heap.size RA).heap:=rfl
 go_enter Tryz.func359,Tryz.ntmps359
 go_wp2_with (first
  |(at_builtin;refine Lib.wpList_append_run _ rfl _ _ _ _ rfl _ _ rfl rfl _ _ (hrz _) ?_)
  |(at_builtin;refine wpList_copy_runI _ rfl _ _ 40 40 rfl _ _ rfl rfl (hcpA _ hE1 _ _) ?_))
 go_region_law_o (refine step_copy_runI rfl _ _ 40 40 rfl (.slice (some ⟨w.heap.size,(i+m)*2,none⟩) (n+m-(i+m)) (G-(i+m))) (.slice (some ⟨b,off+i*2,none⟩) (n-i) (c-i)) (by simp[Act.eval,Act.put]) (by simp[Act.eval,Act.put]) (hcpB _ hF1 3 (G-(i+m)) (c-i)) ?_)
 go_wp2
 go_ret
 exact⟨rfl,HF.out _ rfl rfl ⟨rfl,λ_=>by repeat (first|exact ai _|refine Nat.le_succ_of_le ?_)⟩ rfl⟩
theorem Ajg{S:Nat->Prop}{w:World}{v:Value}{rows:List (List Pd)}(h:RdP S w v (.s rows))(hsz:∀r,r∈rows->r.length=2)(hne:0<rows.length) :
  ∃(vb voff vc:Nat)(xs:eA)(c:Array Value)(t:TypeId)(fr:Nat×Nat),v=.slice (some ⟨vb,voff,none⟩) rows.length vc/\S vb/\w.heap[vb]?=some (.cells c t fr)/\c.size≠0/\xs.length=rows.length*2 /\
   (∀(j:Nat) x,xs[j]?=some x->w.cell? ⟨vb,voff+j,none⟩=some x)/\(∀x∈xs,x.oneCell'=true) /\
   ∀(i:Nat) row,rows[i]?=some row->∀(j:Nat) d,row[j]?=some d->∃x,xs[i*2+j]?=some x/\RdP S w x d:=by
 cases h with
 | s a ad cap size _ xs hc hm hz hsize hx hr=>
  obtain⟨row0,h0⟩:∃r,rows[0]?=some r:=⟨_,ak hne⟩;have hl0:=hsz row0 (ag h0);have hs2:size=2:=by rw[←hsize row0 (ag h0),hl0]
  subst hs2;obtain⟨d0,hd0⟩:∃d,row0[0]?=some d:=⟨_,ak (by omega)⟩;obtain⟨ha,hS,hcell⟩:=hx 0 row0 h0 0 d0 hd0;obtain⟨vb,voff,sp⟩:=ad;have hsp:sp=none:=by
   cases sp with
   |none=>rfl
   |some q=>
    exfalso;have:(⟨vb,voff,some q⟩:Addr).add (0*2+0)=⟨vb,voff,some q⟩:=by simp[Addr.add]
    rw[this]at hcell;unfold World.cell? at hcell;split at hcell
    .simp at hcell
    .cases hcell
  subst hsp;have hblk:∃c t fr,w.heap[vb]?=some (.cells c t fr)/\c.size≠0:=by
   rw[Cn]at hcell;unfold World.cell? at hcell;split at hcell
   .rename_i c t fr hh;refine⟨c,t,fr,hh,?_⟩;simp at hcell;have:=(aL.1 hcell).1;omega
   .cases hcell
  obtain⟨c,t,fr,hb1,hb2⟩:=hblk;have hat:∀(i:Nat) row,rows[i]?=some row->∀(j:Nat),j<2->∃d,row[j]?=some d:=λi row hi j hj=>⟨_,ak (by rw[hsz row (ag hi)];exact hj)⟩;have hg:∀k,k<rows.length*2->w.cell? ⟨vb,voff+k,none⟩=some (xs (k / 2) (k % 2))/\(xs (k / 2) (k % 2)).oneCell'=true:=by
   intro k hk;obtain⟨row,hrow⟩:∃r,rows[k / 2]?=some r:=⟨_,ak (by omega)⟩;obtain⟨d,hd⟩:=hat _ row hrow (k % 2) (by omega);obtain⟨_,_,h3⟩:=hx _ row hrow _ d hd;have e:k / 2*2+k % 2=k:=by omega
   rw[Cn,e]at h3;exact⟨h3,(hr _ row hrow _ d hd).one⟩
  refine⟨vb,voff,cap,(List.range (rows.length*2)).map λk=>xs (k / 2) (k % 2),c,t,fr,by rw[ha],hS,hb1,hb2,by simp,λj x hj=>?_,λx hx'=>?_,λi row hi j d hj=>?_⟩
  .rw[au]at hj;cases hq:(List.range (rows.length*2))[j]? with
   |none=>rw[hq]at hj;cases hj
   |some k=>rw[hq]at hj;cases hj;have:=ac.1 hq;simp at this;obtain⟨h1,rfl⟩:=this;exact(hg _ h1).1
  .obtain⟨k,hk,rfl⟩:=aA.1 hx';exact(hg k (by simpa using hk)).2
  .have hil:=(ac.1 hi).1;have hjl:j<2:=by have:=(ac.1 hj).1;rw[hsz row (ag hi)]at this;exact this
   refine⟨xs i j,?_,hr i row hi j d hj⟩;rw[au,bA (by omega)];have e1:(i*2+j) / 2=i:=by omega
   have e2:(i*2+j) % 2=j:=by omega
   simp[e1,e2]
theorem A1w(rows vrows:List (List Pd))(i:Nat)(hi:i<rows.length)(hv:0<vrows.length)(hsz:∀r,r∈vrows->r.length=2)(hbig:(rows.length+vrows.length)*16<=140737488355328) :
  CallOk Tryz.prog 359 [.d (.os 0),.d (.p (.v (.int .i64 (i:Int)))),.d (.p (.s vrows))] [.sl 122 2 rows] (.d (.os 1)) [.non,.sl 122 2 (rows.take i++(vrows++rows.drop i))]:=by
 intro S w ρ vs hS hA;obtain⟨v0,v1,v2,rfl,r0,r1,r2⟩:∃v0 v1 v2,vs=[v0,v1,v2]/\RdA S w ρ v0 (.d (.os 0))/\RdA S w ρ v1 (.d (.p (.v (.int .i64 (i:Int)))))/\RdA S w ρ v2 (.d (.p (.s vrows))):=by
  match vs,hA with
  | [v0,v1,v2],h=>exact⟨v0,v1,v2,rfl,h.1,h.2.1,h.2.2.1⟩
  | [],h=>exact h.elim
  | [_],h=>exact h.2.elim
  | [_,_],h=>exact h.2.2.elim
  |_::_::_::_::_,h=>exact h.2.2.2.elim
 have e1:=r1.exact_inv;subst e1;have h0:=r0.d_inv.os_inv;have h1:=r0.d_inv.one;have hlen:ρ.length=1:=hS.len;obtain⟨h,rfl⟩:∃h,ρ=[h]:=by
  match ρ,hlen with
  | [h],_=>exact⟨h,rfl⟩
 have hh:h=v0:=by simpa using h0
 subst hh;have hok:=(hS.ok 0 _ h rfl rfl).live h1;rcases hok with⟨_,hnil⟩|⟨b,o,cap,cur,rfl,hb,hcap,hmax,hfit,hrow,hcell⟩
 .rw[hnil]at hi;simp at hi
 have hb:=hb.zero rfl;have hp:RdP S w v2 (.s vrows):=by cases r2 with|d r2=>cases r2 with|p r2=>exact r2
 obtain⟨vb,voff,vc,xs,c,t,fr,rfl,hSv,hbv,hcz,hxl,hxc,hx1,hxr⟩:=Ajg hp hsz hv;have hnb:¬S b:=(hS.own 0 _ _ b rfl rfl rfl).1;have hbw:b<w.heap.size:=(hS.own 0 _ _ b rfl rfl rfl).2;have hne:vb≠b:=λe=>hnb (e ▸ hSv);have h1c:∀v∈(cur.toList.drop o).take (rows.length*2),v.oneCell'=true:=by
  intro v hv';obtain⟨k,hk⟩:=bC hv';rw[ap]at hk;split at hk
  .rename_i hkl;rw[ar]at hk;obtain⟨row,hr⟩:∃r,rows[k / 2]?=some r:=⟨_,ak (by omega)⟩;obtain⟨d,hd⟩:∃d,row[k % 2]?=some d:=⟨_,ak (by rw[hrow row (ag hr)];omega)⟩;obtain⟨x,hx,hxd⟩:=hcell _ row hr _ d hd;have e:o+k / 2*2+k % 2=o+k:=by omega
   rw[e]at hx;simp at hk;rw[hk]at hx;cases hx;exact hxd.one
  .cases hk
 have hsb:w.shape? vb=some (t,c.size):=by simp[World.shape?,hbv]
 have hnewlen:(rows.take i++(vrows++rows.drop i)).length=rows.length+vrows.length:=by simp;omega
 have hrow':∀row,row∈rows.take i++(vrows++rows.drop i)->row.length=2:=by
  intro row hm;rcases aw.1 hm with hm|hm
  .exact hrow row (bc hm)
  .rcases aw.1 hm with hm|hm
   .exact hsz row hm
   .exact hrow row (cx hm)
 have hwhere:∀(k:Nat) row,(rows.take i++(vrows++rows.drop i))[k]?=some row->(k<i/\rows[k]?=some row)\/(i<=k/\k<i+vrows.length/\vrows[k-i]?=some row)\/(i+vrows.length<=k/\k<rows.length+vrows.length/\rows[k-vrows.length]?=some row):=by
  intro k row hk;have hkl:=(ac.1 hk).1;rw[hnewlen]at hkl;have hti:(rows.take i).length=i:=by simp;omega
  rw[cY]at hk;split at hk
  .rename_i h1;rw[ap]at hk;split at hk
   .rename_i h2;exact .inl ⟨h2,hk⟩
   .cases hk
  .rename_i h1;rw[hti]at h1 hk;rw[cY]at hk;split at hk
   .rename_i h2;exact .inr (.inl ⟨by omega,by omega,hk⟩)
   .rename_i h2;rw[ar]at hk;refine .inr (.inr ⟨by omega,by omega,?_⟩);rw[←hk];congr 1;omega
 have build:∀(w':World)(b' o' cap':Nat)(cells:Array Value),w'.heap[b']?=some (.cells cells 122 (0,0))->rows.length+vrows.length<=cap'->cap'<=maxLen->o'+cap'*2<=cells.size ->
   (∀k,k<i*2->cells[o'+k]?=cur[o+k]?)->(∀k,k<vrows.length*2->cells[o'+i*2+k]?=xs[k]?)->(∀k,k<(rows.length-i)*2->cells[o'+(i+vrows.length)*2+k]?=cur[o+i*2+k]?) ->
   (∀k,k<w.heap.size->k≠b->w'.heap[k]?=w.heap[k]?)->w.heap.size<=w'.heap.size->w'.os=w.os->Tp w w'->w'.output=w.output->(b'=b\/w.heap.size<=b') ->
   Inv ⟨w,S,Ei [.slice (some ⟨b,o,none⟩) rows.length cap] [.sl 122 2 rows],[.slice (some ⟨b,o,none⟩) rows.length cap],[]⟩ S w' [.slice (some ⟨b,o,none⟩) rows.length cap,.slice (some ⟨b',o',none⟩) (rows.length+vrows.length) cap'] [.non,.sl 122 2 (rows.take i++(vrows++rows.drop i))]:=by
  intro w' b' o' cap' cells hb' hc1 hc2 hc3 k1 k2 k3 hold hgrow hos htape hout hfresh;have hI:=hS.inv;have hSsame:∀k,S k->w'.heap[k]?=w.heap[k]?:=λk hk=>hold k (hS.sup k hk) (λe=>hnb (e ▸ hk));have hsl:P4 S w' 122 2 (rows.take i++(vrows++rows.drop i)) (.slice (some ⟨b',o',none⟩) (rows.length+vrows.length) cap'):=by
   refine .inr ⟨b',o',cap',cells,by rw[hnewlen],Blk.of hb',by rw[hnewlen];exact hc1,hc2,hc3,hrow',λk row hk j d hj=>?_⟩;have hjl:j<2:=by have:=(ac.1 hj).1;rw[hrow' row (ag hk)]at this;exact this
   rcases hwhere k row hk with⟨g1,g2⟩|⟨g1,g2,g3⟩|⟨g1,g2,g3⟩
   .obtain⟨x,hx,hxd⟩:=hcell k row g2 j d hj;refine⟨x,?_,hxd.mono (λ_ h=>h) hSsame⟩;have:=k1 (k*2+j) (by omega);rw[←bg,←bg]at this;rw[this];exact hx
   .obtain⟨x,hx,hxd⟩:=hxr (k-i) row g3 j d hj;refine⟨x,?_,hxd.mono (λ_ h=>h) hSsame⟩;have:=k2 ((k-i)*2+j) (by omega);rw[show o'+i*2+((k-i)*2+j)=o'+k*2+j from by omega]at this;rw[this];exact hx
   .obtain⟨x,hx,hxd⟩:=hcell (k-vrows.length) row g3 j d hj;refine⟨x,?_,hxd.mono (λ_ h=>h) hSsame⟩;have:=k3 ((k-vrows.length-i)*2+j) (by omega);rw[show o'+(i+vrows.length)*2+((k-vrows.length-i)*2+j)=o'+k*2+j from by omega,show o+i*2+((k-vrows.length-i)*2+j)=o+(k-vrows.length)*2+j from by omega]at this;rw[this];exact hx
  refine⟨rfl,λq r x hr hx=>?_,λp q r r' x x' bb hpq hr hr' hx hx' hf hf'=>?_,λq r x bb hr hx hf=>?_,λ_ h=>h,λk hk=>⟨aE (hS.sup k hk) hgrow,.inl hk⟩,λk hk hF=>?_,hgrow,hos,htape,hout,?_,hI.gl⟩
  .match q,hr,hx with
   |0,hr,hx=>cases hr;exact .inr trivial
   |1,hr,hx=>cases hr;cases hx;exact .inr hsl
   |q+2,hr,hx=>simp at hr
  .match p,q,hr,hr' with
   |0,_,hr,_=>cases hr;exact hf
   |_+1,0,_,hr'=>cases hr';exact hf'
   |1,1,_,_=>exact hpq rfl
   |p+2,_,hr,_=>simp at hr
   |1,q+2,_,hr'=>simp at hr'
  .match q,hr,hx with
   |0,hr,hx=>cases hr;exact hf.elim
   |1,hr,hx=>
    cases hr;cases hx;have e:b'=bb:=hf;subst e;have hlt:b'<w'.heap.size:=(aL.1 hb').1;rcases hfresh with rfl|hfr
    .exact⟨hnb,hlt,.inl ⟨0,_,_,rfl,rfl,rfl⟩⟩
    .exact⟨λhs=>by have:=hS.sup _ hs;omega,hlt,.inr hfr⟩
   |q+2,hr,hx=>simp at hr
  .exact hold k hk (λe=>hF ⟨0,_,_,rfl,rfl,by subst e;rfl⟩)
  .intro q x hq
   match q,hq with
   |0,hq=>exact hq
   |q+1,hq=>simp at hq
 have hm16:rows.length+vrows.length<=140737488355328:=by omega
 by_cases hroom:rows.length+vrows.length<=cap
 .have hmx:cap<=9223372036854775807:=by unfold maxLen at hmax;exact hmax
  have hR:=Aoa b o rows.length cap i vb voff vrows.length vc c.size cur t xs w hi hv hroom hmx hne hb hfit hxl hxc hsb hcz h1c hx1 _ _ rfl rfl;refine hR.mono λe w' ⟨he,hw⟩=>?_;subst he;refine⟨_,S,[.slice (some ⟨b,o,none⟩) rows.length cap,.slice (some ⟨b,o,none⟩) (rows.length+vrows.length) cap],rfl,.d (.os rfl rfl),?_⟩;have hnews:((cur.toList.drop (o+i*2)).take ((rows.length-i)*2)).length=(rows.length-i)*2:=by simp;omega
  have g1:=Ip (vs:=cur) (news:=(cur.toList.drop (o+i*2)).take ((rows.length-i)*2)) (o:=o+(i+vrows.length)*2) (by rw[hnews];omega);have s1:=G_ (vs:=cur) (news:=(cur.toList.drop (o+i*2)).take ((rows.length-i)*2)) (o:=o+(i+vrows.length)*2) (by rw[hnews];omega);rw[hnews]at g1 s1;generalize hR1:(cur.toList.take (o+(i+vrows.length)*2)++(cur.toList.drop (o+i*2)).take ((rows.length-i)*2)++cur.toList.drop (o+(i+vrows.length)*2+(rows.length-i)*2)).toArray=R1 at g1 s1 hw;have g2:=Ip (vs:=R1) (news:=xs) (o:=o+i*2) (by rw[hxl,s1];omega);have s2:=G_ (vs:=R1) (news:=xs) (o:=o+i*2) (by rw[hxl,s1];omega);generalize hR2:(R1.toList.take (o+i*2)++xs++R1.toList.drop (o+i*2+xs.length)).toArray=R2 at g2 s2 hw;subst hw;have hh1:(w.drew.setRow b R1).heap[b]?=some (.cells R1 122 (0,0)):=Df _ _ _ _ _ _ hb;refine build _ b o cap R2 (Df _ _ _ _ _ _ hh1) hroom hmax (by rw[s2,s1];exact hfit) (λk hk=>?_) (λk hk=>?_) (λk hk=>?_) (λk hk hkb=>?_) (by simp) rfl ⟨rfl,λ_=>by repeat (first|exact ai _|refine Nat.le_succ_of_le ?_)⟩ rfl (.inl rfl)
  .rw[g2,ei (by omega),g1,ei (by omega)]
  .rw[g2,em (by omega),ei (by omega)];congr 1;omega
  .rw[g2,em (by omega),em (by omega),g1,em (by omega),ei (by omega),ap,ei (by omega),ar];simp only[cH];congr 1;omega
  .rw[Bg _ _ _ _ hkb,Bg _ _ _ _ hkb];rfl
 .have hR:=Atf b o rows.length cap i vb voff vrows.length vc cur xs w hi hv hcap (by omega) hbig hb hfit hxl hxc h1c hx1 _ _ _ rfl rfl rfl;refine hR.mono λe w' ⟨he,hw,hw1,hw2,hw3⟩=>?_;subst he;refine⟨_,S,[.slice (some ⟨b,o,none⟩) rows.length cap,.slice (some ⟨w.heap.size,0,none⟩) (rows.length+vrows.length) (grownCap w (rows.length+vrows.length) cap 122)],rfl,.d (.os rfl rfl),?_⟩;have hGn:rows.length+vrows.length<=grownCap w (rows.length+vrows.length) cap 122:=grownCap_ge w _ _ _;have hGm:grownCap w (rows.length+vrows.length) cap 122<=maxLen:=grownCap_le_maxLen w _ cap 122 (by unfold maxLen;omega);generalize hG:grownCap w (rows.length+vrows.length) cap 122=G at hGn hGm hw ⊢;have hzc:Ia.cells = #[.int .i64 0,.int .i64 0]:=rfl;have hhead:((cur.toList.drop o).take (i*2)).length=i*2:=by simp;omega
  have s0:(((cur.toList.drop o).take (i*2)).toArray++Builtin.zeroCells Ia.cells (rows.length+vrows.length-i)++Builtin.zeroCells Ia.cells (G-(rows.length+vrows.length))).size=G*2:=by simp[Builtin.zeroCells,hzc];omega
  have g0:∀k,k<i*2->(((cur.toList.drop o).take (i*2)).toArray++Builtin.zeroCells Ia.cells (rows.length+vrows.length-i)++Builtin.zeroCells Ia.cells (G-(rows.length+vrows.length)))[k]?=cur[o+k]?:=λk hk=>by rw[Array.getElem?_append_left (by simp;omega),Array.getElem?_append_left (by simp;omega)];simp only[cJ,ap,ar,ei hk,cH]
  generalize hROW:((cur.toList.drop o).take (i*2)).toArray++Builtin.zeroCells Ia.cells (rows.length+vrows.length-i)++Builtin.zeroCells Ia.cells (G-(rows.length+vrows.length))=ROW at s0 g0 hw;have g1:=Ip (vs:=ROW) (news:=xs) (o:=i*2) (by rw[hxl,s0];omega);have s1:=G_ (vs:=ROW) (news:=xs) (o:=i*2) (by rw[hxl,s0];omega);generalize hRA:(ROW.toList.take (i*2)++xs++ROW.toList.drop (i*2+xs.length)).toArray=RA at g1 s1 hw;have hnews:((cur.toList.drop (o+i*2)).take ((rows.length-i)*2)).length=(rows.length-i)*2:=by simp;omega
  have g2:=Ip (vs:=RA) (news:=(cur.toList.drop (o+i*2)).take ((rows.length-i)*2)) (o:=(i+vrows.length)*2) (by rw[hnews,s1,s0];omega);have s2:=G_ (vs:=RA) (news:=(cur.toList.drop (o+i*2)).take ((rows.length-i)*2)) (o:=(i+vrows.length)*2) (by rw[hnews,s1,s0];omega);rw[hnews]at g2 s2;generalize hRB:(RA.toList.take ((i+vrows.length)*2)++(cur.toList.drop (o+i*2)).take ((rows.length-i)*2)++RA.toList.drop ((i+vrows.length)*2+(rows.length-i)*2)).toArray=RB at g2 s2 hw;have hh0:(w.alloc (.cells ROW 122)).heap[w.heap.size]?=some (.cells ROW 122 (0,0)):=Fb w _;have hh1:((w.alloc (.cells ROW 122)).setRow w.heap.size RA).heap[w.heap.size]?=some (.cells RA 122 (0,0)):=Df _ _ _ _ _ _ hh0;refine build w' w.heap.size 0 G RB (by rw[hw];exact Df _ _ _ _ _ _ hh1) hGn hGm (by rw[s2,s1,s0];omega) (λk hk=>?_) (λk hk=>?_) (λk hk=>?_) (λk hk hkb=>?_) (by rw[hw];simp) hw1 hw2 hw3 (.inr (ai _))
  .rw[aJ,g2,ei (by omega),g1,ei (by omega)];exact g0 k hk
  .rw[aJ,g2,ei (by omega),g1,em (by omega),ei (by omega)];congr 1;omega
  .rw[aJ,g2,em (by omega),ei (by omega),ap,ei (by omega),ar];simp only[cH];congr 1;omega
  .rw[hw,Bg _ _ _ _ (by omega),Bg _ _ _ _ (by omega)];exact B8 w _ k hk
theorem A1v{α:Type}{enc:α->List Pd}(hs:∀x,(enc x).length=2){l v r:List α}{i:Int}(h1:((v.length:Int)==0)=false)(h2:(i==(l.length:Int))=false){B:Nat}
  (h:((bndI l.length i (l.length:Int)).bind λ_=>bif ((v.length:Int)==0)then some l else bif (i==(l.length:Int))then (appI B l v).bind λy=>some y else insI 17 l i v)=some r) :
  CallOk Tryz.prog 359 [.d (.os 0),.d (I i),.d (DS enc v)] [.sl 122 2 (l.map enc)] (.d (.os 1)) [.non,.sl 122 2 (r.map enc)]:=by
 obtain⟨_,hb,h⟩:=Dt h;obtain⟨g1,g2,_,_⟩:=(Co (P:=Tryz.prog) rfl rfl hb:Cl.ok Tryz.prog (.bnd l.length i (l.length:Int) (l.length:Int)));rw[h1,h2]at h;simp only[eg]at h;unfold insI at h;cases hd:decide ((l.length+v.length)*17<=140737488355328) with
 |false=>rw[hd]at h;cases h
 |true=>rw[hd]at h;simp only[eh,ae]at h;simp only[dM]at hd;simp only[dR,ne_eq]at h1 h2;subst h;have:=A1w (l.map enc) (v.map enc) i.toNat (by rw[aq];omega) (by rw[aq];omega) (λrow hm=>by obtain⟨x,_,rfl⟩:=aA.1 hm;exact hs x) (by rw[aq,aq];omega);rw[show ((i.toNat:Nat):Int)=i from by omega]at this;simpa using this
end Go.Proofs.YtedojeimigneaaaGreatDoor
