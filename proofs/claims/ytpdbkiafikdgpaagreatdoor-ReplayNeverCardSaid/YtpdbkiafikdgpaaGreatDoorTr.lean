import Derived.Test.YtpdbkiafikdgpaaGreatDoorSlA
namespace Go.SL
open Go Go.RowKit
def T5 (w:World) (ao:Option Addr) (size:Nat) (rows:List (List Int)):Prop:=
 ∀ (i:Nat) row,rows[i]? = some row->∃ ab o,ao=some ⟨ab,o,none⟩/\ab<w.heap.size/\∀ (j:Nat) x,row[j]? = some x->w.cell? ⟨ab,o+i*size+j,none⟩=some (.int .i64 x)
def Ang (w:World) (ao:Option Addr) (l:List Bool):Prop:=
 ∀ (i:Nat) x,l[i]? = some x->∃ ab o,ao=some ⟨ab,o,none⟩/\ab<w.heap.size/\w.cell? ⟨ab,o+i,none⟩=some (.bool x)
theorem Aai {w:World} {ad:Addr} {v:Value} (h:w.cell? ad=some v) (_:v.oneCell'=true):∃ b o,ad=⟨b,o,none⟩:=by
 obtain⟨b,o,sp⟩:=ad
 cases sp with
 | none=>exact⟨b,o,rfl⟩
 | some q=>
  exfalso
  unfold World.cell? at h
  split at h
  ·simp at h
  ·cases h
theorem Vi {S:Nat->Prop} {w:World} {v:Value} {rows:List (List Int)} {size:Nat} (hS:∀ b,S b->b<w.heap.size) (h:RdP S w v (.s (rows.map λ r=>r.map λ x=>Pd.v (.int .i64 x)))) (hsz:∀ r,r∈rows->r.length=size) :
  ∃ ao cap,v = .slice ao rows.length cap/\rows.length<=cap/\cap<=maxLen/\(0<size->T5 w ao size rows):=by
 generalize hR:(rows.map λ r=>r.map λ x=>Pd.v (.int .i64 x))=R at h
 cases h with
 | s a ad cap z _ xs hc hm hz hsz2 hx hr=>
  have hl:R.length=rows.length:=by rw [←hR];simp
  rw [hl] at hc ⊢
  refine⟨a,cap,rfl,hc,hm,λ hpos i row hi=>?_⟩
  have hRi:R[i]? = some (row.map λ x=>Pd.v (.int .i64 x)):=by rw [←hR,ax,hi];rfl
  have hrl:=hsz row (af hi)
  have hz2:z=size:=by
   have:=hsz2 _ (af hRi)
   simp at this
   omega
  subst hz2
  have hd:∀ (row:List Int) (j:Nat) x,row[j]? = some x->(row.map λ x=>Pd.v (Value.int .i64 x))[j]? = some (.v (.int .i64 x)):=λ row j x hj=>by rw [ax,hj];rfl
  obtain⟨row0,hr0⟩:∃ r,rows[0]? = some r:=⟨_,ag (by have:=(aa.1 hi).1;omega)⟩
  have hR0:R[0]? = some (row0.map λ x=>Pd.v (.int .i64 x)):=by rw [←hR,ax,hr0];rfl
  have hr0l:=hsz row0 (af hr0)
  obtain⟨x0,h0⟩:∃ x,row0[0]? = some x:=⟨_,ag (by omega)⟩
  obtain⟨ha,hS0,hcell⟩:=hx 0 _ hR0 0 _ (hd _ 0 x0 h0)
  rw [Nat.zero_mul,aG,I2] at hcell
  obtain⟨b,o,rfl⟩:=Aai hcell (hr 0 _ hR0 0 _ (hd _ 0 x0 h0)).one
  refine⟨b,o,ha,hS _ hS0,λ j x hj=>?_⟩
  obtain⟨_,_,hcj⟩:=hx i _ hRi j _ (hd _ j x hj)
  have hv:=(hr i _ hRi j _ (hd _ j x hj)).v_form
  rw [Ca,hv] at hcj
  rw [bp]
  exact hcj
theorem Ayr {S:Nat->Prop} {w:World} {v:Value} {l:List Bool} (hS:∀ b,S b->b<w.heap.size) (h:RdP S w v (.s (l.map λ x=>[Pd.v (.bool x)]))) :
  ∃ ao cap,v = .slice ao l.length cap/\l.length<=cap/\cap<=maxLen/\Ang w ao l:=by
 generalize hR:(l.map λ x=>[Pd.v (.bool x)])=R at h
 cases h with
 | s a ad cap z _ xs hc hm hz hsz2 hx hr=>
  have hl:R.length=l.length:=by rw [←hR];simp
  rw [hl] at hc ⊢
  refine⟨a,cap,rfl,hc,hm,λ i x hi=>?_⟩
  have at1:∀ (i:Nat) x,l[i]? = some x->R[i]? = some [Pd.v (.bool x)]:=λ i x hi=>by rw [←hR,ax,hi];rfl
  have hz2:z=1:=by
   have:=hsz2 _ (af (at1 i x hi))
   simp at this
   omega
  subst hz2
  obtain⟨x0,h0⟩:∃ x,l[0]? = some x:=⟨_,ag (by have:=(aa.1 hi).1;omega)⟩
  obtain⟨ha,hS0,hcell⟩:=hx 0 _ (at1 0 x0 h0) 0 _ rfl
  rw [Nat.zero_mul,aG,I2] at hcell
  obtain⟨b,o,rfl⟩:=Aai hcell (hr 0 _ (at1 0 x0 h0) 0 _ rfl).one
  refine⟨b,o,ha,hS _ hS0,?_⟩
  obtain⟨_,_,hcj⟩:=hx i _ (at1 i x hi) 0 _ rfl
  have hv:=(hr i _ (at1 i x hi) 0 _ rfl).v_form
  rw [Ca,hv] at hcj
  rw [Nat.mul_one,cq] at hcj
  exact hcj
end Go.SL
