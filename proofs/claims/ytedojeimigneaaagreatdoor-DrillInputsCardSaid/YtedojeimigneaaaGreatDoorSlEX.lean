import Derived.Test.YtedojeimigneaaaGreatDoorSlEQ
import Derived.Test.YtedojeimigneaaaGreatDoorSlRX
set_option linter.unusedVariables false
namespace Go.SL
variable{α:Type}{res v:AV}{cur:A_}{a:Act}{ops:Array Oper}{b draw fl fz:Bool}{c:Cl}{C:Ctx}{Q:Exit->Act->World->Prop}{f g:FuncId}{l rows:List (List Pd)}{args va:List AV}{caps ips:List D}{L L':List Ent}{R R' R2:List Res}{d i k lm m size:Nat}{o:Oper}{ro:Option Nat}{out:Out}{w:World}
def eqV:Value->Value->Bool
 |.int k a,.int k' b=>decide (k=k')&&decide (a=b)
 |.bool a,.bool b=>a==b
 |.slice none a b,.slice none c d=>Nat.beq a c&&Nat.beq b d
 |.string s,.string t=>decide (s.data.toList=t.data.toList)
 |_,_=>false
mutual
def X_:Pd->Pd->Bool
 |.v a,.v b=>eqV a b
 |.s a,.s b=>D9 a b
 |_,_=>false
def Nx:List Pd->List Pd->Bool
 | [],[]=>true
 |a::r,b::q=>X_ a b&&Nx r q
 |_,_=>false
def D9:List (List Pd)->List (List Pd)->Bool
 | [],[]=>true
 |a::r,b::q=>Nx a b&&D9 r q
 |_,_=>false
end
mutual
def eqD:D->D->Bool
 |.p a,.p b=>X_ a b
 |.o a b,.o c d=>Nat.beq a c&&Nat.beq b d
 |.os a,.os b=>Nat.beq a b
 |.oe a b c d,.oe a' b' c' d'=>Nat.beq a a'&&Nat.beq b b'&&(Nat.beq c c'&&Nat.beq d d')
 |.osb a b c d,.osb a' b' c' d'=>Nat.beq a a'&&Nat.beq b b'&&(Nat.beq c c'&&Nat.beq d d')
 |.ip a,.ip b=>Nx a b
 |.fn (.func f) a b,.fn (.func g) c d=>Nat.beq f g&&(Qc a c&&Qc b d)
 |.fb (.func f) a,.fb (.func g) b=>Nat.beq f g&&Nx a b
 |_,_=>false
def Qc:List D->List D->Bool
 | [],[]=>true
 |a::r,b::q=>eqD a b&&Qc r q
 |_,_=>false
end
mutual
def eqW:AV->AV->Bool
 |.d a,.d b=>eqD a b
 |.agg a,.agg b=>Qc a b
 |.tup a,.tup b=>Vg a b
 |_,_=>false
def Vg:List AV->List AV->Bool
 | [],[]=>true
 |a::r,b::q=>eqW a b&&Vg r q
 |_,_=>false
end
theorem A5q:∀{a b:Value},eqV a b=true->a=b:=by
 intro a b h;unfold eqV at h;split at h
 .simp only[aa,dM]at h;rw[h.1,h.2]
 .simp at h;rw[h]
 .simp only[aa]at h;rw[af h.1,af h.2]
 .rename_i s t;have h:=dW h;obtain⟨⟨l⟩⟩:=s;obtain⟨⟨m⟩⟩:=t;simp only at h;rw[h]
 .cases h
mutual
theorem Ahk:∀{a b:Pd},X_ a b=true->a=b
 |.v a,.v b,h=>by rw[A5q (a:=a) (b:=b) (by simpa[X_]using h)]
 |.s a,.s b,h=>by rw[Dp (a:=a) (b:=b) (by simpa[X_]using h)]
 |.v _,.s _,h=>by simp[X_]at h
 |.s _,.v _,h=>by simp[X_]at h
theorem O7:∀{a b:List Pd},Nx a b=true->a=b
 | [],[],_=>rfl
 |a::r,b::q,h=>by simp only[Nx,aa]at h;rw[Ahk h.1,O7 h.2]
 | [],_::_,h=>by simp[Nx]at h
 |_::_,[],h=>by simp[Nx]at h
theorem Dp:∀{a b:List (List Pd)},D9 a b=true->a=b
 | [],[],_=>rfl
 |a::r,b::q,h=>by simp only[D9,aa]at h;rw[O7 h.1,Dp h.2]
 | [],_::_,h=>by simp[D9]at h
 |_::_,[],h=>by simp[D9]at h
end
mutual
theorem Ao3:∀{a b:D},eqD a b=true->a=b
 | a,b,h=>by
  unfold eqD at h;split at h
  .rw[Ahk h]
  .simp only[aa]at h;rw[af h.1,af h.2]
  .rw[af h]
  .simp only[aa]at h;rw[af h.1.1,af h.1.2,af h.2.1,af h.2.2]
  .simp only[aa]at h;rw[af h.1.1,af h.1.2,af h.2.1,af h.2.2]
  .rw[O7 h]
  .simp only[aa]at h;rw[af h.1,Ob h.2.1,Ob h.2.2]
  .simp only[aa]at h;rw[af h.1,O7 h.2]
  .cases h
theorem Ob:∀{a b:List D},Qc a b=true->a=b
 | [],[],_=>rfl
 |a::r,b::q,h=>by simp only[Qc,aa]at h;rw[Ao3 h.1,Ob h.2]
 | [],_::_,h=>by simp[Qc]at h
 |_::_,[],h=>by simp[Qc]at h
end
mutual
theorem Zq:∀{a b:AV},eqW a b=true->a=b
 |.d a,.d b,h=>by rw[Ao3 (a:=a) (b:=b) (by simpa[eqW]using h)]
 |.agg a,.agg b,h=>by rw[Ob (a:=a) (b:=b) (by simpa[eqW]using h)]
 |.tup a,.tup b,h=>by rw[uR (a:=a) (b:=b) (by simpa[eqW]using h)]
 |.d _,.agg _,h=>by simp[eqW]at h
 |.d _,.tup _,h=>by simp[eqW]at h
 |.agg _,.d _,h=>by simp[eqW]at h
 |.agg _,.tup _,h=>by simp[eqW]at h
 |.tup _,.d _,h=>by simp[eqW]at h
 |.tup _,.agg _,h=>by simp[eqW]at h
theorem uR:∀{a b:List AV},Vg a b=true->a=b
 | [],[],_=>rfl
 |a::r,b::q,h=>by simp only[Vg,aa]at h;rw[Zq h.1,uR h.2]
 | [],_::_,h=>by simp[Vg]at h
 |_::_,[],h=>by simp[Vg]at h
end
def eqR:Res->Res->Bool
 |.box t a,.box u b=>Nat.beq t u&&Qc a b
 |.sl e s a,.sl f z b=>Nat.beq e f&&(Nat.beq s z&&D9 a b)
 |.zsl e s a,.zsl f z b=>Nat.beq e f&&(Nat.beq s z&&D9 a b)
 |.non,.non=>true
 |.vec e s a,.vec f z b=>Nat.beq e f&&(Nat.beq s z&&Qc a b)
 |_,_=>false
theorem Adx{a b:Res}(h:eqR a b=true):a=b:=by
 unfold eqR at h;split at h
 .simp only[aa]at h;rw[af h.1,Ob h.2]
 .simp only[aa]at h;rw[af h.1,af h.2.1,Dp h.2.2]
 .simp only[aa]at h;rw[af h.1,af h.2.1,Dp h.2.2]
 .rfl
 .simp only[aa]at h;rw[af h.1,af h.2.1,Ob h.2.2]
 .cases h
def Nj:List Res->List Res->Bool
 | [],[]=>true
 |a::r,b::q=>eqR a b&&Nj r q
 |_,_=>false
theorem Oa:∀{a b:List Res},Nj a b=true->a=b
 | [],[],_=>rfl
 |a::r,b::q,h=>by simp only[Nj,aa]at h;rw[Adx h.1,Oa h.2]
 | [],_::_,h=>by simp[Nj]at h
 |_::_,[],h=>by simp[Nj]at h
structure En where
 f:FuncId
 args:List AV
 R:List Res
 res:AV
 R2:List Res
def En.ok(P:Program)(e:En):Prop:=Dl P e.f/\CallOk P e.f e.args e.R e.res e.R2
inductive Tr where
 |nil
 |node (es:List En) (l r:Tr)
def Tr.get:Nat->Nat->Tr->List En
 |_,_,.nil=>[]
 |0,_,.node es _ _=>es
 |k+1,f,.node _ l r=>bif Nat.beq (f % 2) 0 then Tr.get k (f / 2) l else Tr.get k (f / 2) r
def Tr.ins(e:En):Nat->Nat->Tr->Tr
 |0,_,.nil=>.node [e] .nil .nil
 |0,_,.node es l r=>.node (e::es) l r
 |k+1,f,.nil=>bif Nat.beq (f % 2) 0 then .node [] (Tr.ins e k (f / 2) .nil) .nil else .node [] .nil (Tr.ins e k (f / 2) .nil)
 |k+1,f,.node es l r=>bif Nat.beq (f % 2) 0 then .node es (Tr.ins e k (f / 2) l) r else .node es l (Tr.ins e k (f / 2) r)
def Tr.ok(P:Program):Tr->Prop
 |.nil=>True
 |.node es l r=>(∀e,e∈es->e.ok P)/\l.ok P/\r.ok P
theorem dy{P:Program}{e:En}:∀{k f:Nat}{t:Tr},t.ok P->e∈Tr.get k f t->e.ok P
 |0,_,.nil,_,h=>by simp[Tr.get]at h
 |k+1,_,.nil,_,h=>by simp[Tr.get]at h
 |0,_,.node es l r,ht,h=>ht.1 e h
 |k+1,f,.node es l r,ht,h=>by
  simp only[Tr.get]at h;cases hb:Nat.beq (f % 2) 0 with
  |true=>rw[hb]at h;exact dy ht.2.1 h
  |false=>rw[hb]at h;exact dy ht.2.2 h
theorem dq{P:Program}{e:En}(he:e.ok P):∀{k f:Nat}{t:Tr},t.ok P->(Tr.ins e k f t).ok P
 |0,_,.nil,_=>⟨λx hx=>by rw[aM]at hx;rw[hx];exact he,trivial,trivial⟩
 | 0,_,.node es l r,ht=>⟨λx hx=>by
   rcases ah.1 hx with h|h
   .rw[h];exact he
   .exact ht.1 x h,ht.2⟩
 |k+1,f,.nil,_=>by
  simp only[Tr.ins];have:=dq he (k:=k) (f:=f / 2) (t:=.nil) trivial;cases Nat.beq (f % 2) 0 with
  |true=>exact⟨(λx hx=>by cases hx),this,trivial⟩
  |false=>exact⟨(λx hx=>by cases hx),trivial,this⟩
 |k+1,f,.node es l r,ht=>by
  simp only[Tr.ins];cases Nat.beq (f % 2) 0 with
  |true=>exact⟨ht.1,dq he ht.2.1,ht.2.2⟩
  |false=>exact⟨ht.1,ht.2.1,dq he ht.2.2⟩
def Wp(f:FuncId)(args:List AV)(R:List Res):List En->Option En
 | []=>none
 |e::l=>bif Nat.beq e.f f&&(Vg e.args args&&Nj e.R R)then some e else Wp f args R l
theorem X5{P:Program}{f:FuncId}{args:List AV}{R:List Res}{e:En}:∀{l:List En},Wp f args R l=some e->e∈l/\e=⟨f,args,R,e.res,e.R2⟩
 | [],h=>by simp[Wp]at h
 | x::l,h=>by
  simp only[Wp]at h;cases hb:Nat.beq x.f f&&(Vg x.args args&&Nj x.R R) with
  |true=>rw[hb]at h;simp only[eh,ae]at h;subst h;simp only[aa]at hb;refine⟨an,?_⟩;obtain⟨a,b,c,d,e⟩:=x;simp only at hb ⊢;rw[af hb.1,uR hb.2.1,Oa hb.2.2]
  |false=>rw[hb]at h;obtain⟨h1,h2⟩:=X5 (P:=P) h;exact⟨am _ h1,h2⟩
def Vr(size:Nat)(l:List (List Pd)):Bool:=l.all λx=>Nat.beq x.length size
def eqO:Option (List Pd)->List Pd->Bool
 |some a,b=>Nx a b
 |none,_=>false
def eqC(cs:List (Bool×Bool)):Bool:=cs.all λx=>x.1==x.2
def Y8(T:Tr)(k:Nat)(f:FuncId)(args:List AV)(R:List Res)(res:AV)(R2:List Res):Bool:=match Wp f args R (T.get 11 k) with
 |some e=>eqW e.res res&&Nj e.R2 R2
 |none=>false
def Aav(T:Tr)(f:FuncId)(args:List AV)(R:List Res)(res:AV)(R2:List Res):Bool:=Y8 T f f args R res R2 || Y8 T (f+1024) f args R res R2
def An5:Cl->Bool
 |.call _ _ R _ R2 pi=>Nj (R2.take pi.length) R
 |_=>false
theorem An4(h:An5 c=true):c.keeps:=by
 cases c with
 |call=>exact Oa h
 |_=>cases h
def chk(T:Tr):Cl->Bool
 |.call f args R res R2 _=>Aav T f args R res R2
 |.callB f args res rows k rw=>Aav T f args [] res []&&eqO rows[k]? rw
 |.bnd k lo hi hi2=>decide (0<=lo)&&decide (lo<=hi)&&(decide (hi<=k)&&decide (hi=hi2))
 |.eqr rows rows'=>D9 rows rows'
 |.cpy src size n m rows rows'=>Nat.beq (Nat.min src.length n) m&&(Vr size src&&D9 rows rows')
 |.row rows n l=>decide (0<=n)&&eqO rows[n.toNat]? l
 |.idx rows n l=>decide (0<=n)&&eqO rows[n.toNat]? l
 |.upd rows k l l' rows'=>eqO rows[k]? l&&D9 (rows.set k l') rows'
 |.nz n=>decide (n≠0)
 |.len k n=>decide (k=n)
 |.cut rows size lo hi rows'=>decide (0<=lo)&&decide (lo<=hi)&&(decide (hi<=rows.length)&&Vr size rows&&D9 ((rows.take hi.toNat).drop lo.toNat) rows')
 |.room n rows rows'=>decide (0<=n)&&decide (n<=140737488355328)&&D9 rows rows'
 |.roomZ n rows rows'=>decide (0<=n)&&decide (n<=140737488355328)&&D9 rows rows'
 |.app rows1 rows2 size n rows'=>Nat.ble n 140737488355328&&(Vr size rows2&&D9 (rows1++rows2) rows')
 |.own=>true
 |.nop=>true
 |.when cs c=>!(eqC cs) || chk T c
 |.whenR cs c=>bif eqC cs then chk T c else An5 c
 |.appD rows k l0 off rows1 rows2 size n rows'=>(eqO rows[k]? l0&&(match l0[off]? with|some (.s x)=>D9 x rows1|_=>false))&&(Nat.ble n 140737488355328&&(Vr size rows2&&D9 (rows1++rows2) rows'))
 |.updD rows k0 k l l' rows'=>Nat.beq k0 k&&(eqO rows[k]? l&&D9 (rows.set k l') rows')
 |.strb rows b=>D9 rows (b.data.toList.map λx=>[Pd.v (.int .u8 (x.toNat:Int))])
 |.byte b n x=>decide (0<=n)&&decide (b.data[n.toNat]?=some x)
 |.flts _=>true
 |.flt _ r r'=>eqR r r'
 |.fltm _ c r r'=>chk T c&&eqR r r'
 |_=>false
def O_(T:Tr):List Cl->Bool
 | []=>true
 |c::l=>chk T c&&O_ T l
theorem Yg:∀{cs:List (Bool×Bool)},eqC cs=true->Dd cs
 | [],_=>trivial
 |(a,b)::r,h=>by simp only[eqC,List.all_cons,aa,dQ]at h;exact⟨h.1,Yg h.2⟩
theorem Tf:∀{cs:List (Bool×Bool)},Dd cs->eqC cs=true
 | [],_=>rfl
 |(a,b)::r,h=>by simp only[eqC,List.all_cons,aa,dQ];exact⟨h.1,Tf h.2⟩
theorem P1(h:Vr size l=true):∀x,x∈l->x.length=size:=λx hx=>af ((aD.1 h) x hx)
theorem Q7{o:Option (List Pd)}{l:List Pd}(h:eqO o l=true):o=some l:=by
 cases o with
 |none=>simp[eqO]at h
 |some a=>rw[O7 (a:=a) (b:=l) (by simpa[eqO]using h)]
variable{P:Program}{T:Tr}
theorem yT(ht:T.ok P)(h:Y8 T k f args R res R2=true):Dl P f/\CallOk P f args R res R2:=by
 unfold Y8 at h;split at h
 .rename_i e he;obtain⟨h1,h2⟩:=X5 (P:=P) he;have h3:=dy ht h1;simp only[aa]at h;rw[h2,Zq h.1,Oa h.2]at h3;exact h3
 .cases h
theorem Sg(ht:T.ok P)(h:Aav T f args R res R2=true):Dl P f/\CallOk P f args R res R2:=by
 unfold Aav at h;rcases Bool.or_eq_true_iff.1 h with h|h
 .exact yT ht h
 .exact yT ht h
theorem Zv(ht:T.ok P):∀{c:Cl},chk T c=true->c.ok P:=by
 intro c;induction c with
 |call f args R res R2 pi=>intro h;exact Sg ht h
 |callB f args res rows k rw=>intro h;simp only[chk,aa]at h;exact⟨Sg ht h.1,Q7 h.2⟩
 |bnd k lo hi hi2=>intro h;simp only[chk,aa,dM]at h;exact⟨h.1.1,h.1.2,h.2.1,h.2.2⟩
 |eqr rows rows'=>intro h;exact Dp h
 |cpy src size n m rows rows'=>intro h;simp only[chk,aa]at h;exact⟨af h.1,P1 h.2.1,Dp h.2.2⟩
 |row rows n l=>intro h;simp only[chk,aa,dM]at h;exact⟨h.1,Q7 h.2⟩
 |idx rows n l=>intro h;simp only[chk,aa,dM]at h;exact⟨h.1,Q7 h.2⟩
 |upd rows k l l' rows'=>intro h;simp only[chk,aa]at h;exact⟨Q7 h.1,Dp h.2⟩
 |nz n=>intro h;simp only[chk,dM]at h;exact h
 |len k n=>intro h;simp only[chk,dM]at h;exact h
 |cut rows size lo hi rows'=>intro h;simp only[chk,aa,dM]at h;exact⟨h.1.1,h.1.2,h.2.1.1,P1 h.2.1.2,Dp h.2.2⟩
 |room n rows rows'=>intro h;simp only[chk,aa,dM]at h;exact⟨h.1.1,h.1.2,Dp h.2⟩
 |roomZ n rows rows'=>intro h;simp only[chk,aa,dM]at h;exact⟨h.1.1,h.1.2,Dp h.2⟩
 |app rows1 rows2 size n rows'=>intro h;simp only[chk,aa]at h;exact⟨aF h.1,P1 h.2.1,Dp h.2.2⟩
 |own=>intro _;trivial
 |nop=>intro _;trivial
 |when cs c ih=>
  intro h hc;simp only[chk,aS,aO]at h;rcases h with h|h
  .rw[Tf hc]at h;cases h
  .exact ih h
 |whenR cs c ih=>
  intro h;simp only[chk]at h;cases hq:eqC cs with
  |true=>rw[hq]at h;exact⟨λ_=>ih h,λhn=>absurd (Yg hq) hn⟩
  |false=>rw[hq]at h;exact⟨λhn=>by rw[Tf hn]at hq;(cases hq),λ_=>An4 h⟩
 | appD rows k l0 off rows1 rows2 size n rows'=>
  intro h;simp only[chk,aa]at h;obtain⟨⟨h1,h2⟩,h3,h4,h5⟩:=h;refine⟨⟨Q7 h1,?_⟩,aF h3,P1 h4,Dp h5⟩;split at h2
  .rename_i x hx;rw[hx,Dp h2]
  .cases h2
 |updD rows k0 k l l' rows'=>intro h;simp only[chk,aa]at h;exact⟨af h.1,Q7 h.2.1,Dp h.2.2⟩
 |strb rows b=>intro h;exact Dp h
 |byte b n x=>intro h;simp only[chk,aa,dM]at h;exact h
 |flts l=>intro _;trivial
 |flt i r r'=>intro h;exact Adx h
 |fltm i c r r' ih=>intro h;simp only[chk,aa]at h;exact⟨ih h.1,Adx h.2⟩
 |_=>intro h;simp[chk]at h
theorem zK{P:Program}{T:Tr}(ht:T.ok P):∀{l:List Cl},O_ T l=true->Da P l
 | [],_=>trivial
 |c::l,h=>by simp only[O_,aa]at h;exact⟨Zv ht h.1,zK ht h.2⟩
mutual
def A4b:D->ey
 |.o i _=>[i]
 |.os i=>[i]
 |.oe i _ _ _=>[i]
 |.osb i _ _ _=>[i]
 |.fn _ a b=>Ns a++Ns b
 |_=>[]
def Ns:List D->ey
 | []=>[]
 |d::r=>A4b d++Ns r
end
mutual
def Bc2:AV->ey
 |.d x=>A4b x
 |.agg ds=>Ns ds
 |.tup l=>Jv l
def Jv:List AV->ey
 | []=>[]
 |a::r=>Bc2 a++Jv r
end
def On(R:List Res):Nat->ey->ey->ey
 |0,acc,_=>acc
 |_,acc,[]=>acc
 |k+1,acc,i::r=>bif Hc acc i then On R k acc r else On R k (acc++[i]) ((match R[i]? with
  |some (.box _ cells)=>Ns cells
  |some (.vec _ _ cells)=>Ns cells
  |some (.dsl _ _ g)=>[g]
  |_=>[])++r)
def Bee:Res->Bool
 |.zsl _ _ _=>true
 |.dsl _ _ _=>true
 |.gh _ _ _ _=>true
 |_=>false
abbrev A7b:=Bool->Tr->FuncId->List AV->List Res->Option (AV×List Res×Tr)
abbrev Ih_:=FuncId->List D->Option (List (List AV))
structure Fnc where
 run:A7b
 lend:FuncId->Bool
 ih:Ih_
def Ps(call:Fnc)(fz:Bool)(T:Tr)(R:List Res)(g:FuncId)(args:List AV):Option (Cl×Tr):=
 let pi:=On R 1000 [] (Jv args)
 match AV.renL (D4 pi) (nrm g args),(I2 R pi).bind (Ht (D4 pi)) with
 |some args',some Rp=>match bif Rp.any Bee then none else call.run fz T g args' Rp with
  |some (res,R2,T')=>some (.call g args' Rp res R2 pi,T')
  |none=>none
 |_,_=>none
def A0g:Res->Bool
 |.non=>true
 |_=>false
def Abz:Cl->Bool
 |.call _ _ Rp _ R2 _=>(Rp.zip R2).any λx=>A0g x.2 && !(A0g x.1)
 |_=>false
def Q1(call:Fnc)(fz:Bool)(T:Tr)(R:List Res)(g:FuncId)(args va:List AV):Option (Cl×Tr):=
 match Ps call fz T R g args with
 | some (c,T1)=>bif Abz c then match call.run true T1 g va [] with
   |some (res,R2,T2)=>bif res.flat&&R2.isEmpty then some (.callB g va res [[]] 0 [],T2) else some (c,T1)
   |none=>some (c,T1)
  else some (c,T1)
 |none=>none
def Ze(call:Fnc)(fz fl:Bool)(T:Tr)(R:List Res)(g:FuncId)(args:List AV):Option (Cl×Tr):=
 bif !(call.lend g) || (Jv args).isEmpty || !(oisL args).isEmpty then Ps call fz T R g args else
 match AV.viewL R [] (args.map AV.norm) with
 | some va=>bif fl then match call.run fz T g va [] with
   |some (res,R2,T')=>bif res.flat&&R2.isEmpty then some (.callB g va res [[]] 0 [],T') else Q1 call fz T' R g args va
   |none=>Ps call fz T R g args
  else Q1 call fz T R g args va
 |none=>Ps call fz T R g args
def Q8(P:Program)(t:TypeId)(g:FuncId)(args:List AV):Cl:=bif (Jv args).isEmpty then .call g [] [] (zAV P t) [] [] else .callB g [] (zAV P t) [[]] 0 []
def A8t(P:Program)(R:List Res)(t:TypeId)(g:FuncId)(args:List AV):Option Cl:=
 let pi:=On R 1000 [] (Jv args)
 match AV.renL (D4 pi) (nrm g args),(I2 R pi).bind (Ht (D4 pi)) with
 |some a,some Rp=>some (.call g a Rp (zAV P t) Rp pi)
 |_,_=>none
def Atb(R:List Res)(i:Nat):Bool:=match R[i]? with
 |some (.sl _ _ _)=>true
 |some (.zsl _ _ _)=>true
 |some (.dsl _ _ _)=>true
 |some (.vec _ _ _)=>true
 |_=>false
def Is(R:List Res)(L:List Ent)(cur:A_)(o:Oper):ey:=
 let own:=Jv (o.op.operands.toList.map (Ta L cur))
 match own.filter (Atb R) with
 | []=>(On R 1000 [] own).filter (Atb R)
 |l=>l
def Wl(l:ey):ey:=match l with
 | []=>[]
 |x::r=>[r.foldl Nat.max x]
inductive Rs(α:Type) where
 |ok (a:α) (T:Tr)
 |bad (l:ey) (T:Tr)
def Rs.tr{α:Type}:Rs α->Tr
 |.ok _ T=>T
 |.bad _ T=>T
def tb(m i:Nat):Bool:=Nat.beq (Nat.land (Nat.shiftRight m i) 1) 1
def Il:List Ent->Nat
 | []=>0
 |e::r=>Nat.lor (Nat.shiftLeft 1 e.t) (Il r)
def Ab9(m:Nat)(L:List Ent)(d:Nat)(cur:A_)(v:AV):List Ent:=bif tb m d then Km L d cur v else ⟨d,cur,v⟩::L
def Si(m:Nat):List Ent->List Ent
 | []=>[]
 |e::r=>bif e.p.isEmpty&&tb m e.t then e::Si m r else Si m r
def Aaz(call : Fnc)(P : Program)(L : List Ent)(cur : A_)(cs : List (Bool × Bool))(fz : Bool)(R : List Res)(T : Tr)(o : Oper) : Rs (Cl × Out) :=
 match vA P o with
 |.pure f=>match Jt R (f L cur R) with
  |some out=>bif (match out.c with|none=>true|some x=>chk T (D7 cur false cs x))then .ok (.nop,out) T else .bad (Is R L cur o) T
  |none=>.bad (Is R L cur o) T
 | .call f xs fl=>match callee L cur f xs with
  | some (g,args)=>bif eqC cs then match Ze call fz fl T R g args with
    |some (c,T')=>match Cx R args g c with
     |some out=>.ok (bif cur.isEmpty || X0 c then c else .whenR cs c,out) T'
     |none=>.bad (Wl (Is R L cur o)) T'
    |none=>.bad (Wl (Is R L cur o)) T
   else match Cx R args g (Q8 P o.type g args) with
    |some out=>.ok (Q8 P o.type g args,out) T
    | none=>match A8t P R o.type g args with
     |some c=>match Cx R args g c with
      |some out=>bif (match out.c with|none=>false|some x=>chk T (.whenR cs x))then .ok (.whenR cs c,out) T else .bad (Wl (Is R L cur o)) T
      |none=>.bad (Wl (Is R L cur o)) T
     |none=>.bad (Wl (Is R L cur o)) T
  |none=>.bad (Wl (Is R L cur o)) T
 |.eff k f=>match f L cur R (k L cur R fz) with
  |some out=>bif (match out.c with|none=>true|some x=>chk T (D7 cur false cs x))then .ok (k L cur R fz,out) T else .bad (Is R L cur o) T
  |none=>.bad (Is R L cur o) T
def Pt(call : Fnc)(fz : Bool)(P : Program)(n : Nat)(ops : Array Oper) : List Oper -> List Ent -> List Res -> Tr -> Nat -> Rs (List Ent × List Res)
 | [],L,R,T,_=>.ok (L,R) T
 | o :: os, L, R, T, m => match Gj ops L o with
  |none=>.bad [] T
  | some cur=>match Fh L cur with
   |none=>.bad [] T
   | some cs=>match Aaz call P L cur cs fz R T o with
    |.bad l T'=>.bad l T'
    | .ok (c,out) T'=>bif Ji L cur (isR c) (C_ c) o then match o.dst with
      |some d=>bif Nat.blt d n&&cur.all (λg=>!(Nat.beq g.1 d))then Pt call fz P n ops os (Ab9 m L d cur out.v) out.R T' (Nat.lor m (Nat.shiftLeft 1 d)) else .bad [] T'
      |none=>bif cur.isEmpty then Pt call fz P n ops os L out.R T' m else .bad [] T'
     else .bad [] T'
def uN(P:Program)(L:List Ent)(cur:A_)(o:Oper):Res:=
 match o.op with
 |.alloc t=>.box t (Am5 P t)
 |.makeSlice t l _=>.sl (Ke P t) (Oe P (Ke P t)).length (List.replicate (Sl L cur l).toNat (Oe P (Ke P t)))
 |_=>.non
def Beh(P:Program)(L:List Ent)(cur:A_)(i:Nat)(o:Oper):Cl:=
 match o.op with
 |.alloc _=>.flt i (uN P L cur o) (uN P L cur o)
 |_=>.fltm i (.room 0 [] (List.replicate (match o.op with|.makeSlice t l _=>(Sl L cur l).toNat|_=>0) (match o.op with|.makeSlice t _ _=>Oe P (Ke P t)|_=>[]))) (uN P L cur o) (uN P L cur o)
def Ac9(call : Fnc)(fz : Bool)(P : Program)(n : Nat)(ops : Array Oper)(base : Nat) : List Oper -> List Ent -> List Res -> Tr -> Nat -> List Cl -> List Res -> Rs (List Cl × List Res)
 | [],_,_,T,_,acc,fls=>.ok (acc.reverse,fls.reverse) T
 | o :: os, L, R, T, m, acc, fls => match Gj ops L o with
  |none=>.bad [] T
  | some cur=>match Fh L cur with
   |none=>.bad [] T
   | some cs=>bif Wn o then
     let j:=base+fls.length
     let R1:=R.set j (uN P L cur o)
     match Sy P L cur R1 (Beh P L cur j o) j o,o.dst with
     |some out,some d=>Ac9 call fz P n ops base os (Ab9 m L d cur out.v) R1 T (Nat.lor m (Nat.shiftLeft 1 d)) (D7 cur false cs (out.c.getD .nop)::acc) (uN P L cur o::fls)
     |_,_=>.bad [] T
    else match Aaz call P L cur cs fz R T o with
    |.bad l T'=>.bad l T'
    | .ok (c,out) T'=>Ac9 call fz P n ops base os (match o.dst with|some d=>Ab9 m L d cur out.v|none=>L) out.R T' (match o.dst with|some d=>Nat.lor m (Nat.shiftLeft 1 d)|none=>m)
      (match out.c with|some x=>D7 cur (isR c) cs x::acc|none=>acc) fls
def Adw(P:Program)(L:List Ent)(cur:A_)(R:List Res)(c:Cl)(o:Oper):Option Out:=
 match Mi o c with
 |some i=>Sy P L cur R c i o
 |none=>(vA P o).run L cur R c
theorem Ao1:Adw P L cur R c o=Ws P L cur R c o:=by unfold Adw Ws;rw[Yz];rfl
def A0a(i:Nat)(o:Oper)(need:List Ent)(cur:A_)(cs:List (Bool×Bool))(c:Cl)(R:List Res)(out:Out):Rec:=
 ⟨i,o,need,cur,cs,C_ c,R,out,(Mi o (C_ c)).isNone && !Gq (C_ c) o,isR c,Mi o (C_ c)⟩
def Y3(P : Program)(n : Nat)(ops : Array Oper) : ey -> List Ent -> List Res -> List Cl -> Option (List Rec × List Ent × List Res × List Cl)
 | [],L,R,_=>some ([],L,R,[])
 | i :: is, L, R, cls => match ops[i]? with
  |none=>none
  | some o=>
   let need:=H6 L (Ku ops o)
   match Gj ops need o with
   |none=>none
   | some cur=>
    let c:=cls.headD .nop
    match Adw P need cur R (C_ c) o,Fh need cur with
    | some out,some cs=>
     let L':=match o.dst with|some d=>Km L d cur out.v|none=>L
     bif Aa2 n o cur&&Ji need cur (isR c) (C_ c) o then
      match out.c with
      |some x=>match Y3 P n ops is L' out.R cls.tail with
       |some (rs,L2,R2,ks)=>some (A0a i o need cur cs c R out::rs,L2,R2,D7 cur (isR c) cs x::ks)
       |none=>none
      |none=>match Y3 P n ops is L' out.R cls with
       |some (rs,L2,R2,ks)=>some (A0a i o need cur cs c R out::rs,L2,R2,ks)
       |none=>none
     else none
    |_,_=>none
theorem Xx{P:Program}{n:Nat}{ops:Array Oper}:∀{is:ey}{L:List Ent}{R:List Res}{cls:List Cl},Y3 P n ops is L R cls=P7 P n ops is L R cls
 | [],L,R,cls=>rfl
 | i :: is, L, R, cls => by
  simp only[Y3,P7,Ao1];cases ops[i]? with
  |none=>rfl
  | some o=>
   simp only;cases Gj ops (H6 L (Ku ops o)) o with
   |none=>rfl
   | some cur=>
    simp only;cases Ws P (H6 L (Ku ops o)) cur R (C_ (cls.headD .nop)) o with
    |none=>rfl
    | some out=>
     cases Fh (H6 L (Ku ops o)) cur with
     |none=>rfl
     |some cs=>simp only;rw[Xx,Xx];rfl
def Ack(ops:Array Oper):Nat:=(ops.toList.filter Wn).length
def Ml(call:Fnc)(P:Program)(n:Nat)(lm:Nat)(ops:Array Oper)(draw fz:Bool)(L:List Ent)(R:List Res)(T:Tr):Rs (List Ent×List Res):=
 match draw with
 |false=>match Pt call fz P n ops ops.toList L R T (Il L) with
  |.ok (L',R') T'=>.ok (Si lm L',R') T'
  |.bad l T'=>.bad l T'
 | true=>match Ac9 call fz P n ops R.length ops.toList L (R++List.replicate (Ack ops) .non) T (Il L) [] [] with
  |.ok (cls,fls) T'=>match Y3 P n ops (List.range ops.size) L (R++fls) cls with
   |some (rs,L',R',cs)=>bif Lg ops L rs&&L4 R.length (R.length+fls.length) rs&&O_ T' cs then .ok (Si lm L',R') T' else .bad [] T'
   |none=>.bad [] T'
  |.bad l T'=>.bad l T'
def Zs:ey->ey
 | []=>[]
 |x::l=>x::(Zs l).filter λy=>!(Nat.beq x y)
def vE(P:Program):Nat->TypeId->List (TypeId×Nat)
 |0,_=>[]
 |k+1,t=>match P.underlying t with
  |some (.slice e)=>[(e,(A8 P e).getD 0)]
  |some (.struct fs)=>fs.toList.flatMap λf=>vE P k f.type
  |some (.array n e)=>(List.replicate n (vE P k e)).flatten
  |_=>List.replicate ((A8 P t).getD 0) (0,0)
def A0x(P:Program)(R:List Res)(i:Nat):List Adj:=match R[i]? with
 |some (.sl _ _ [])=>[.emp i]
 |some (.sl _ _ _)=>[.frz i]
 |some (.zsl e _ _)=>[.deep i (vE P 20 e)]
 |some (.dsl _ _ _)=>[.flat i]
 |some (.vec _ _ cells)=>(((Zs (Ns cells)).filter λk=>match R[k]? with|some (.sl _ _ _)=>true|_=>false).map λk=>.frz k)++[.vsl i,.frz i]
 |_=>[]
def Akf(P:Program)(l:ey)(L:List Ent)(R:List Res):Option (St×List Res):=bif l.isEmpty then none else Cy ((Zs l).flatMap (A0x P R)) (J7 L) R
def Sw(call:Fnc)(P:Program)(n:Nat)(lm:Nat)(ops:Array Oper)(draw:Bool):Nat->Bool->List Ent->List Res->Tr->Option (List Ent×List Res×Tr)
 |0,_,_,_,_=>none
 | q+1,fz,L,R,T=>match Ml call P n lm ops draw fz L R T with
  |.ok (L',R') T'=>some (L',R',T')
  |.bad l T'=>match Akf P (l.filter λi=>Nat.blt i R.length) L R with
   |some (st,R')=>Sw call P n lm ops draw q fz (mkL st) R' T'
   |none=>bif !fz then Sw call P n lm ops draw q true L R T' else none
def pis(R:List Res)(k:Nat)(l:ey):ey:=List.range k++(On R 1000 [] (List.range k++l)).filter λi=>Nat.ble k i
def A2e(k:Nat)(L:List Ent)(R:List Res):Option (St×List Res):=Xy k (pis R k (Jv (L.map Ent.v))) (Hd (J7 L)) (J7 L) R
def nqL(L:List Ent):Operand->Option (List (List Pd))
 | .tmp t=>match Ds L t with
  |some e=>bif e.p.isEmpty then match e.v with
   |.d (.nq rows)=>some rows
   |_=>none
   else none
  |none=>none
 |_=>none
abbrev Au5:=Bool->List Ent->List Res->Option (AV×List Res)
def Ajb(L:List Ent):Operand->Option (Nat×FuncId×List D)
 |.tmp t=>match (Ds L t).map Ent.v with
  |some (.d (.fn (.func f) [] caps))=>some (t,f,caps)
  |_=>none
 |_=>none
def A0f(R:List Res)(i:Nat):Bool:=match R[i]? with
 |some (.vec _ _ _)=>true
 |_=>false
def A7w(P:Program)(R:List Res)(caps:List D):List Adj:=
 let sl:=(On R 1000 [] (Ns caps)).filter (Atb R)
 (sl.filter λi=>!(A0f R i)).flatMap (A0x P R)++((sl.filter (A0f R)).flatMap λi=>[.vsl i,.frz i])++(Zs (Ns caps)).map .bx
def Ab6(call:Fnc)(T:Tr)(f:FuncId)(ips:List D):Option (List (List AV)×Tr):=
 match call.ih f ips with
 |some xs=>some (xs,T)
 |none=>match call.run true T f (.d .any::ips.map AV.d) [] with
  |some (_,[],T')=>some ([],T')
  |_=>none
def O4(call : Fnc)(P : Program)(n lm : Nat)(ps : Array Tmp)(asg : Code)(stO : St)(run : List Ent -> List Res -> Tr -> Option (AV × List Res × Tr)) : List (List AV) -> List Res -> Tr -> Option (Bool × List Res × Tr)
 | [],R,T=>some (false,R,T)
 | x::xs,R,T=>match asg with
  | .region _ ops draw=>match Sw call P n lm ops draw 20 false (mkL (stO++prm ps x)) R T with
   |some (L1,R1,T1)=>match run (mkL (J7 L1)) R1 T1 with
    |some (.tup [],R2,T2)=>O4 call P n lm ps asg stO run xs R2 T2
    |some (.tup [_],R2,T2)=>some (true,R2,T2)
    |_=>none
   |none=>none
  |_=>none
def Atq:Au5:=λb _ R=>some (bif b then .tup [.tup []] else .tup [],R)
def Asq(n k:Nat)(ps:Array Tmp)(st:St)(R:List Res)(ips:List D)(xs:List (List AV)):Bool:=
 (ips.all Aj0&&(uB ps.toList&&ps.toList.all λp=>Nat.blt p n))&&(N4 R.length st&&(Nat.ble k R.length&&xs.all λx=>Nat.beq x.length ps.size))
def Dm(call : Fnc)(P : Program)(n : Nat)(lm : Nat) : Nat -> Bool -> Nat -> Au5 -> List It -> List Ent -> List Res -> Tr -> Option (AV × List Res × Tr)
 |0,_,_,_,_,_,_,_=>none
 | fuel + 1, rg, k, fin, items, L, R, T => match items with
  | []=>match fin false L R with
   |some (v,R2)=>some (v,R2,T)
   |none=>none
  |.k _::_=>none
  |.b _::l=>Dm call P n lm fuel rg k fin l L R T
  | .l x m::l=>match m with
   |0=>none
   |m+1=>bif Nat.ble R.length (k+40)then Dm call P n lm fuel rg k fin (.c x :: .l x m::l) L R T else match A2e k L R with
    |some (st,R')=>Dm call P n lm fuel rg k fin (.c x :: .l x m::l) (mkL st) R' T
    |none=>none
  | .c x :: l => match x with
   |.skip=>Dm call P n lm fuel rg k fin l L R T
   |.seq a b=>Dm call P n lm fuel rg k fin (.c a :: .c b::l) L R T
   |.region _ ops draw=>match Sw call P n lm ops draw 20 false L R T with
    |some (L',R',T')=>Dm call P n lm fuel rg k fin l L' R' T'
    |none=>none
   | .cond c x y=>match Zf L c with
    |some b=>Dm call P n lm fuel rg k fin ((match b with|true=>.c x|false=>.c y)::l) L R T
    | none=>match nqL L c with
     |some (_::_)=>Dm call P n lm fuel rg k fin (.c y::l) L R T
     | some []=>match Dm call P n lm fuel rg k fin (.c x::l) L R T with
      |some (v,R2,T1)=>match Dm call P n lm fuel rg k fin (.c y::l) L R T1 with
       |some (v',R2',T2)=>bif eqW v' v&&Nj R2' R2 then some (v,R2,T2) else none
       |none=>none
      |none=>none
     |none=>none
   |.block id c=>Dm call P n lm fuel rg k fin (.c c :: .b id::l) L R T
   |.exit id=>match unw id l with
    |some l'=>Dm call P n lm fuel rg k fin l' L R T
    |none=>none
   |.ret=>match fin true L R with
    |some (v,R2)=>some (v,R2,T)
    |none=>none
   |.loop x=>Dm call P n lm fuel rg k fin (.c x :: .l x 1000000::l) L R T
   | .rangeFunc g ps asg bd=>bif rg then match Ajb L g with
     | some (_,_,caps)=>match Cy (A7w P R caps) (J7 L) R with
      | some (st,R1)=>match Ajb (mkL st) g with
       | some (_,f,ips)=>match Ab6 call T f ips with
        | some (xs,T1)=>bif Asq n k ps st R1 ips xs then match O4 call P n lm ps asg (st.filter λx=>!(Hc ps.toList x.1)) (Dm call P n lm fuel false R1.length Atq [.c bd]) xs R1 T1 with
          |some (false,R2,T2)=>Dm call P n lm fuel false k fin l (mkL st) R2 T2
          |some (true,R2,T2)=>match fin true (mkL st) R2 with
           |some (v,R3)=>some (v,R3,T2)
           |none=>none
          |none=>none
         else none
        |none=>none
       |none=>none
      |none=>none
     |none=>none
    else none
   |_=>none
def Ab0:Operand->ey
 |.tmp t=>[t]
 |_=>[]
def Ahd:List Oper->ey->ey
 | [],_=>[]
 |o::os,df=>((o.op.operands.toList.flatMap Ab0).filter λt=>!Hc df t)++Ahd os (match o.dst with|some d=>d::df|none=>df)
def H2:Code->ey
 |.seq a b=>H2 a++H2 b
 |.region _ ops _=>Ahd ops.toList []
 |.cond c x y=>Ab0 c++(H2 x++H2 y)
 |.block _ c=>H2 c
 |.loop c=>H2 c
 |.scope c=>H2 c
 |.rangeFunc f _ a b=>Ab0 f++(H2 a++H2 b)
 |_=>[]
def Aqb:ey->Nat
 | []=>0
 |t::r=>Nat.lor (Nat.shiftLeft 1 t) (Aqb r)
def A39:ResultVar->Nat
 |.tmp t=>t
 |.cell t _=>t
def A8b(P:Program)(f:FuncId):Nat:=match P.funcs[f]? with
 |some fn=>match fn.body with
  |some c=>Aqb (H2 c++fn.results.toList.map A39)
  |none=>0
 |none=>0
def A1e(P:Program)(t:TypeId):Option (TypeId×Nat):=match P.underlying t with
 |some (.slice e)=>(A8 P e).map λn=>(e,n)
 |_=>none
def A5g:AV->Bool
 |.d (.p (.v (.slice none 0 0)))=>true
 |_=>false
def Ab2(P:Program):Nat->TypeId->Nat->List (Nat×TypeId×Nat)
 |0,_,_=>[]
 | k+1,t,off=>match P.underlying t with
  |some (.slice e)=>match A8 P e with
   |some n=>[(off,e,n)]
   |none=>[]
  |some (.struct fs)=>fs.toList.flatMap λf=>Ab2 P k f.type (off+f.offset)
  |_=>[]
def A5h:Option D->Bool
 |some (.p (.v (.slice none 0 0)))=>true
 |_=>false
def Oq(P:Program)(ow:Bool)(st:St)(R:List Res):List (ResultVar×TypeId)->List Adj
 | []=>[]
 |(.tmp t,u)::l=>match (Ds (mkL st) t).map Ent.v,A1e P u with
  |some v,some (e,n)=>bif A5g v then .own t e n::Oq P ow st R l else Oq P ow st R l
  |_,_=>Oq P ow st R l
 | (.cell t u,_)::l=>match (Ds (mkL st) t).map Ent.v with
  |some (.d (.o i 0))=>match R[i]? with
   |some (.box _ cells)=>((Ab2 P (bif ow then 20 else 1) u 0).filter λx=>A5h cells[x.1]?).map (λx=>.ownb i x.1 x.2.1 x.2.2)++Oq P ow st R l
   |_=>Oq P ow st R l
  |_=>Oq P ow st R l
def A8n(P:Program)(fn:Func)(results:List ResultVar)(k:Nat)(fz ow:Bool)(st:St)(R:List Res):List Adj:=
 match fz with
 |false=>Oq P ow st R (results.zip fn.resultTypes.toList)
 |true=>((Zs ((Jv ((Lo P st R results).getD [])).filter λi=>Nat.ble k i&&(match R[i]? with|some (.sl _ _ _)=>true|_=>false)))).map .frz
def A0h(P:Program)(fn:Func)(results:List ResultVar)(k:Nat)(fz ow:Bool)(L:List Ent)(R:List Res):Option (AV×List Res):=
 match Cy (A8n P fn results k fz ow (J7 L) R) (J7 L) R with
 |some (st,R1)=>Ol P results k (pis R1 k (Jv ((Lo P st R1 results).getD []))) st R1
 |none=>none
def hsh(fz:Bool)(f:FuncId)(_:List AV):Nat:=bif fz then f+1024 else f
abbrev Tm:=FuncId->Option (List AV->List Res->Option (AV×List Res))
def exC(P : Program)(hand : Tm)(lend : FuncId -> Bool)(ih : Ih_) : Nat -> A7b
 |0,_,_,_,_,_=>none
 | q + 1, fz, T, f, args, R => match Wp f args R (T.get 11 (hsh fz f args)) with
  |some e=>some (e.res,e.R2,T)
  | none=>match hand f with
   |some h=>match h args R with
    |some (res,R2)=>some (res,R2,Tr.ins ⟨f,args,R,res,R2⟩ 11 (hsh fz f args) T)
    |none=>none
   | none=>match P.funcs[f]? with
    |none=>none
    | some fn=>match fn.body with
     |none=>none
     | some c => bif Nat.ble args.length fn.ntmps && !(fn.name == "runtime.NumGoroutine") then
      match Dm ⟨exC P hand lend ih q,lend,ih⟩ P fn.ntmps (A8b P f) 10000000 true R.length (λ_=>A0h P fn fn.results.toList R.length fz (!(lend f))) [.c c] (mkL (Tc 0 args)) R T with
      |none=>none
      |some (res,R2,T1)=>some (res,R2,Tr.ins ⟨f,args,R,res,R2⟩ 11 (hsh fz f args) T1)
      else none
def Good(P:Program)(call:Fnc):Prop:=∀fz T f args R res R2 T',T.ok P->call.run fz T f args R=some (res,R2,T')->T'.ok P/\Dl P f/\CallOk P f args R res R2
section
variable{P:Program}{call:Fnc}{n:Nat}{lv:ey}
theorem zI{x:Option α}{y:α}(h:(bif b then none else x)=some y):x=some y:=by
 cases b with
 |true=>cases h
 |false=>exact h
variable{T':Tr}
theorem O0(hc:Good P call)(ht:T.ok P)(h:Ps call fz T R g args=some (c,T')):T'.ok P:=by
 unfold Ps at h;dsimp only at h;split at h
 .split at h
  .rename_i e;simp only[ae,al]at h;obtain⟨_,rfl⟩:=h;exact(hc _ _ _ _ _ _ _ _ ht (zI e)).1
  .cases h
 .cases h
theorem yY(hc:Good P call)(ht:T.ok P)(h:Q1 call fz T R g args va=some (c,T')):T'.ok P:=by
 unfold Q1 at h;split at h
 .rename_i c1 T1 e1;have h1:=O0 hc ht e1;cases hu:Abz c1 with
  |false=>rw[hu]at h;cases h;exact h1
  | true=>
   rw[hu]at h;simp only[eh]at h;split at h
   .rename_i res R2 T2 e;have ht1:=(hc _ _ _ _ _ _ _ _ h1 e).1;cases hq:(res.flat&&R2.isEmpty) with
    |true=>rw[hq]at h;cases h;exact ht1
    |false=>rw[hq]at h;cases h;exact h1
   .cases h;exact h1
 .cases h
theorem Ato(hc:Good P call)(ht:T.ok P)(h:Ze call fz fl T R g args=some (c,T')):T'.ok P:=by
 unfold Ze at h;cases hb:(!(call.lend g) || (Jv args).isEmpty || !(oisL args).isEmpty) with
 |true=>rw[hb]at h;exact O0 hc ht h
 | false=>
  rw[hb]at h;simp only[eg]at h;split at h
  .cases fl with
   |false=>exact yY hc ht h
   | true=>
    simp only[eh]at h;split at h
    .rename_i res R2 T1 e;have ht1:=(hc _ _ _ _ _ _ _ _ ht e).1;cases hq:(res.flat&&R2.isEmpty) with
     |true=>rw[hq]at h;simp only[eh,ae,al]at h;obtain⟨_,rfl⟩:=h;exact ht1
     |false=>rw[hq]at h;exact yY hc ht1 h
    .exact O0 hc ht h
  .exact O0 hc ht h
theorem Ag1{a:List AV}{b:List Res}{pi:ey}(h1:AV.renL (D4 pi) (nrm g args)=some a)(h2:(I2 R pi).bind (Ht (D4 pi))=some b)
  (h:Cx R args f (.call g a b res R2 pi)=some out):f=g/\out.c=some (.call g a b res R2 pi):=by
 unfold Cx at h;dsimp only at h;cases hb:(Nat.beq f g&&Fw pi&&Nat.ble pi.length R2.length) with
 |false=>rw[hb]at h;cases h
 | true=>
  rw[hb]at h;simp only[eh]at h;simp only[aa]at hb;have hfg:=af hb.1.1;subst hfg;split at h
  .rename_i e1 e2;split at h
   .rename_i e3 e4 e5;simp only[ae]at h;rw[h1]at e1;rw[e2]at h2;simp only[aj]at h2;rw[h2]at e3;cases e1;cases e3;subst h;exact⟨rfl,rfl⟩
   .cases h
  .cases h
theorem Va{a:List AV}(h1:AV.viewL R [] (args.map AV.norm)=some a)(h:Cx R args f (.callB g a res [[]] 0 [])=some out)(ho:oisL args=[]):f=g/\out.c=some (.callB g a res [[]] 0 []):=by
 unfold Cx at h;dsimp only at h;cases hb:(Nat.beq f g&&res.flat) with
 |false=>rw[hb]at h;cases h
 |true=>rw[hb]at h;simp only[eh]at h;simp only[aa]at hb;have hfg:=af hb.1;subst hfg;rw[ho]at h;simp only at h;rw[h1]at h;simp only[ae]at h;subst h;exact⟨rfl,rfl⟩
theorem N7(hc:Good P call)(ht:T.ok P)(h:Ps call fz T R g args=some (c,T'))(he:Cx R args f c=some out):out.c=some c/\c.ok P/\C_ c=c:=by
 unfold Ps at h;dsimp only at h;split at h
 .rename_i a b e1 e2;split at h
  .rename_i res R2 T1 e;simp only[ae,al]at h;obtain⟨rfl,rfl⟩:=h;obtain⟨h1,h2⟩:=Ag1 e1 e2 he;exact⟨h2,(hc _ _ _ _ _ _ _ _ ht (zI e)).2,rfl⟩
  .cases h
 .cases h
theorem Ada(hc:Good P call)(ht:T.ok P)(e1:AV.viewL R [] (args.map AV.norm)=some va)(ho:oisL args=[])
  (h:Q1 call fz T R g args va=some (c,T'))(he:Cx R args f c=some out):out.c=some c/\c.ok P/\C_ c=c:=by
 unfold Q1 at h;split at h
 .rename_i c1 T1 e0;have h1:=O0 hc ht e0;cases hu:Abz c1 with
  |false=>rw[hu]at h;cases h;exact N7 hc ht e0 he
  | true=>
   rw[hu]at h;simp only[eh]at h;split at h
   .rename_i res R2 T2 e;cases hq:(res.flat&&R2.isEmpty) with
    |true=>rw[hq]at h;cases h;simp only[aa,bu]at hq;obtain⟨q1,q2⟩:=Va e1 he ho;have:=(hc _ _ _ _ _ _ _ _ h1 e).2;rw[hq.2]at this;exact⟨q2,⟨this,rfl⟩,rfl⟩
    |false=>rw[hq]at h;cases h;exact N7 hc ht e0 he
   .cases h;exact N7 hc ht e0 he
 .cases h
theorem A15(hc:Good P call)(ht:T.ok P)(h:Ze call fz fl T R g args=some (c,T'))(he:Cx R args f c=some out):out.c=some c/\c.ok P/\C_ c=c:=by
 unfold Ze at h;cases hb:(!(call.lend g) || (Jv args).isEmpty || !(oisL args).isEmpty) with
 |true=>rw[hb]at h;exact N7 hc ht h he
 | false=>
  rw[hb]at h;simp only[eg]at h;simp only[aY,cU]at hb;split at h
  .rename_i va e1;cases fl with
   |false=>exact Ada hc ht e1 (bu.1 hb.2) h he
   | true=>
    simp only[eh]at h;split at h
    .rename_i res R2 T1 e;have ht1:=(hc _ _ _ _ _ _ _ _ ht e).1;cases hq:(res.flat&&R2.isEmpty) with
     |true=>rw[hq]at h;simp only[eh,ae,al]at h;obtain⟨rfl,rfl⟩:=h;simp only[aa,bu]at hq;obtain⟨h1,h2⟩:=Va e1 he (bu.1 hb.2);have:=(hc _ _ _ _ _ _ _ _ ht e).2;rw[hq.2]at this;exact⟨h2,⟨this,rfl⟩,rfl⟩
     |false=>rw[hq]at h;exact Ada hc ht1 e1 (bu.1 hb.2) h he
    .exact N7 hc ht h he
  .exact N7 hc ht h he
theorem Ana:tb m i=m.testBit i:=by
 unfold tb;rw[Nat.testBit_eq_decide_div_mod_eq];have h:Nat.land (Nat.shiftRight m i) 1=m / 2 ^ i % 2:=by show (m >>> i) &&& 1=_;rw[Nat.and_one_is_mod,Nat.shiftRight_eq_div_pow]
 rw[h,cv];simp[Nat.beq_eq]
theorem Ab1:tb (Nat.lor m (Nat.shiftLeft 1 d)) i=(tb m i || decide (i=d)):=by
 rw[Ana,Ana];show (m ||| (1 <<< d)).testBit i=_;rw[Nat.testBit_or,Nat.one_shiftLeft,Nat.testBit_two_pow];congr 1;by_cases h:d=i
 .simp[h]
 .simp[h,Ne.symm h]
def Seen(m:Nat)(L:List Ent):Prop:=∀e,e∈L->tb m e.t=true/\∀g,g∈e.p->tb m g.1=true
theorem yK:∀{L:List Ent},(∀e,e∈L->e.p=[])->Seen (Il L) L
 | [],_=>λe he=>by cases he
 | x::r,h=>by
  have hput:∀i,tb (Il (x::r)) i=(tb (Il r) i || decide (i=x.t)):=λi=>by show tb (Nat.lor (Nat.shiftLeft 1 x.t) (Il r)) i=_;rw[show Nat.lor (Nat.shiftLeft 1 x.t) (Il r)=Nat.lor (Il r) (Nat.shiftLeft 1 x.t) from Nat.or_comm _ _];exact Ab1
  intro e he;refine⟨?_,λg hg=>by rw[h e he]at hg;cases hg⟩;rw[hput];rcases ah.1 he with rfl|he
  .simp
  .rw[(yK (λe he=>h e (am _ he)) e he).1];rfl
theorem A1l(h:Seen m L):Ab9 m L d cur v=Km L d cur v:=by
 unfold Ab9;cases hd:tb m d with
 |true=>rfl
 | false=>
  simp only[eg];unfold Km;congr 1;refine(List.filter_eq_self.2 λe he=>?_).symm;obtain⟨h1,h2⟩:=h e he;have ne:∀t,tb m t=true->Nat.beq t d=false:=λt ht=>by
   cases hb:Nat.beq t d with
   |false=>rfl
   |true=>rw[af hb,hd]at ht;cases ht
  rw[ne _ h1];simp only[Bool.not_false,ce,aD];intro g hg;rw[ne _ (h2 g hg)];rfl
theorem Asm(h:Seen m L)(hc:∀g,g∈cur->tb m g.1=true):Seen (Nat.lor m (Nat.shiftLeft 1 d)) (Km L d cur v):=by
 intro e he;have up:∀t,tb m t=true->tb (Nat.lor m (Nat.shiftLeft 1 d)) t=true:=λt ht=>by rw[Ab1,ht];rfl
 unfold Km at he;rcases ah.1 he with rfl|he
 .exact⟨by rw[Ab1];simp,λg hg=>up _ (hc g hg)⟩
 .obtain⟨h1,h2⟩:=h e (aH.1 he).1;exact⟨up _ h1,λg hg=>up _ (h2 g hg)⟩
theorem Aj2(h:Seen m L)(hg:Gj ops L o=some cur):∀g,g∈cur->tb m g.1=true:=by
 unfold Gj at hg;split at hg
 .simp at hg;subst hg;intro g hg;cases hg
 .split at hg
  .cases hg
  .split at hg
   .rename_i e he;split at hg
    .simp at hg;subst hg;obtain⟨h1,h2⟩:=C5 he;obtain⟨h3,h4⟩:=h e h1;intro g hg;rcases aw.1 hg with hg|hg
     .exact h4 g hg
     .simp at hg;subst hg;rw[←h2];exact h3
    .cases hg
   .cases hg
theorem Aqe{cs:List (Bool×Bool)}(h:eqC cs=false):¬Dd cs:=λhn=>by rw[Tf hn]at h;cases h
theorem X9(hc : Good P call){cs : List (Bool × Bool)}{r : Rs (Cl × Out)}(ht : T.ok P)(h : Aaz call P L cur cs fz R T o = r)(hcs : Fh L cur = some cs) :
  r.tr.ok P/\∀c out T',r=.ok (c,out) T'->H1 P L cur R (C_ c) o=some out/\∀x,out.c=some x->(D7 cur (isR c) cs x).ok P:=by
 have hnil:eqC cs=false->cur.isEmpty=false:=λhb=>by
  cases cur with
  |nil=>simp[Fh]at hcs;subst hcs;cases hb
  |cons=>rfl
 unfold Aaz at h;split at h
 .rename_i f hq;split at h
  .rename_i out e2;cases hk:(match out.c with|none=>true|some x=>chk T (D7 cur false cs x)) with
   |false=>rw[hk]at h;subst h;exact⟨ht,λ_ _ _ he=>by cases he⟩
   |true=>rw[hk]at h;subst h;refine⟨ht,λc' out' T' he=>?_⟩;simp only[eh,Rs.ok.injEq,al]at he;obtain⟨⟨rfl,rfl⟩,rfl⟩:=he;refine⟨by rw[←Yz,hq];exact e2,λx hx=>?_⟩;rw[hx]at hk;exact Zv ht hk
  .subst h;exact⟨ht,λ_ _ _ he=>by cases he⟩
 .rename_i f xs fl hq;have hop:∀g args c,callee L cur f xs=some (g,args)->H1 P L cur R c o=Cx R args g c:=by
   intro g args c hcal;rw[←Yz,hq];simp only[QO.run,hcal]
  split at h
  .rename_i g args hcal;cases hb:eqC cs with
   | true=>
    rw[hb]at h;simp only[eh]at h;split at h
    .rename_i c T1 e1;have ht1:=Ato hc ht e1;split at h
     .rename_i out e2;subst h;refine⟨ht1,λc' out' T' he=>?_⟩;simp only[Rs.ok.injEq,al]at he;obtain⟨⟨rfl,rfl⟩,rfl⟩:=he;obtain⟨k1,k2,k3⟩:=A15 hc ht e1 e2;have hstrip:C_ (bif cur.isEmpty || X0 c then c else Cl.whenR cs c)=c:=by
       cases cur.isEmpty || X0 c with
       |true=>exact k3
       |false=>rfl
      refine⟨by rw[hstrip,hop g args c hcal];exact e2,λx hx=>?_⟩;rw[k1]at hx;cases hx;unfold D7;cases hce:cur.isEmpty with
      |true=>exact k2
      |false=>
       simp only[eg];cases hr:isR (bif false || X0 c then c else Cl.whenR cs c) with
       |true=>exact⟨λ_=>k2,λhn=>absurd (Yg hb) hn⟩
       |false=>exact λ_=>k2
     .subst h;exact⟨ht1,λ_ _ _ he=>by cases he⟩
    .subst h;exact⟨ht,λ_ _ _ he=>by cases he⟩
   | false=>
    rw[hb]at h;simp only[eg]at h;split at h
    .rename_i out e2;subst h;refine⟨ht,λc' out' T' he=>?_⟩;simp only[Rs.ok.injEq,al]at he;obtain⟨⟨rfl,rfl⟩,rfl⟩:=he;have hstrip:C_ (Q8 P o.type g args)=Q8 P o.type g args/\isR (Q8 P o.type g args)=false:=by
      unfold Q8;cases (Jv args).isEmpty <;> exact⟨rfl,rfl⟩
     refine⟨by rw[hstrip.1,hop g args _ hcal];exact e2,λx hx=>?_⟩;rw[hstrip.2];unfold D7;rw[hnil hb];exact λhn=>absurd hn (Aqe hb)
    .split at h
     .rename_i c hc;split at h
      .rename_i out e2;cases hk:(match out.c with|none=>false|some x=>chk T (.whenR cs x)) with
       |false=>rw[hk]at h;subst h;exact⟨ht,λ_ _ _ he=>by cases he⟩
       |true=>rw[hk]at h;subst h;refine⟨ht,λc' out' T' he=>?_⟩;simp only[eh,Rs.ok.injEq,al]at he;obtain⟨⟨rfl,rfl⟩,rfl⟩:=he;refine⟨by rw[show C_ (Cl.whenR cs c)=c from rfl,hop g args c hcal];exact e2,λx hx=>?_⟩;rw[hx]at hk;unfold D7;rw[hnil hb];exact Zv ht hk
      .subst h;exact⟨ht,λ_ _ _ he=>by cases he⟩
     .subst h;exact⟨ht,λ_ _ _ he=>by cases he⟩
  .subst h;exact⟨ht,λ_ _ _ he=>by cases he⟩
 .rename_i k f hq;have hW:=Anw (At6 hq L cur R fz);split at h
  .rename_i out e2;cases hk:(match out.c with|none=>true|some x=>chk T (D7 cur false cs x)) with
   |false=>rw[hk]at h;subst h;exact⟨ht,λ_ _ _ he=>by cases he⟩
   |true=>rw[hk]at h;subst h;refine⟨ht,λc' out' T' he=>?_⟩;simp only[eh,Rs.ok.injEq,al]at he;obtain⟨⟨rfl,rfl⟩,rfl⟩:=he;refine⟨by rw[←Yz,hq,hW.1];exact e2,λx hx=>?_⟩;rw[hx]at hk;rw[hW.2];exact Zv ht hk
  .subst h;exact⟨ht,λ_ _ _ he=>by cases he⟩
theorem Ahm{x y:Rs α}(hx:x.tr.ok P)(hy:y.tr.ok P):(bif b then x else y).tr.ok P:=by
 cases b with
 |true=>exact hx
 |false=>exact hy
theorem X7(hc:Good P call){fz:Bool}{ops:Array Oper}:∀{os:List Oper}{L:List Ent}{R:List Res}{T:Tr}{m:Nat},T.ok P->(Pt call fz P n ops os L R T m).tr.ok P
 | [],L,R,T,m,ht=>ht
 | o :: os, L, R, T, m, ht => by
  simp only[Pt];split
  .exact ht
  .split
   .exact ht
   .rename_i cs hcs;have h1:=X9 (cs:=cs) (fz:=fz) (R:=R) (o:=o) hc ht rfl hcs;split
    .rename_i e;rw[e]at h1;exact h1.1
    .rename_i c out T1 e;rw[e]at h1;cases Ji L _ (isR c) (C_ c) o with
     |false=>exact h1.1
     |true=>
      simp only[eh];split
      .exact Ahm (X7 hc h1.1) h1.1
      .exact Ahm (X7 hc h1.1) h1.1
theorem X8(hc : Good P call){fz : Bool}{ops : Array Oper}{C : Ctx}{K : Act -> World -> Prop} : ∀{os : List Oper}{i : Nat}{L : List Ent}{R : List Res}{T : Tr}{m : Nat}{L' : List Ent}{R' : List Res}{T' : Tr}{a : Act}{w : World},
  T.ok P->Seen m L->ops.toList.drop i=os->Pt call fz P n ops os L R T m=.ok (L',R') T'->Sat n C L R a w->(∀a' w',Sat n C L' R' a' w'->K a' w')->C4 P ops K (List.range' i os.length) a w
 | [],i,L,R,T,m,L',R',T',a,w,ht,hm,hi,h,hs,hK=>by simp only[Pt,Rs.ok.injEq,al]at h;obtain⟨⟨rfl,rfl⟩,_⟩:=h;exact hK _ _ hs
 | o :: os, i, L, R, T, m, L', R', T', a, w, ht, hm, hi, h, hs, hK => by
  have ho:ops[i]?=some o:=by have:=congrArg (·[0]?) hi;simpa[List.getElem?_drop]using this
  have hi2:ops.toList.drop (i+1)=os:=by have:=congrArg (List.drop 1) hi;rw[cq]at this;simpa using this
  simp only[Pt]at h;show Gp P ops i (C4 P ops K (List.range' (i+1) os.length)) a w;split at h
  .cases h
  .rename_i cur hcur;split at h
   .cases h
   .rename_i cs hcs;have h1:=X9 (cs:=cs) (fz:=fz) (R:=R) (o:=o) hc ht rfl hcs;split at h
    .cases h
    .rename_i c out T1 e;rw[e]at h1;obtain⟨h2,h3⟩:=h1;obtain⟨h4,h5⟩:=h3 _ _ _ rfl;cases hg:Ji L cur (isR c) (C_ c) o with
     |false=>rw[hg]at h;cases h
     | true=>
      rw[hg]at h;simp only[eh]at h;have hk:∀x,out.c.map (D7 cur (isR c) cs)=some x->x.ok P:=λx hx=>by obtain⟨y,hy,rfl⟩:=Option.map_eq_some_iff.1 hx;exact h5 y hy
      split at h
      .rename_i d hd;cases hb:(Nat.blt d n&&cur.all (λg=>!(Nat.beq g.1 d))) with
       |false=>rw[hb]at h;cases h
       | true=>
        rw[hb]at h;simp only[eh]at h;rw[A1l hm]at h;exact Pu ho (L':=Km L d cur out.v) (R':=out.R) (k:=out.c.map (D7 cur (isR c) cs)) (c:=c) (by unfold U8;simp only[hcur,h4,hcs,hg,eh,hd,hb]) hk hs λa' w' hs'=>X8 hc h2 (Asm hm (Aj2 hm hcur)) hi2 h hs' hK
      .rename_i hd;cases hb:cur.isEmpty with
       |false=>rw[hb]at h;cases h
       | true=>
        rw[hb]at h;simp only[eh]at h;exact Pu ho (L':=L) (R':=out.R) (k:=out.c.map (D7 cur (isR c) cs)) (c:=c) (by unfold U8;simp only[hcur,h4,hcs,hg,eh,hd,hb]) hk hs λa' w' hs'=>X8 hc h2 hm hi2 h hs' hK
theorem Wo(hc:Good P call){fz:Bool}{ops:Array Oper}{base:Nat}:∀{os:List Oper}{L:List Ent}{R:List Res}{T:Tr}{m:Nat}{acc:List Cl}{fls:List Res},T.ok P->(Ac9 call fz P n ops base os L R T m acc fls).tr.ok P
 | [],L,R,T,m,acc,fls,ht=>ht
 | o :: os, L, R, T, m, acc, fls, ht => by
  simp only[Ac9];split
  .exact ht
  .split
   .exact ht
   .rename_i cs hcs;cases hal:Wn o with
    |true=>
     simp only[eh];split
     .exact Wo hc ht
     .exact ht
    | false=>
     simp only[eg];have h1:=X9 (cs:=cs) (fz:=fz) (R:=R) (o:=o) hc ht rfl hcs;split
     .rename_i e;rw[e]at h1;exact h1.1
     .rename_i c out T1 e;rw[e]at h1;exact Wo hc h1.1
theorem Je{m:Nat}:∀{L:List Ent}{e:Ent},e∈Si m L->e∈L/\e.p=[]
 | [],e,h=>by cases h
 | x::r,e,h=>by
  simp only[Si]at h;cases hb:(x.p.isEmpty&&tb m x.t) with
  | true=>
   rw[hb]at h;simp only[eh]at h;rcases ah.1 h with rfl|h
   .simp only[aa,bu]at hb;exact⟨an,hb.1⟩
   .exact⟨am _ (Je h).1,(Je h).2⟩
  |false=>rw[hb]at h;simp only[eg]at h;exact⟨am _ (Je h).1,(Je h).2⟩
theorem Att(hc:Good P call)(ht:T.ok P):(Ml call P n lm ops draw fz L R T).tr.ok P:=by
 cases draw with
 |false=>
  have h:=X7 (n:=n) hc (fz:=fz) (ops:=ops) (os:=ops.toList) (L:=L) (R:=R) (m:=Il L) ht;simp only[Ml];split
  .rename_i e;rw[e]at h;exact h
  .rename_i e;rw[e]at h;exact h
 | true=>
  have h:=Wo (n:=n) hc (fz:=fz) (ops:=ops) (base:=R.length) (os:=ops.toList) (L:=L) (R:=R++List.replicate (Ack ops) .non) (m:=Il L) (acc:=[]) (fls:=[]) ht;simp only[Ml];split
  .rename_i cls fls T1 e;rw[e]at h;split
   .rename_i rs L1 R1 cs e1;cases hk:(Lg ops L rs&&L4 R.length (R.length+fls.length) rs&&O_ T1 cs) with
    |false=>exact h
    |true=>exact h
   .exact h
  .rename_i e;rw[e]at h;exact h
theorem Atu(hm:P.follows .mixedOrders=true)(hc:Good P call){id:Nat}(hfl:∀e,e∈L->e.p=[])
  (ht:T.ok P)(h:Ml call P n lm ops draw fz L R T=.ok (L',R') T')(hs:Sat n C L R a w)(hK:∀a w,Sat n C L' R' a w->Q .normal a w):(Code.region id ops draw).wpIn (FR ro) 0 P Q a w:=by
 cases draw with
 | false=>
  simp only[Ml]at h;split at h
  .rename_i L1 R1 T1 e;simp only[Rs.ok.injEq,al]at h;obtain⟨⟨rfl,rfl⟩,rfl⟩:=h;have hr:List.range ops.size=List.range' 0 ops.toList.length:=by rw[List.range_eq_range'];rfl
   refine wpIn_region (Mp ?_);rw[hr];exact X8 hc ht (yK hfl) rfl e hs λa' w' h'=>hK a' w' (h'.sub λe he=>(Je he).1)
  .cases h
 | true=>
  have htr:=Wo (n:=n) hc (fz:=fz) (ops:=ops) (base:=R.length) (os:=ops.toList) (L:=L) (R:=R++List.replicate (Ack ops) .non) (m:=Il L) (acc:=[]) (fls:=[]) ht;simp only[Ml]at h;split at h
  .rename_i cls fls T1 e;rw[e]at htr;split at h
   .rename_i rs L1 R1 cs e1;cases hk:(Lg ops L rs&&L4 R.length (R.length+fls.length) rs&&O_ T1 cs) with
    |false=>rw[hk]at h;cases h
    |true=>rw[hk]at h;simp only[eh,Rs.ok.injEq,al]at h;obtain⟨⟨rfl,rfl⟩,rfl⟩:=h;simp only[aa]at hk;rw[Xx]at e1;refine wpIn_region_any hm ?_;refine qT (fl:=fls) hs e1 (zK htr hk.2) hk.1.1 (λi hi=>?_) hk.1.2 λa' w' h'=>hK a' w' (h'.sub λe he=>(Je he).1);have hb:=hk.1.2;have:=(aD.1 (by unfold L4 at hb;simp only[aa]at hb;exact hb.2)) i hi;simp only[aa]at this;exact⟨aF this.1,by have:=this.2;simpa[eu]using this⟩
   .cases h
  .cases h
theorem Y9:∀e,e∈Si m L->e.p=[]:=λe he=>(Je he).2
theorem Ake(h:Ml call P n lm ops draw fz L R T=.ok (L',R') T'):∀e,e∈L'->e.p=[]:=by
 cases draw with
 | false=>
  simp only[Ml]at h;split at h
  .simp only[Rs.ok.injEq,al]at h;obtain⟨⟨rfl,rfl⟩,rfl⟩:=h;exact Y9
  .cases h
 | true=>
  simp only[Ml]at h;split at h
  .rename_i cls fls T1 e;split at h
   .rename_i rs L1 R1 cs e1;cases hk:(Lg ops L rs&&L4 R.length (R.length+fls.length) rs&&O_ T1 cs) with
    |false=>rw[hk]at h;cases h
    |true=>rw[hk]at h;simp only[eh,Rs.ok.injEq,al]at h;obtain⟨⟨rfl,rfl⟩,rfl⟩:=h;exact Y9
   .cases h
  .cases h
theorem Atv{P:Program}{l:ey}{st:St}(h:Akf P l L R=some (st,R'))(hs:Sat n C L R a w):Sat n C (mkL st) R' a w:=by
 unfold Akf at h;cases hl:l.isEmpty with
 |true=>rw[hl]at h;cases h
 |false=>rw[hl]at h;exact(hs.sub λe he=>Gu he).adj h
theorem Sv(hm:P.follows .mixedOrders=true)(hc:Good P call){id lm:Nat}{ops:Array Oper}{draw:Bool}:∀{q:Nat}{fz:Bool}{L:List Ent}{R:List Res}{T:Tr}{L':List Ent}{R':List Res}{T':Tr},(∀e,e∈L->e.p=[]) ->
  T.ok P->Sw call P n lm ops draw q fz L R T=some (L',R',T')->T'.ok P/\(∀e,e∈L'->e.p=[])/\∀{ro:Option Nat}{C:Ctx}{Q:Exit->Act->World->Prop}{a:Act}{w:World},Sat n C L R a w->(∀a w,Sat n C L' R' a w->Q .normal a w)->(Code.region id ops draw).wpIn (FR ro) 0 P Q a w
 |0,fz,L,R,T,L',R',T',hfl,ht,h=>by simp[Sw]at h
 | q + 1, fz, L, R, T, L', R', T', hfl, ht, h => by
  have htr:=Att (n:=n) (lm:=lm) hc (ops:=ops) (draw:=draw) (fz:=fz) (L:=L) (R:=R) ht;simp only[Sw]at h;split at h
  .rename_i e;rw[e]at htr;simp only[ae,al]at h;obtain⟨rfl,rfl,rfl⟩:=h;exact⟨htr,Ake e,λhs hK=>Atu hm hc hfl ht e hs hK⟩
  .rename_i e;rw[e]at htr;split at h
   .rename_i e1;obtain⟨h1,h2,h3⟩:=Sv hm hc (λe he=>Cu he) htr h;exact⟨h1,h2,λhs hK=>h3 (Atv e1 hs) hK⟩
   .cases hb:(!fz) with
    |true=>rw[hb]at h;obtain⟨h1,h2,h3⟩:=Sv hm hc hfl htr h;exact⟨h1,h2,λhs hK=>h3 hs hK⟩
    |false=>rw[hb]at h;cases h
theorem Ajq{c:Code}{l:List It}(h:Qs ro P (.c c :: .l c m::l) Q .normal a w):Qs ro P (.c (.loop c)::l) Q .normal a w:=wpIn_loop_rounds (m+1) h
theorem Anu{c:Operand}(hs:Sat n C L R a w)(hc:nqL L c=some rows):∃b:Bool,a.eval c=.bool b/\(b=true->rows=[]):=by
 obtain⟨_,_,S,ρ,_,h4⟩:=hs;unfold nqL at hc;split at hc
 .rename_i t;split at hc
  .rename_i e he;cases hp:e.p.isEmpty with
   |false=>rw[hp]at hc;cases hc
   | true=>
    rw[hp]at hc;simp only[eh]at hc;split at hc
    .rename_i rows' hv;simp only[ae]at hc;subst hc;obtain⟨hm,hte⟩:=C5 he;obtain⟨v,h1,h2⟩:=(h4 e hm).1 (by rw[bu.1 hp];exact Bz);rw[hv]at h2;rw[hte]at h1;have h3:=h2.d_inv;cases h3 with
     | @nq b _ h=>exact⟨b,by simp[Act.eval,ef,h1],h⟩
    .cases hc
  .cases hc
 .cases hc
theorem P9{ps:ey}:∀{st:St},(Hd (st.filter λx=>!(Hc ps x.1))).all (λu=>!(Hc ps u))=true
 | []=>rfl
 | (t,v)::r=>by
  simp only[cV];split
  .rename_i h;simp only[Hd,List.all_cons,aa];exact⟨h,P9⟩
  .exact P9
def Yl(P:Program)(ih:Ih_):Prop:=∀f ips xs,ih f ips=some xs->J5 P f ips xs
theorem A1h{g:Operand}{t f:Nat}(h:Ajb L g=some (t,f,caps)):g=.tmp t/\(Ds L t).map Ent.v=some (.d (.fn (.func f) [] caps)):=by
 unfold Ajb at h;split at h
 .split at h
  .rename_i t' f' caps' h1;simp only[ae,al]at h;obtain⟨rfl,rfl,rfl⟩:=h;exact⟨rfl,h1⟩
  .cases h
 .cases h
theorem Ann(hc:Good P call)(hi:Yl P call.ih){xs:List (List AV)}(ht:T.ok P)(h:Ab6 call T f ips=some (xs,T')):T'.ok P/\J5 P f ips xs:=by
 unfold Ab6 at h;split at h
 .rename_i e;simp only[ae,al]at h;obtain⟨rfl,rfl⟩:=h;exact⟨ht,hi _ _ _ e⟩
 .split at h
  .rename_i e;simp only[ae,al]at h;obtain⟨rfl,rfl⟩:=h;obtain⟨h1,h2,h3⟩:=hc _ _ _ _ _ _ _ _ ht e;exact⟨h1,yU h2 h3⟩
  .cases h
theorem Qb(hm:P.follows .mixedOrders=true)(hc:Good P call){lm kp:Nat}{ps:Array Tmp}{asg bd:Code}{stO:St}{run:List Ent->List Res->Tr->Option (AV×List Res×Tr)}
  (hrun:∀{L:List Ent}{R:List Res}{T:Tr}{v:AV}{R2:List Res}{T':Tr},(∀e,e∈L->e.p=[])->T.ok P->run L R T=some (v,R2,T')->T'.ok P/\∀(l:Nat)(C':Ctx),C'.h.length<=kp->C'.df=[]->∀a w,Sat n C' L R a w ->
   bd.wpIn (FR (some l)) 0 P (λe a w=>(e=.normal/\v=.tup []\/e=.ret/\v=.tup [.tup []])/\Sat n C' [] R2 a w) a w) :
  ∀{xs:List (List AV)}{R:List Res}{T:Tr}{b:Bool}{R2:List Res}{T':Tr},T.ok P->O4 call P n lm ps asg stO run xs R T=some (b,R2,T')->T'.ok P/\Ih P n kp ps asg bd stO xs R b R2
 | [],R,T,b,R2,T',ht,h=>by simp only[O4,ae,al]at h;obtain⟨rfl,rfl,rfl⟩:=h;exact⟨ht,.nil⟩
 | x :: xs, R, T, b, R2, T', ht, h => by
  simp only[O4]at h;split at h
  .rename_i id ops draw;split at h
   .rename_i L1 R1 T1 e1;obtain⟨h1,h2,h3⟩:=Sv (id:=id) hm hc (λe he=>Cu he) ht e1;have has:∀(l:Nat)(C':Ctx),C'.h.length<=kp->C'.df=[]->∀a w,Sat n C' (mkL (stO++prm ps x)) R a w->(Code.region id ops draw).wpIn (FR (some l)) 0 P (λe a w=>e=.normal/\Sat n C' (mkL (J7 L1)) R1 a w) a w:=
     λl C' _ _ a w hs=>h3 hs λa' w' hs'=>⟨rfl,hs'.sub λe he=>Gu he⟩
    split at h
    .rename_i R3 T2 e2;obtain⟨g1,g2⟩:=hrun (λe he=>Cu he) h1 e2;obtain⟨k1,k2⟩:=Qb hm hc hrun g1 h;refine⟨k1,.next ⟨_,_,has,λl C' hk hd a w hs=>wpIn_mono (g2 l C' hk hd a w hs) ?_⟩ k2⟩;rintro e a' w' ⟨h,hs'⟩;refine⟨?_,hs'⟩;rcases h with⟨rfl,_⟩|⟨_,hv⟩
     .exact .inl ⟨rfl,rfl⟩
     .cases hv
    .rename_i y R3 T2 e2;simp only[ae,al]at h;obtain⟨rfl,rfl,rfl⟩:=h;obtain⟨g1,g2⟩:=hrun (λe he=>Cu he) h1 e2;refine⟨g1,.ret ⟨_,_,has,λl C' hk hd a w hs=>wpIn_mono (g2 l C' hk hd a w hs) ?_⟩⟩;rintro e a' w' ⟨h,hs'⟩;refine⟨?_,hs'⟩;rcases h with⟨_,hv⟩|⟨rfl,_⟩
     .cases hv
     .exact .inr ⟨rfl,rfl⟩
    .cases h
   .cases h
  .cases h
theorem Ats(hm : P.follows .mixedOrders = true)(hc : Good P call)(hih : Yl P call.ih) : ∀{fuel : Nat}{rg : Bool}{k : Nat}{fin : Au5}{items : List It}{L : List Ent}{R : List Res}{T : Tr}{v : AV}{R2 : List Res}{T' : Tr}, (∀e, e ∈ L -> e.p = []) ->
  T.ok P->Dm call P n lm fuel rg k fin items L R T=some (v,R2,T')->T'.ok P/\∀{ro:Option Nat}{C0 C:Ctx}{Q:Exit->Act->World->Prop}{a:Act}{w:World},(rg=true->ro=none/\C.df=[]/\Up C0 C)->C.h.length<=k ->
   (∀C2,(C2=C\/rg=true/\C2.h=C.h/\Up C0 C2)->∀b L R,fin b L R=some (v,R2)->∀a w,Sat n C2 L R a w->(b=true->Q .ret a w)/\(b=false->Q .normal a w))->Sat n C L R a w->Qs ro P items Q .normal a w:=by
 intro fuel;induction fuel with
 |zero=>intro rg k fin items L R T v R2 T' hfl ht h;simp[Dm]at h
 | succ fuel ih =>
  intro rg k fin items L R T v R2 T' hfl ht h;cases items with
  | nil=>
   simp only[Dm]at h;split at h
   .rename_i e1;simp only[ae,al]at h;obtain⟨rfl,rfl,rfl⟩:=h;exact⟨ht,λhrg hk hK hs=>(hK _ (.inl rfl) _ _ _ e1 _ _ hs).2 rfl⟩
   .cases h
  | cons it l =>
   cases it with
   |k K=>simp[Dm]at h
   |b id=>exact ih (items:=l) hfl ht h
   | l x m =>
    cases m with
    |zero=>simp[Dm]at h
    | succ m=>
     simp only[Dm]at h;cases hb:Nat.ble R.length (k+40) with
     |true=>rw[hb]at h;exact ih (items:=.c x :: .l x m::l) hfl ht h
     | false=>
      rw[hb]at h;simp only[eg]at h;split at h
      .rename_i st R1 e1;have h1:=ih (items:=.c x :: .l x m::l) (λe he=>Cu he) ht h;exact⟨h1.1,λhrg hk hK hs=>h1.2 hrg hk hK ((hs.sub λe he=>Gu he).re hk e1)⟩
      .cases h
   | c x =>
    cases x with
    |skip=>exact⟨(ih (items:=l) hfl ht h).1,λhrg hk hK hs=>wpIn_skip ((ih (items:=l) hfl ht h).2 hrg hk hK hs)⟩
    |seq x y=>exact⟨(ih (items:=.c x :: .c y::l) hfl ht h).1,λhrg hk hK hs=>wpIn_seq ((ih (items:=.c x :: .c y::l) hfl ht h).2 hrg hk hK hs)⟩
    | region id ops draw=>
     simp only[Dm]at h;split at h
     .rename_i L1 R1 T1 e1;have h1:=Sv (id:=id) hm hc hfl ht e1;have h2:=ih (items:=l) h1.2.1 h1.1 h;exact⟨h2.1,λhrg hk hK hs=>h1.2.2 hs λa' w' hs'=>h2.2 hrg hk hK hs'⟩
     .cases h
    | cond c x y=>
     simp only[Dm]at h;split at h
     .rename_i b hb;cases b with
      |true=>exact⟨(ih (items:=.c x::l) hfl ht h).1,λhrg hk hK hs=>wpIn_cond_true (Su hs hb) ((ih (items:=.c x::l) hfl ht h).2 hrg hk hK hs)⟩
      |false=>exact⟨(ih (items:=.c y::l) hfl ht h).1,λhrg hk hK hs=>wpIn_cond_false (Su hs hb) ((ih (items:=.c y::l) hfl ht h).2 hrg hk hK hs)⟩
     .split at h
      .rename_i hn;refine⟨(ih (items:=.c y::l) hfl ht h).1,λhrg hk hK hs=>?_⟩;obtain⟨b,g1,g2⟩:=Anu hs hn;cases b with
       |true=>cases g2 rfl
       |false=>exact wpIn_cond_false g1 ((ih (items:=.c y::l) hfl ht h).2 hrg hk hK hs)
      .rename_i hn;split at h
       .rename_i v1 R1 T1 e1;split at h
        .rename_i v2 R2' T2 e2;cases hq:(eqW v2 v1&&Nj R2' R1) with
         |false=>rw[hq]at h;cases h
         |true=>
          rw[hq]at h;simp only[eh,ae,al]at h;obtain⟨rfl,rfl,rfl⟩:=h;simp only[aa]at hq;have q1:=Zq hq.1;have q2:=Oa hq.2;subst q1;subst q2;have h1:=ih (items:=.c x::l) hfl ht e1;have h2:=ih (items:=.c y::l) hfl h1.1 e2;refine⟨h2.1,λhrg hk hK hs=>?_⟩;obtain⟨b,g1,g2⟩:=Anu hs hn;cases b with
          |true=>exact wpIn_cond_true g1 (h1.2 hrg hk hK hs)
          |false=>exact wpIn_cond_false g1 (h2.2 hrg hk hK hs)
        .cases h
       .cases h
      .cases h
    |block id c=>exact⟨(ih (items:=.c c :: .b id::l) hfl ht h).1,λhrg hk hK hs=>wpIn_block ((ih (items:=.c c :: .b id::l) hfl ht h).2 hrg hk hK hs)⟩
    | exit id=>
     simp only[Dm]at h;split at h
     .rename_i l' hl';exact⟨(ih (items:=l') hfl ht h).1,λhrg hk hK hs=>wpIn_exit (Qo hl' ((ih (items:=l') hfl ht h).2 hrg hk hK hs))⟩
     .cases h
    | ret=>
     simp only[Dm]at h;split at h
     .rename_i e1;simp only[ae,al]at h;obtain⟨rfl,rfl,rfl⟩:=h;exact⟨ht,λhrg hk hK hs=>wpIn_ret (M_ (l:=l) ((hK _ (.inl rfl) _ _ _ e1 _ _ hs).1 rfl))⟩
     .cases h
    |loop c=>exact⟨(ih (items:=.c c :: .l c 1000000::l) hfl ht h).1,λhrg hk hK hs=>Ajq ((ih (items:=.c c :: .l c 1000000::l) hfl ht h).2 hrg hk hK hs)⟩
    | rangeFunc g ps asg bd=>
     simp only[Dm]at h;cases rg with
     |false=>simp at h
     | true =>
      simp only[eh]at h;split at h
      .split at h
       .rename_i st R1 e1;split at h
        .rename_i t f ips e2;obtain⟨rfl,hg⟩:=A1h e2;split at h
         .rename_i xs T1 e3;obtain⟨ht1,hit⟩:=Ann hc hih ht e3;cases hb:Asq n k ps st R1 ips xs with
          |false=>rw[hb]at h;cases h
          | true=>
           rw[hb]at h;simp only[eh]at h;unfold Asq at hb;simp only[aa]at hb;obtain⟨⟨hip,hnd,hpn⟩,hkp,hkR,hps⟩:=hb;have hkR:=aF hkR;have hstO:∀e,e∈mkL (st.filter λx=>!(Hc ps.toList x.1))->e∈mkL st:=λe he=>by obtain⟨m1,m2⟩:=N6 he;have:=Iv (aH.1 m1).1;rw[←m2]at this;exact this
           have hdis:(Hd (st.filter λx=>!(Hc ps.toList x.1))).all (λu=>!(Hc ps.toList u))=true:=P9;have hrun:=fun {L R T v R2 T'} (hfl:∀e,e∈L->e.p=[]) (ht:T.ok P) (h:Dm call P n lm fuel false R1.length Atq [.c bd] L R T=some (v,R2,T'))=>
            (⟨(ih hfl ht h).1,λ(l:Nat)(C':Ctx) hk hd a w hs=>(ih hfl ht h).2 (ro:=some l) (C0:=C') (C:=C') (Q:=λe a w=>(e=.normal/\v=.tup []\/e=.ret/\v=.tup [.tup []])/\Sat n C' [] R2 a w) (λh=>by cases h) hk (λC2 hC2 b L3 R3 hf a3 w3 hs3=>by
             rcases hC2 with hC2|⟨h,_⟩
             .subst hC2;unfold Atq at hf;simp only[ae,al]at hf;obtain⟨hv,rfl⟩:=hf;refine⟨λhb=>⟨.inr ⟨rfl,by rw[←hv,hb];rfl⟩,hs3.sub λe(he:e∈[])=>by cases he⟩,λhb=>⟨.inl ⟨rfl,by rw[←hv,hb];rfl⟩,hs3.sub λe(he:e∈[])=>by cases he⟩⟩
             .cases h) hs⟩:T'.ok P/\∀(l:Nat)(C':Ctx),C'.h.length<=R1.length->C'.df=[]->∀a w,Sat n C' L R a w ->
              bd.wpIn (FR (some l)) 0 P (λe a w=>(e=.normal/\v=.tup []\/e=.ret/\v=.tup [.tup []])/\Sat n C' [] R2 a w) a w)
           split at h
           .rename_i R3 T2 e4;obtain⟨ht2,hrd⟩:=Qb hm hc hrun ht1 e4;have h2:=ih (items:=l) (λe he=>Cu he) ht2 h;refine⟨h2.1,fun {ro C0 C Q a w} hrg hk hK hs=>?_⟩;obtain⟨rfl,hC,hup⟩:=hrg rfl;refine Sb hip hit hg _ hstO hdis hnd hpn (λx hx=>af ((aD.1 hps) x hx)) hC hup R1.length hkp (ay hk hkR) hrd (λC2 hh hup2 _ a w hs2=>?_) (λC2 hh hup2 hb=>by cases hb) ((hs.sub λe he=>Gu he).adj e1);exact h2.2 (ro:=none) (C0:=C0) (C:=C2) (λh=>by cases h) (by rw[hh];exact hk) (λC3 hC3=>by
             rcases hC3 with rfl|⟨h,_⟩
             .exact hK _ (.inr ⟨rfl,hh,hup2⟩)
             .cases h) hs2
           .rename_i R3 T2 e4;obtain⟨ht2,hrd⟩:=Qb hm hc hrun ht1 e4;split at h
            .rename_i e5;simp only[ae,al]at h;obtain⟨rfl,rfl,rfl⟩:=h;refine⟨ht2,fun {ro C0 C Q a w} hrg hk hK hs=>?_⟩;obtain⟨rfl,hC,hup⟩:=hrg rfl;exact Sb hip hit hg _ hstO hdis hnd hpn (λx hx=>af ((aD.1 hps) x hx)) hC hup R1.length hkp (ay hk hkR) hrd (λC2 hh hup2 hb=>by cases hb) (λC2 hh hup2 _ a w hs2=>(hK C2 (.inr ⟨rfl,hh,hup2⟩) _ _ _ e5 _ _ hs2).1 rfl) ((hs.sub λe he=>Gu he).adj e1)
            .cases h
           .cases h
         .cases h
        .cases h
       .cases h
      .cases h
    |scope c=>simp[Dm]at h
    |label c=>simp[Dm]at h
    |goto c=>simp[Dm]at h
    |refuse c=>simp[Dm]at h
def Vu(P:Program)(hand:Tm):Prop:=∀f h,hand f=some h->∀args R res R2,h args R=some (res,R2)->Dl P f/\CallOk P f args R res R2
theorem Adl(hm : P.follows .mixedOrders = true){hand : Tm}(hh : Vu P hand)(lend : FuncId -> Bool){ih : Ih_}(hih : Yl P ih) : ∀q, Good P ⟨exC P hand lend ih q, lend, ih⟩
 |0=>λfz T f args R res R2 T' ht h=>by simp[exC]at h
 | q + 1 => λfz T f args R res R2 T' ht h => by
  simp only[exC]at h;split at h
  .rename_i e he;simp only[ae,al]at h;obtain⟨rfl,rfl,rfl⟩:=h;obtain⟨h1,h2⟩:=X5 (P:=P) he;have h3:=dy ht h1;rw[h2]at h3;exact⟨ht,h3⟩
  .split at h
   .rename_i g hg;split at h
    .rename_i r1 r2 e;simp only[ae,al]at h;obtain⟨rfl,rfl,rfl⟩:=h;exact⟨dq (e:=⟨f,args,R,r1,r2⟩) (hh _ _ hg _ _ _ _ e) ht,hh _ _ hg _ _ _ _ e⟩
    .cases h
   .split at h
    .cases h
    .rename_i fn hf;split at h
     .cases h
     .rename_i c hb
      cases hq : (Nat.ble args.length fn.ntmps && !(fn.name == "runtime.NumGoroutine")) with
      |false=>rw[hq]at h;cases h
      | true=>
       rw[hq]at h;simp only[eh]at h;simp only[aa,aO]at hq;split at h
       .cases h
       .rename_i r1 r2 T1 e1;simp only[ae,al]at h;obtain⟨rfl,rfl,rfl⟩:=h;have hx:=Ats hm (Adl hm hh lend hih q) hih (λe he=>Cu he) ht e1;have hcall:CallOk P f args R r1 r2:=Hu fn.ntmps hf hb rfl hq.1 λC hC a w hs=>by
         refine hx.2 (ro:=none) (C0:=C.z) (C:=C.z) (Q:=Ks P fn C.z r1 r2) (λ_=>⟨rfl,rfl,dp rfl⟩) hC (λC2 hC2 b L1 R1 e2 a w hs=>?_) hs;have hup:Up C.z C2/\C2.h.length<=R.length:=by
          rcases hC2 with rfl|⟨_,hh,hup⟩
          .exact⟨dp rfl,hC⟩
          .exact⟨hup,by rw[hh];exact hC⟩
         unfold A0h at e2;split at e2
         .rename_i st2 R3 e3;have h2:=(hs.sub λe he=>Gu he).adj e3;exact⟨λ_=>h2.post hup.1 rfl hup.2 e2,λ_=>h2.post hup.1 rfl hup.2 e2⟩
         .cases e2
        have hen:Dl P f:=Ej hf (by rw[hb];rfl) hq.2;exact⟨dq ⟨hen,hcall⟩ hx.1,hen,hcall⟩
end
abbrev Ens:=List (Bool×En)
def Aa0(P:Program)(hand:Tm)(lend:FuncId->Bool)(ih:Ih_):Ens->Tr->Bool
 | [],_=>true
 |(fz,e)::l,T=>match exC P hand lend ih 1000 fz T e.f e.args e.R with
  |some (res,R2,T')=>eqW res e.res&&Nj R2 e.R2&&Aa0 P hand lend ih l T'
  |none=>false
def Ci(P:Program):Ens->Prop
 | []=>True
 |x::l=>x.2.ok P/\Ci P l
def Ac2:Ens->Tr
 | []=>.nil
 |(fz,e)::l=>Tr.ins e 11 (hsh fz e.f []) (Ac2 l)
theorem yV{P:Program}:∀{l:Ens},Ci P l->(Ac2 l).ok P
 | [],_=>trivial
 |(fz,e)::l,h=>dq h.1 (yV h.2)
theorem Adm{P:Program}(hm:P.follows .mixedOrders=true){hand:Tm}(hh:Vu P hand){lend:FuncId->Bool}{ih:Ih_}(hi:Yl P ih):∀{l:Ens}{T:Tr},T.ok P->Aa0 P hand lend ih l T=true->Ci P l
 | [],T,_,_=>trivial
 | (fz,e)::l,T,ht,h=>by
  simp only[Aa0]at h;split at h
  .rename_i res R2 T' e1;simp only[aa]at h;obtain⟨g1,g2,g3⟩:=Adl hm hh lend hi 1000 fz T _ _ _ _ _ _ ht e1;rw[Zq h.1.1,Oa h.1.2]at g3;exact⟨⟨g2,g3⟩,Adm hm hh hi g1 h.2⟩
  .cases h
theorem Bq(hm:P.follows .mixedOrders=true){hand:Tm}(hh:Vu P hand){lend:FuncId->Bool}{ih:Ih_}(hi:Yl P ih){k l:Ens}(hk:Ci P k)(h:Aa0 P hand lend ih l (Ac2 k)=true):Ci P l:=Adm hm hh hi (yV hk) h
theorem Atj:Vu P (λ_=>none):=λf h e=>by cases e
theorem A5e:Yl P (λ_ _=>none):=λf ips xs e=>by cases e
theorem U6(hm:P.follows .mixedOrders=true)(fz:Bool)(h:(exC P (λ_=>none) (λ_=>true) (λ_ _=>none) 1000 fz .nil f args R).map (λx=>(x.1,x.2.1))=some (res,R2)):Dl P f/\CallOk P f args R res R2:=by
 cases hx:exC P (λ_=>none) (λ_=>true) (λ_ _=>none) 1000 fz .nil f args R with
 |none=>rw[hx]at h;cases h
 |some x=>obtain⟨a,b,c⟩:=x;rw[hx]at h;simp only[aU,ae,al]at h;obtain⟨rfl,rfl⟩:=h;exact(Adl hm Atj (λ_=>true) A5e 1000 fz .nil _ _ _ _ _ _ trivial hx).2
def xi(n:Int):Pd:=.v (.int .i64 n)
def xb(b:Bool):Pd:=.v (.bool b)
end Go.SL
