import Derived.Test.YtaplakgdkkmpfaaGreatDoorRows
import Derived.Test.YtaplakgdkkmpfaaGreatDoorSk
import Derived.Test.YtaplakgdkkmpfaaGreatDoorSlW
import Derived.LaidLaws
import Derived.LaidSub
import Derived.Stop.LaidErr
namespace Go.Proofs.YtaplakgdkkmpfaaGreatDoor
open Go Go.RowKit Go.SL
abbrev M4 : List (String × DataW Unit) := [("math/bits.deBruijn32tab", Rows.laid_math_bits_deBruijn32tab), ("math/bits.deBruijn64tab", Rows.laid_math_bits_deBruijn64tab), ("internal/strconv.uint64pow10", Rows.laid_internal_strconv_uint64pow10), ("unicode/utf8.acceptRanges", Rows.laid_unicode_utf8_acceptRanges), ("strconv.ErrRange", Rows.laid_strconv_ErrRange), ("strconv.ErrSyntax", Rows.laid_strconv_ErrSyntax), ("unicode/utf8.first", Rows.laid_unicode_utf8_first)]
theorem vF:(Tryz.prog.globals[3]?).map (·.type)=some 156:=by kernel_rfl
theorem qS {W : World} (h : laidMet Tryz.prog M4 W) : Lib.TabIs Tryz.prog W "internal/strconv.uint64pow10" .u64 Lib.pow10Tab := by
 have h2 := h.filter (λ x => x.1 == "internal/strconv.uint64pow10")
 have e : List.filter (λ (x : String × DataW Unit) => x.1 == "internal/strconv.uint64pow10") M4 = [("internal/strconv.uint64pow10", Lib.tabData .u64 Lib.pow10Tab)] := by kernel_rfl
 rw [e] at h2
 exact Lib.tabIs_of_head N9 vF Tryz.underlying156 Tryz.underlying139 (by kernel_rfl) (by kernel_rfl) h2
theorem qM : "*" ++ "errors.errorString" = "*errors.errorString" := by decide
theorem yN (u : TypeId) (h : Tryz.prog.typeName? 3 u = some "*errors.errorString") : u = 162 :=
 typeName_ptr_named (nm := "errors.errorString") (by rw [qM]; kernel_rfl) (by kernel_rfl) (by decide) u (by rw [qM]; exact h)
theorem W9 {W:World} {n:String} {g:Nat} {text:List UInt8} (h:laidMet Tryz.prog M4 W) (hn:Tryz.prog.globalNamed n=some g) (ht:(Tryz.prog.globals[g]?).map (·.type)=some 69)
  (e : List.filter (λ (x : String × DataW Unit) => x.1 == n) M4 = [(n, .iface "*errors.errorString" (.ptr (.agg [.lit (.string text)])))]) : ∃ u p t fr, W.heap[g]? = some (.cells #[.iface u p] t fr) := by
 have h2:=h.filter (λ x=>x.1==n)
 rw [e] at h2
 obtain⟨a,s,hv,_⟩:=laid_sentinel (tp:=162) (te:=164) (ts:=9) h2 hn ht Tryz.underlying69 yN Tryz.underlying162 Tryz.underlying164 rfl rfl Tryz.underlying9 (by kernel_rfl) (by kernel_rfl)
 unfold World.var? at hv
 rw [hn] at hv
 simp only [aj] at hv
 split at hv
 ·rename_i cs t fr hq
  cases hv
  exact⟨_,_,t,fr,hq⟩
 ·cases hv
theorem glob {W:World} (h:laidMet Tryz.prog M4 W):Dn (old W) W:=by
 have ht:=qS h
 unfold Lib.TabIs World.var? at ht
 rw [N9] at ht
 simp only [aj] at ht
 obtain⟨vs,t,fr,hb,hv⟩:∃ vs t fr,W.heap[3]? = some (.cells vs t fr)/\vs=(Lib.pow10Tab.map λ z=>Value.int .u64 z).toArray:=by
  split at ht
  ·rename_i cs t fr hq
   exact⟨cs,t,fr,hq,aP ht⟩
  ·cases ht
 have hlt:3<W.heap.size:=(aI.1 hb).1
 have key:Co (old W) W ⟨3,0,none⟩ (Lib.pow10Tab.map λ z=>Pd.v (.int .u64 z)):=λ j d hj=>by
  rw [al] at hj
  obtain⟨z,h1,rfl⟩:=A5 hj
  refine⟨.int .u64 z,hlt,?_,.v _ rfl⟩
  rw [A3,aQ]
  have hc:W.cell? ⟨3,j,none⟩=vs[j]?:=by simp [World.cell?,hb]
  rw [hc,hv]
  simp [h1]
 refine⟨λ g cells hg=>?_,λ g hg=>?_⟩
 ·unfold N8 at hg
  split at hg
  ·obtain rfl:=aP hg
   exact⟨key,hlt,vs,t,fr,hb,by rw [hv];rfl⟩
  ·cases hg
 ·have hg':g=1\/g=2:=by
   unfold Ws at hg
   simp only [aR] at hg
   exact hg.imp ac ac
  rcases hg' with rfl | rfl
  ·obtain ⟨u, p, t, fr, hq⟩ := W9 h (n := "strconv.ErrSyntax") (text := [105, 110, 118, 97, 108, 105, 100, 32, 115, 121, 110, 116, 97, 120]) (by kernel_rfl) (by kernel_rfl) (by kernel_rfl)
   exact⟨(aI.1 hq).1,u,p,t,fr,hq⟩
  ·obtain ⟨u, p, t, fr, hq⟩ := W9 h (n := "strconv.ErrRange") (text := [118, 97, 108, 117, 101, 32, 111, 117, 116, 32, 111, 102, 32, 114, 97, 110, 103, 101]) (by kernel_rfl) (by kernel_rfl) (by kernel_rfl)
   exact⟨(aI.1 hq).1,u,p,t,fr,hq⟩
end Go.Proofs.YtaplakgdkkmpfaaGreatDoor
