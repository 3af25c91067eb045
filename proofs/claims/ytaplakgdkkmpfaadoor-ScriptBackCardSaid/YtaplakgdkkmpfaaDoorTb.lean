import Derived.Test.YtaplakgdkkmpfaaDoorRows
import Derived.Test.YtaplakgdkkmpfaaDoorSk
import Derived.Test.YtaplakgdkkmpfaaDoorSlW
import Derived.LaidLaws
import Derived.LaidSub
import Derived.Stop.LaidErr
namespace Go.Proofs.YtaplakgdkkmpfaaDoor
open Go Go.RowKit Go.SL
abbrev K3 : List (String × DataW Unit) := [("math/bits.deBruijn32tab", Rows.laid_math_bits_deBruijn32tab), ("math/bits.deBruijn64tab", Rows.laid_math_bits_deBruijn64tab), ("internal/strconv.uint64pow10", Rows.laid_internal_strconv_uint64pow10), ("unicode/utf8.acceptRanges", Rows.laid_unicode_utf8_acceptRanges), ("strconv.ErrRange", Rows.laid_strconv_ErrRange), ("strconv.ErrSyntax", Rows.laid_strconv_ErrSyntax), ("unicode/utf8.first", Rows.laid_unicode_utf8_first)]
theorem X4:(Tryd.prog.globals[3]?).map (·.type)=some 145:=by kernel_rfl
theorem W4 {W : World} (h : laidMet Tryd.prog K3 W) : Lib.TabIs Tryd.prog W "internal/strconv.uint64pow10" .u64 Lib.pow10Tab := by
 have h2 := h.filter (λ x => x.1 == "internal/strconv.uint64pow10")
 have e : List.filter (λ (x : String × DataW Unit) => x.1 == "internal/strconv.uint64pow10") K3 = [("internal/strconv.uint64pow10", Lib.tabData .u64 Lib.pow10Tab)] := by kernel_rfl
 rw [e] at h2
 exact Lib.tabIs_of_head L6 X4 Tryd.underlying145 Tryd.underlying128 (by kernel_rfl) (by kernel_rfl) h2
theorem Wv : "*" ++ "errors.errorString" = "*errors.errorString" := by decide
theorem Y0 (u : TypeId) (h : Tryd.prog.typeName? 3 u = some "*errors.errorString") : u = 151 :=
 typeName_ptr_named (nm := "errors.errorString") (by rw [Wv]; kernel_rfl) (by kernel_rfl) (by decide) u (by rw [Wv]; exact h)
theorem Tf {W:World} {n:String} {g:Nat} {text:List UInt8} (h:laidMet Tryd.prog K3 W) (hn:Tryd.prog.globalNamed n=some g) (ht:(Tryd.prog.globals[g]?).map (·.type)=some 61)
  (e : List.filter (λ (x : String × DataW Unit) => x.1 == n) K3 = [(n, .iface "*errors.errorString" (.ptr (.agg [.lit (.string text)])))]) : ∃ u p t fr, W.heap[g]? = some (.cells #[.iface u p] t fr) := by
 have h2:=h.filter (λ x=>x.1==n)
 rw [e] at h2
 obtain⟨a,s,hv,_⟩:=laid_sentinel (tp:=151) (te:=153) (ts:=9) h2 hn ht Tryd.underlying61 Y0 Tryd.underlying151 Tryd.underlying153 rfl rfl Tryd.underlying9 (by kernel_rfl) (by kernel_rfl)
 unfold World.var? at hv
 rw [hn] at hv
 simp only [az] at hv
 split at hv
 ·rename_i cs t fr hq
  cases hv
  exact⟨_,_,t,fr,hq⟩
 ·cases hv
theorem glob {W:World} (h:laidMet Tryd.prog K3 W):Db (old W) W:=by
 have ht:=W4 h
 unfold Lib.TabIs World.var? at ht
 rw [L6] at ht
 simp only [az] at ht
 obtain⟨vs,t,fr,hb,hv⟩:∃ vs t fr,W.heap[3]? = some (.cells vs t fr)/\vs=(Lib.pow10Tab.map λ z=>Value.int .u64 z).toArray:=by
  split at ht
  ·rename_i cs t fr hq
   exact⟨cs,t,fr,hq,aN ht⟩
  ·cases ht
 have hlt:3<W.heap.size:=(aD.1 hb).1
 have key:Cc (old W) W ⟨3,0,none⟩ (Lib.pow10Tab.map λ z=>Pd.v (.int .u64 z)):=λ j d hj=>by
  rw [ak] at hj
  obtain⟨z,h1,rfl⟩:=A3 hj
  refine⟨.int .u64 z,hlt,?_,.v _ rfl⟩
  rw [Ax,aS]
  have hc:W.cell? ⟨3,j,none⟩=vs[j]?:=by simp [World.cell?,hb]
  rw [hc,hv]
  simp [h1]
 refine⟨λ g cells hg=>?_,λ g hg=>?_⟩
 ·unfold L5 at hg
  split at hg
  ·obtain rfl:=aN hg
   exact⟨key,hlt,vs,t,fr,hb,by rw [hv];rfl⟩
  ·cases hg
 ·have hg':g=1\/g=2:=by
   unfold S5 at hg
   simp only [aK] at hg
   exact hg.imp ae ae
  rcases hg' with rfl | rfl
  ·obtain ⟨u, p, t, fr, hq⟩ := Tf h (n := "strconv.ErrSyntax") (text := [105, 110, 118, 97, 108, 105, 100, 32, 115, 121, 110, 116, 97, 120]) (by kernel_rfl) (by kernel_rfl) (by kernel_rfl)
   exact⟨(aD.1 hq).1,u,p,t,fr,hq⟩
  ·obtain ⟨u, p, t, fr, hq⟩ := Tf h (n := "strconv.ErrRange") (text := [118, 97, 108, 117, 101, 32, 111, 117, 116, 32, 111, 102, 32, 114, 97, 110, 103, 101]) (by kernel_rfl) (by kernel_rfl) (by kernel_rfl)
   exact⟨(aD.1 hq).1,u,p,t,fr,hq⟩
end Go.Proofs.YtaplakgdkkmpfaaDoor
