import Derived.Shelf.Strconv.ErrVarAll
import Derived.Test.YtaplakgdkkmpfaaGreatDoorSp
import Derived.Test.YtaplakgdkkmpfaaGreatDoorSk
import Derived.Test.YtaplakgdkkmpfaaGreatDoorTy
set_option linter.unusedVariables false
set_option linter.unusedSimpArgs false
namespace Go.Proofs.YtaplakgdkkmpfaaGreatDoor
open Go Go.RowKit Go.Shelf Go.SL Go.Maps Go.WideMaps
def Gs (s:List UInt8):Int:=match kw.idxOf? s with
 | some i=>((i:Nat):Int)+1
 | none=>0
def Uf:List (Lit×DataW Unit):=[(.string [97,99,116],.lit (.int .i64 1)),(.string [98,114,101,97,107],.lit (.int .i64 2)),(.string [102,105,120],.lit (.int .i64 5)),(.string [109,101,110,100],.lit (.int .i64 3)),(.string [114,101,113,117,101,115,116],.lit (.int .i64 6)),(.string [115,101,101,110],.lit (.int .i64 7)),(.string [116,105,99,107],.lit (.int .i64 8)),(.string [119,101,97,116,104,101,114],.lit (.int .i64 4))]
theorem Zq:E7 8 = .map Uf:=by kernel_rfl
theorem jF (s:List UInt8) (h:s∈kw):(E7 8).atKey (.string s) (.lit (.int .i64 0)) = .lit (.int .i64 (Gs s)):=by
 rw [Zq]
 simp only [kw,ag,bN,or_false] at h
 rcases h with rfl | rfl | rfl | rfl | rfl | rfl | rfl | rfl <;> rfl
theorem Yt (s:List UInt8) (h:s∉kw):(E7 8).atKey (.string s) (.lit (.int .i64 0)) = .lit (.int .i64 (Gs s)):=by
 rw [Zq]
 have h1:Uf.find? (λ p=>p.1.sameKey (.string s))=none:=by
  rw [List.find?_eq_none]
  intro p hp
  simp only [Uf,ag,bN,or_false] at hp
  simp only [kw,ag,bN,or_false,not_or] at h
  obtain⟨h0,h1,h2,h3,h4,h5,h6,h7⟩:=h
  rcases hp with rfl | rfl | rfl | rfl | rfl | rfl | rfl | rfl <;> simp [Lit.sameKey] <;> (intro e;simp_all)
 have h2:kw.idxOf? s=none:=by rw [List.idxOf?_eq_none_iff];exact h
 unfold DataW.atKey Gs
 dsimp only
 rw [h1,h2]
theorem jG (s:List UInt8) (c:Int) (h:(E7 8).atKey (.string s) (.lit (.int .i64 0)) = .lit (.int .i64 c)):c=Gs s:=by
 have:(E7 8).atKey (.string s) (.lit (.int .i64 0)) = .lit (.int .i64 (Gs s)):=by
  by_cases hs:s∈kw
  ·exact jF s hs
  ·exact Yt s hs
 rw [this] at h
 cases h
 rfl
def U5 (w:World) (n:String):Prop:=∃ t p,w.var? Tryz.prog n=some #[.iface t p]
theorem uO (s : ByteArray) (w : World) (hs : s.size <= 281474976710656) (h1 : U5 w "strconv.ErrSyntax") (h2 : U5 w "strconv.ErrRange") :
  Calls Tryz.prog 50 #[.string s] w λ e w'=>Below w.heap.size w w'/\match Lib.atoiAll s.data.toList with
   | .ok v=>e = .returned (.tuple #[.int .i64 v,.nilIface])
   | _=>∃ x t p,e = .returned (.tuple #[.int .i64 x,.iface t p]):=by
 obtain⟨t1,p1,h1⟩:=h1
 obtain⟨t2,p2,h2⟩:=h2
 cases hq:Lib.atoiAll s.data.toList with
 | ok v=>
  refine (Tryz.strconv_Atoi_ok s (by omega) v hq w).mono λ e w' ⟨he,hw⟩=>⟨?_,he⟩
  rcases hw with rfl | ⟨t,rfl⟩
  ·exact Below.refl _ _
  ·exact⟨rfl,rfl,rfl,by rw [Lib.bytesWorld_size];omega,λ k hk=>Lib.bytesWorld_at_old _ _ _ _ hk⟩
 | «syntax»=>exact (Any.strconv_Atoi_syntax_var ch s hs hq t1 p1 w h1).mono λ e w' ⟨N,he,_,_,hb⟩=>⟨hb,_,_,_,he⟩
 | range=>exact (Any.strconv_Atoi_range_var ch s hs hq t2 p2 w h2).mono λ e w' ⟨N,he,_,_,hb⟩=>⟨hb,_,_,_,he⟩
end Go.Proofs.YtaplakgdkkmpfaaGreatDoor
