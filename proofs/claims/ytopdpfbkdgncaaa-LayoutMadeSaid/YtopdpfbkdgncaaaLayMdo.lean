/- The law LayoutMade: its argument opened. -/
import Derived.Test.YtopdpfbkdgncaaaLayMade
import Derived.Test.YtopdpfbkdgncaaaLayDiv
namespace Go.Proofs.Ytopdpfbkdgncaaa
set_option linter.unusedVariables false
set_option linter.unusedSimpArgs false
open Go.ChangeShapes Go.WideShapes Go.RowKit Go.Deep Go.Joins

theorem layoutMade.walk {H : Type} {enc : TypeId × Value → H} {W0 : World} {base : Nat} (v : Value) (d : DataW H) (p : List MemPlace) (hv : Value.okWide Try.prog W0 .any base 41 v)
    (h : DataW.Trod enc Try.prog W0 0 (fun _ => true) true 41 v d p) (_hw : ∀ n ∈ d.weights Try.prog 41, n ≤ 140737488351232)
    (a1 : Int) (w1 : (Lit.int .i64 a1).wf = true) (a2 : Int) (w2 : (Lit.int .i64 a2).wf = true) (W : World) : Calls Try.prog 5 #[v, .int .i64 a1, .int .i64 a2] W (True1 W) := by
  obtain ⟨n0, n1, n2, n3, n4, n5, rfl, hb⟩ := layoutMade.open_ v d p hv h
  exact made_any n0 n1 n2 n3 n4 n5 a1 a2 W (hb _ (by simp)) (hb _ (by simp)) (hb _ (by simp)) (hb _ (by simp)) (hb _ (by simp)) (hb _ (by simp)) (bd_i64 w1) (bd_i64 w2)
end Go.Proofs.Ytopdpfbkdgncaaa
