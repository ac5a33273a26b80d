/- Commands: only the number of blocks matters. -/
import Derived.Test.YtmooflgfcebmaaaCa
namespace Go.Proofs.Ytmooflgfcebmaaa
set_option linter.unusedVariables false
set_option linter.unusedSimpArgs false
open Ab
set_option maxRecDepth 100000 in
theorem commandBlocks.walk {H : Type} {enc : TypeId × Value → H} {W : World} {base : Nat}
    (v : Value) (d : DataW H) (p : List MemPlace) (hv : Value.okWide Try.prog W .any base 44 v) (h : DataW.Trod enc Try.prog W 0 (fun _ => true) true 44 v d p) (_hw : ∀ n ∈ d.weights Try.prog 44, n ≤ 140737488351232)
    (v1 : Value) (d1 : DataW H) (p1 : List MemPlace) (hv1 : Value.okWide Try.prog W .any base 44 v1) (h1 : DataW.Trod enc Try.prog W 0 (fun _ => true) true 44 v1 d1 p1) (_hw1 : ∀ n ∈ d1.weights Try.prog 44, n ≤ 140737488351232)
    (v2 : Value) (d2 : DataW H) (p2 : List MemPlace) (hv2 : Value.okWide Try.prog W .any base 34 v2) (h2 : DataW.Trod enc Try.prog W 0 (fun _ => true) true 34 v2 d2 p2) (_hw2 : ∀ n ∈ d2.weights Try.prog 34, n ≤ 140737488351232)
    (a3 : Int) (w3 : (Lit.int .u8 a3).wf = true)
    (W' : World) (hW : W' = W := by rfl) : Calls Try.prog 8 #[v, v1, v2, .int .u8 a3] W' (True1 W') := by
  subst hW
  obtain ⟨r0, q0, q0'⟩ := open_agg tabOk 6 (t := 44) (by decide +kernel) (by rfl) hv h
  obtain ⟨c1, c2, c3, c4, c5, c6, rfl, hc⟩ := config_of (d := 4) q0
  obtain ⟨r1, q1, q1'⟩ := open_agg tabOk 6 (t := 44) (by decide +kernel) (by rfl) hv1 h1
  obtain ⟨e1, e2, e3, e4, e5, e6, rfl, _⟩ := config_of (d := 4) q1
  obtain ⟨r2, q2, q2'⟩ := open_agg tabOk 6 (t := 34) (by decide +kernel) (by rfl) hv2 h2
  obtain ⟨k, b, s, rfl, hs⟩ := command_of (d := 4) q2
  have hB := bounds_i64 hc
  exact law_of_fun (cmBlocksF c1 c2 c3 c4 c5 c6 e1 e2 e3 e4 e5 e6 k b s a3 hB.1 (bounds_u8 w3) hs) rfl (reps_get (vs := [_, _, _, _]) ⟨q0' _ _, q1' _ _, q2' _ _, .sc _ rfl, trivial⟩)
end Go.Proofs.Ytmooflgfcebmaaa
