/- Commands: the document's answers. -/
import Derived.Test.YtmooflgfcebmaaaCa
namespace Go.Proofs.Ytmooflgfcebmaaa.Ab
set_option linter.unusedVariables false
set_option linter.unusedSimpArgs false
open Go.RowKit
set_option maxRecDepth 100000 in
set_option maxHeartbeats 8000000 in
theorem checkF' (a1 a2 B a4 a5 a6 k b : Int) (s : ByteArray) : Fun Try.prog 25 [cfV a1 a2 B a4 a5 a6, cmV k b s] [] (.v (i64V (chk B k b s.size))) := by
  have he2 : s.toList = [] ↔ s.size = 0 := by rw [Lib.toList_data, Lib.size_eq]; exact List.length_eq_zero_iff.symm
  refine fun_of_vc tabOk mixOk Try.func25 rfl (by rfl) (rs := [.tmp 4]) rfl rfl 60 ?_; rw [Try.ntmps25]
  (conv => whnf); repeat (first | (refine And.intro rfl ?_; conv => whnf) | (refine And.intro (fun _ => ?_) (fun h => Bool.noConfusion h); conv => whnf) | (refine And.intro (fun h => Bool.noConfusion h) (fun _ => ?_); conv => whnf))
  repeat' (first | ((refine And.intro (fun h => ?_) (fun h => ?_)) <;> (try simp at h) <;> ((conv => whnf); repeat (first | (refine And.intro rfl ?_; conv => whnf) | (refine And.intro (fun _ => ?_) (fun h => Bool.noConfusion h); conv => whnf) | (refine And.intro (fun h => Bool.noConfusion h) (fun _ => ?_); conv => whnf)))) | fail)
  all_goals (refine Exists.intro [] (And.intro List.nodup_nil ?_); ((conv => whnf); repeat (first | (refine And.intro rfl ?_; conv => whnf) | (refine And.intro (fun _ => ?_) (fun h => Bool.noConfusion h); conv => whnf) | (refine And.intro (fun h => Bool.noConfusion h) (fun _ => ?_); conv => whnf))))
  all_goals (refine congrArg (fun n => AT.v (i64V n)) ?_)
  all_goals (unfold chk)
  all_goals (repeat' split)
  all_goals (first | rfl | omega | (rw [he2] at h; omega))
theorem rowAt {w : World} {b n : Nat} {t : TypeId} {f : Nat → Value} (h : w.rowIs b t n f) {j : Nat} (hj : j < n) : w.cell? ⟨b, j, none⟩ = some (f j) := by
  exact h.cell hj
theorem zeroB : (⟨(List.replicate 16 (0 : UInt8)).toArray⟩ : ByteArray) = zeroS := by rfl
set_option maxRecDepth 100000 in
set_option maxHeartbeats 4000000 in
theorem zeroC (w : World) : Calls Try.prog 29 #[] w fun e w' => e = .returned (.string zeroS) ∧ Below w.heap.size w w' := by
  have hm : (Instr.makeSlice 64 (.int .i64 16) (.int .i64 16)).run Try.prog w = .ok (.slice (some ⟨w.heap.size, 0, none⟩) 16 16) (w.alloc (.cells (madeCells #[.int .u8 0] 16) 5)) :=
    run_make_row' 64 5 (.int .u8 0) 1 Try.underlying64 (by kernel_rfl) rfl .i64 .i64 16 (by decide) (by decide) w
  have hc : (convert 64 9 (.slice (some ⟨w.heap.size, 0, none⟩) 16 16)).run Try.prog (w.alloc (.cells (madeCells #[.int .u8 0] 16) 5)) = .ok (.string zeroS) (w.alloc (.cells (madeCells #[.int .u8 0] 16) 5)) := by
    rw [← zeroB]
    refine run_convert_bytes_back _ 64 9 5 ⟨w.heap.size, 0, none⟩ 16 (List.replicate 16 0) Try.underlying64 Try.underlying5 Try.underlying9 (fun j hj => ?_)
    rw [add_at, List.getElem_replicate, Nat.zero_add]
    have h := World.rowIs_made w (.int .u8 0) 16 5
    exact rowAt h (by simpa using hj)
  go_enter Try.func29, Try.ntmps29
  go_wp2_with fail
  exact bodyPost_ret (v := .string zeroS) (by simp [results, Try.results29, go_sem]) rfl ⟨rfl, Below.alloc (Below.refl _ _) (Nat.le_refl _) _⟩
theorem zeroF' : Fun Try.prog 29 [] [] (.v (strV zeroS)) :=
  fun_of_calls (args := []) (v := .string zeroS) ⟨_, Try.func29, rfl, by rfl⟩ rfl zeroC
set_option maxRecDepth 100000 in
set_option maxHeartbeats 8000000 in
theorem cmExactF' (z : ByteArray) (h1 : Fun Try.prog 28 [] [] (.v (strV z))) (h2 : Fun Try.prog 29 [] [] (.v (strV z))) (a1 a2 B a4 a5 a6 k b : Int) (s : ByteArray) (hs : s.size ≤ 9223372036854775807) : Fun Try.prog 7 [cfV a1 a2 B a4 a5 a6, cmV k b s] [] (ATbool true) := by
  refine fun_of_vc tabOk mixOk Try.func7 rfl (by rfl) (rs := [.tmp 4]) rfl rfl 36 ?_; rw [Try.ntmps7]
  (conv => whnf); repeat (first | (refine And.intro rfl ?_; conv => whnf) | (refine And.intro (fun _ => ?_) (fun h => Bool.noConfusion h); conv => whnf) | (refine And.intro (fun h => Bool.noConfusion h) (fun _ => ?_); conv => whnf))
  refine And.intro (fun h => ?_) (fun h => ?_)
  · (conv => whnf); repeat (first | (refine And.intro rfl ?_; conv => whnf) | (refine And.intro (fun _ => ?_) (fun h => Bool.noConfusion h); conv => whnf) | (refine And.intro (fun h => Bool.noConfusion h) (fun _ => ?_); conv => whnf))
    refine ⟨_, _, cmAwake, ?_⟩
    (conv => whnf); repeat (first | (refine And.intro rfl ?_; conv => whnf) | (refine And.intro (fun _ => ?_) (fun h => Bool.noConfusion h); conv => whnf) | (refine And.intro (fun h => Bool.noConfusion h) (fun _ => ?_); conv => whnf))
    refine Exists.intro [] (And.intro List.nodup_nil ?_); ((conv => whnf); repeat (first | (refine And.intro rfl ?_; conv => whnf) | (refine And.intro (fun _ => ?_) (fun h => Bool.noConfusion h); conv => whnf) | (refine And.intro (fun h => Bool.noConfusion h) (fun _ => ?_); conv => whnf)))
    rfl
  (conv => whnf); repeat (first | (refine And.intro rfl ?_; conv => whnf) | (refine And.intro (fun _ => ?_) (fun h => Bool.noConfusion h); conv => whnf) | (refine And.intro (fun h => Bool.noConfusion h) (fun _ => ?_); conv => whnf))
  refine ⟨_, _, cmAwake, ?_⟩
  (conv => whnf); repeat (first | (refine And.intro rfl ?_; conv => whnf) | (refine And.intro (fun _ => ?_) (fun h => Bool.noConfusion h); conv => whnf) | (refine And.intro (fun h => Bool.noConfusion h) (fun _ => ?_); conv => whnf))
  refine ⟨_, _, checkF _ _ _ _ _ _ _ _ _, ?_⟩
  (conv => whnf); repeat (first | (refine And.intro rfl ?_; conv => whnf) | (refine And.intro (fun _ => ?_) (fun h => Bool.noConfusion h); conv => whnf) | (refine And.intro (fun h => Bool.noConfusion h) (fun _ => ?_); conv => whnf))
  refine ⟨_, _, checkF' _ _ _ _ _ _ _ _ _, ?_⟩
  (conv => whnf); repeat (first | (refine And.intro rfl ?_; conv => whnf) | (refine And.intro (fun _ => ?_) (fun h => Bool.noConfusion h); conv => whnf) | (refine And.intro (fun h => Bool.noConfusion h) (fun _ => ?_); conv => whnf))
  refine And.intro (fun _ => ?_) (fun h => by simp at h)
  (conv => whnf); repeat (first | (refine And.intro rfl ?_; conv => whnf) | (refine And.intro (fun _ => ?_) (fun h => Bool.noConfusion h); conv => whnf) | (refine And.intro (fun h => Bool.noConfusion h) (fun _ => ?_); conv => whnf))
  refine ⟨_, _, kindF _ _ _, ?_⟩
  (conv => whnf); repeat (first | (refine And.intro rfl ?_; conv => whnf) | (refine And.intro (fun _ => ?_) (fun h => Bool.noConfusion h); conv => whnf) | (refine And.intro (fun h => Bool.noConfusion h) (fun _ => ?_); conv => whnf))
  refine ⟨_, _, kindF' _ _ _, ?_⟩
  (conv => whnf); repeat (first | (refine And.intro rfl ?_; conv => whnf) | (refine And.intro (fun _ => ?_) (fun h => Bool.noConfusion h); conv => whnf) | (refine And.intro (fun h => Bool.noConfusion h) (fun _ => ?_); conv => whnf))
  refine And.intro (fun _ => ?_) (fun h => by simp at h)
  (conv => whnf); repeat (first | (refine And.intro rfl ?_; conv => whnf) | (refine And.intro (fun _ => ?_) (fun h => Bool.noConfusion h); conv => whnf) | (refine And.intro (fun h => Bool.noConfusion h) (fun _ => ?_); conv => whnf))
  refine ⟨_, _, h1, ?_⟩
  (conv => whnf); repeat (first | (refine And.intro rfl ?_; conv => whnf) | (refine And.intro (fun _ => ?_) (fun h => Bool.noConfusion h); conv => whnf) | (refine And.intro (fun h => Bool.noConfusion h) (fun _ => ?_); conv => whnf))
  refine ⟨_, _, h2, ?_⟩
  (conv => whnf); repeat (first | (refine And.intro rfl ?_; conv => whnf) | (refine And.intro (fun _ => ?_) (fun h => Bool.noConfusion h); conv => whnf) | (refine And.intro (fun h => Bool.noConfusion h) (fun _ => ?_); conv => whnf))
  refine Exists.intro [] (And.intro List.nodup_nil ?_); ((conv => whnf); repeat (first | (refine And.intro rfl ?_; conv => whnf) | (refine And.intro (fun _ => ?_) (fun h => Bool.noConfusion h); conv => whnf) | (refine And.intro (fun h => Bool.noConfusion h) (fun _ => ?_); conv => whnf)))
  exact congrArg ATbool (by simp)
end Go.Proofs.Ytmooflgfcebmaaa.Ab
namespace Go.Proofs.Ytmooflgfcebmaaa
set_option linter.unusedVariables false
set_option linter.unusedSimpArgs false
open Ab
set_option maxRecDepth 100000 in
theorem commandExact.walk {H : Type} {enc : TypeId × Value → H} {W : World} {base : Nat}
    (v : Value) (d : DataW H) (p : List MemPlace) (hv : Value.okWide Try.prog W .any base 44 v) (h : DataW.Trod enc Try.prog W 0 (fun _ => true) true 44 v d p) (_hw : ∀ n ∈ d.weights Try.prog 44, n ≤ 140737488351232)
    (v2 : Value) (d2 : DataW H) (p2 : List MemPlace) (hv2 : Value.okWide Try.prog W .any base 34 v2) (h2 : DataW.Trod enc Try.prog W 0 (fun _ => true) true 34 v2 d2 p2) (_hw2 : ∀ n ∈ d2.weights Try.prog 34, n ≤ 140737488351232)
    (W' : World) (hW : W' = W := by rfl) : Calls Try.prog 7 #[v, v2] W' (True1 W') := by
  subst hW
  obtain ⟨r0, q0, q0'⟩ := open_agg tabOk 6 (t := 44) (by decide +kernel) (by rfl) hv h
  obtain ⟨c1, c2, c3, c4, c5, c6, rfl, hc⟩ := config_of (d := 4) q0
  obtain ⟨r2, q2, q2'⟩ := open_agg tabOk 6 (t := 34) (by decide +kernel) (by rfl) hv2 h2
  obtain ⟨k, b, s, rfl, hs⟩ := command_of (d := 4) q2
  exact law_of_fun (cmExactF' zeroS zeroF zeroF' c1 c2 c3 c4 c5 c6 k b s hs) rfl (reps_get (vs := [_, _]) ⟨q0' _ _, q2' _ _, trivial⟩)
end Go.Proofs.Ytmooflgfcebmaaa
