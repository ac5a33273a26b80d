/- The counters: new ones. -/
import Derived.Test.YtijajfldpaadnaaLb
namespace Go.Proofs.Ytijajfldpaadnaa.Ab
set_option linter.unusedVariables false
set_option linter.unusedSimpArgs false
open Go.RowKit

theorem zeros (N : Nat) : List.replicate ((N : Int)).toNat [IV.sc (.int .i64 0)] = wV (List.replicate N 0) := by simp [wV]

set_option maxRecDepth 100000 in
set_option maxHeartbeats 8000000 in
theorem cnewF (N : Nat) (hN : 1 ≤ N ∧ N ≤ 32) : Fun Try.prog 26 [i64V N] [] (.tup [cntV (List.replicate N 0) (List.replicate N 0), i64V 0]) := by
  refine fun_of_vc tabOk mixOk Try.func26 rfl (by rfl) (rs := [.cell 2 34, .tmp 3]) rfl rfl 20 ?_; rw [Try.ntmps26]
  (conv => whnf); repeat (first | (refine And.intro rfl ?_; conv => whnf) | (refine And.intro (fun _ => ?_) (fun h => Bool.noConfusion h); conv => whnf) | (refine And.intro (fun h => Bool.noConfusion h) (fun _ => ?_); conv => whnf))
  refine And.intro (fun h => ?_) (fun _ => ?_)
  · have := of_decide_eq_true h; omega
  (conv => whnf); repeat (first | (refine And.intro rfl ?_; conv => whnf) | (refine And.intro (fun _ => ?_) (fun h => Bool.noConfusion h); conv => whnf) | (refine And.intro (fun h => Bool.noConfusion h) (fun _ => ?_); conv => whnf))
  refine And.intro (fun h => ?_) (fun _ => ?_)
  · have := of_decide_eq_true h; omega
  (conv => whnf); repeat (first | (refine And.intro rfl ?_; conv => whnf) | (refine And.intro (fun _ => ?_) (fun h => Bool.noConfusion h); conv => whnf) | (refine And.intro (fun h => Bool.noConfusion h) (fun _ => ?_); conv => whnf))
  refine ⟨by omega, rfl, ?_, by omega, ?_⟩
  · rw [Nat.mul_comm]; exact bytes_le (by decide) (by omega)
  (conv => whnf); repeat (first | (refine And.intro rfl ?_; conv => whnf) | (refine And.intro (fun _ => ?_) (fun h => Bool.noConfusion h); conv => whnf) | (refine And.intro (fun h => Bool.noConfusion h) (fun _ => ?_); conv => whnf))
  refine ⟨by omega, rfl, ?_, by omega, ?_⟩
  · rw [Nat.mul_comm]; exact bytes_le (by decide) (by omega)
  (conv => whnf); repeat (first | (refine And.intro rfl ?_; conv => whnf) | (refine And.intro (fun _ => ?_) (fun h => Bool.noConfusion h); conv => whnf) | (refine And.intro (fun h => Bool.noConfusion h) (fun _ => ?_); conv => whnf))
  refine Exists.intro [] (And.intro List.nodup_nil ?_); ((conv => whnf); repeat (first | (refine And.intro rfl ?_; conv => whnf) | (refine And.intro (fun _ => ?_) (fun h => Bool.noConfusion h); conv => whnf) | (refine And.intro (fun h => Bool.noConfusion h) (fun _ => ?_); conv => whnf)))
  exact congrArg (fun l => AT.tup [.agg [.i (.sl l), .i (.sl l)], i64V 0]) (zeros N)
set_option maxRecDepth 100000 in
set_option maxHeartbeats 8000000 in
theorem cnewX (n : Int) (hN : ¬ (1 ≤ n ∧ n ≤ 32)) : Fun Try.prog 26 [i64V n] [] (.tup [cntV [] [], i64V 1]) := by
  refine fun_of_vc tabOk mixOk Try.func26 rfl (by rfl) (rs := [.cell 2 34, .tmp 3]) rfl rfl 20 ?_; rw [Try.ntmps26]
  (conv => whnf); repeat (first | (refine And.intro rfl ?_; conv => whnf) | (refine And.intro (fun _ => ?_) (fun h => Bool.noConfusion h); conv => whnf) | (refine And.intro (fun h => Bool.noConfusion h) (fun _ => ?_); conv => whnf))
  refine And.intro (fun h => ?_) (fun h => ?_)
  · (conv => whnf); repeat (first | (refine And.intro rfl ?_; conv => whnf) | (refine And.intro (fun _ => ?_) (fun h => Bool.noConfusion h); conv => whnf) | (refine And.intro (fun h => Bool.noConfusion h) (fun _ => ?_); conv => whnf))
    refine Exists.intro [] (And.intro List.nodup_nil ?_); ((conv => whnf); repeat (first | (refine And.intro rfl ?_; conv => whnf) | (refine And.intro (fun _ => ?_) (fun h => Bool.noConfusion h); conv => whnf) | (refine And.intro (fun h => Bool.noConfusion h) (fun _ => ?_); conv => whnf)))
    rfl
  have h1 := of_decide_eq_false h
  (conv => whnf); repeat (first | (refine And.intro rfl ?_; conv => whnf) | (refine And.intro (fun _ => ?_) (fun h => Bool.noConfusion h); conv => whnf) | (refine And.intro (fun h => Bool.noConfusion h) (fun _ => ?_); conv => whnf))
  refine And.intro (fun h => ?_) (fun h => ?_)
  · (conv => whnf); repeat (first | (refine And.intro rfl ?_; conv => whnf) | (refine And.intro (fun _ => ?_) (fun h => Bool.noConfusion h); conv => whnf) | (refine And.intro (fun h => Bool.noConfusion h) (fun _ => ?_); conv => whnf))
    refine Exists.intro [] (And.intro List.nodup_nil ?_); ((conv => whnf); repeat (first | (refine And.intro rfl ?_; conv => whnf) | (refine And.intro (fun _ => ?_) (fun h => Bool.noConfusion h); conv => whnf) | (refine And.intro (fun h => Bool.noConfusion h) (fun _ => ?_); conv => whnf)))
    rfl
  · have h2 := of_decide_eq_false h; omega
set_option maxRecDepth 100000 in
set_option maxHeartbeats 8000000 in
theorem cnewF' (N : Nat) (hN : 1 ≤ N ∧ N ≤ 32) : Fun Try.prog 123 [i64V N] [] (.tup [cntV (List.replicate N 0) (List.replicate N 0), i64V 0]) := by
  refine fun_of_vc tabOk mixOk Try.func123 rfl (by rfl) (rs := [.cell 2 34, .tmp 3]) rfl rfl 20 ?_; rw [Try.ntmps123]
  (conv => whnf); repeat (first | (refine And.intro rfl ?_; conv => whnf) | (refine And.intro (fun _ => ?_) (fun h => Bool.noConfusion h); conv => whnf) | (refine And.intro (fun h => Bool.noConfusion h) (fun _ => ?_); conv => whnf))
  refine And.intro (fun h => ?_) (fun _ => ?_)
  · have := of_decide_eq_true h; omega
  (conv => whnf); repeat (first | (refine And.intro rfl ?_; conv => whnf) | (refine And.intro (fun _ => ?_) (fun h => Bool.noConfusion h); conv => whnf) | (refine And.intro (fun h => Bool.noConfusion h) (fun _ => ?_); conv => whnf))
  refine And.intro (fun h => ?_) (fun _ => ?_)
  · have := of_decide_eq_true h; omega
  (conv => whnf); repeat (first | (refine And.intro rfl ?_; conv => whnf) | (refine And.intro (fun _ => ?_) (fun h => Bool.noConfusion h); conv => whnf) | (refine And.intro (fun h => Bool.noConfusion h) (fun _ => ?_); conv => whnf))
  refine ⟨by omega, rfl, ?_, by omega, ?_⟩
  · rw [Nat.mul_comm]; exact bytes_le (by decide) (by omega)
  (conv => whnf); repeat (first | (refine And.intro rfl ?_; conv => whnf) | (refine And.intro (fun _ => ?_) (fun h => Bool.noConfusion h); conv => whnf) | (refine And.intro (fun h => Bool.noConfusion h) (fun _ => ?_); conv => whnf))
  refine ⟨by omega, rfl, ?_, by omega, ?_⟩
  · rw [Nat.mul_comm]; exact bytes_le (by decide) (by omega)
  (conv => whnf); repeat (first | (refine And.intro rfl ?_; conv => whnf) | (refine And.intro (fun _ => ?_) (fun h => Bool.noConfusion h); conv => whnf) | (refine And.intro (fun h => Bool.noConfusion h) (fun _ => ?_); conv => whnf))
  refine Exists.intro [] (And.intro List.nodup_nil ?_); ((conv => whnf); repeat (first | (refine And.intro rfl ?_; conv => whnf) | (refine And.intro (fun _ => ?_) (fun h => Bool.noConfusion h); conv => whnf) | (refine And.intro (fun h => Bool.noConfusion h) (fun _ => ?_); conv => whnf)))
  exact congrArg (fun l => AT.tup [.agg [.i (.sl l), .i (.sl l)], i64V 0]) (zeros N)
set_option maxRecDepth 100000 in
set_option maxHeartbeats 8000000 in
theorem cnewX' (n : Int) (hN : ¬ (1 ≤ n ∧ n ≤ 32)) : Fun Try.prog 123 [i64V n] [] (.tup [cntV [] [], i64V 1]) := by
  refine fun_of_vc tabOk mixOk Try.func123 rfl (by rfl) (rs := [.cell 2 34, .tmp 3]) rfl rfl 20 ?_; rw [Try.ntmps123]
  (conv => whnf); repeat (first | (refine And.intro rfl ?_; conv => whnf) | (refine And.intro (fun _ => ?_) (fun h => Bool.noConfusion h); conv => whnf) | (refine And.intro (fun h => Bool.noConfusion h) (fun _ => ?_); conv => whnf))
  refine And.intro (fun h => ?_) (fun h => ?_)
  · (conv => whnf); repeat (first | (refine And.intro rfl ?_; conv => whnf) | (refine And.intro (fun _ => ?_) (fun h => Bool.noConfusion h); conv => whnf) | (refine And.intro (fun h => Bool.noConfusion h) (fun _ => ?_); conv => whnf))
    refine Exists.intro [] (And.intro List.nodup_nil ?_); ((conv => whnf); repeat (first | (refine And.intro rfl ?_; conv => whnf) | (refine And.intro (fun _ => ?_) (fun h => Bool.noConfusion h); conv => whnf) | (refine And.intro (fun h => Bool.noConfusion h) (fun _ => ?_); conv => whnf)))
    rfl
  have h1 := of_decide_eq_false h
  (conv => whnf); repeat (first | (refine And.intro rfl ?_; conv => whnf) | (refine And.intro (fun _ => ?_) (fun h => Bool.noConfusion h); conv => whnf) | (refine And.intro (fun h => Bool.noConfusion h) (fun _ => ?_); conv => whnf))
  refine And.intro (fun h => ?_) (fun h => ?_)
  · (conv => whnf); repeat (first | (refine And.intro rfl ?_; conv => whnf) | (refine And.intro (fun _ => ?_) (fun h => Bool.noConfusion h); conv => whnf) | (refine And.intro (fun h => Bool.noConfusion h) (fun _ => ?_); conv => whnf))
    refine Exists.intro [] (And.intro List.nodup_nil ?_); ((conv => whnf); repeat (first | (refine And.intro rfl ?_; conv => whnf) | (refine And.intro (fun _ => ?_) (fun h => Bool.noConfusion h); conv => whnf) | (refine And.intro (fun h => Bool.noConfusion h) (fun _ => ?_); conv => whnf)))
    rfl
  · have h2 := of_decide_eq_false h; omega
end Go.Proofs.Ytijajfldpaadnaa.Ab
