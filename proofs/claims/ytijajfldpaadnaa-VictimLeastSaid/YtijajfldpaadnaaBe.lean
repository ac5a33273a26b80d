/- Numbers as bytes: Pad, the example, and the laws. -/
import Derived.Test.YtijajfldpaadnaaBd
namespace Go.Proofs.Ytijajfldpaadnaa.Ab
set_option linter.unusedVariables false
set_option linter.unusedSimpArgs false
open Go.RowKit

theorem cVb_zero (c : Nat) : bytesStr (List.replicate c 0) = sS (List.replicate c 0) := by
  rw [bytesStr_eq]
  congr 1
  rw [List.map_replicate]
  rfl
theorem spad_small {b : ByteArray} {n : Int} (h : n ≤ b.size) : spad b n = b := by unfold spad; rw [if_pos h]
theorem spad_more {b : ByteArray} {c : Nat} : spad b ((b.size : Int) + ((c + 1 : Nat) : Int)) = sS (sL b ++ List.replicate (c + 1) 0) := by
  unfold spad
  rw [if_neg (by omega)]
  congr 3
  omega
theorem sel (b : ByteArray) (n : Int) : n ≤ b.size ∨ ∃ c : Nat, n = (b.size : Int) + ((c + 1 : Nat) : Int) := by
  by_cases h : n ≤ b.size
  · exact Or.inl h
  · exact Or.inr ⟨(n - b.size - 1).toNat, by omega⟩
set_option maxRecDepth 100000 in
set_option maxHeartbeats 8000000 in
theorem padF' (b : ByteArray) (n : Int) (hb : b.size ≤ 1000000) (hn : n ≤ 1000000) : Fun Try.prog 138 [strV b, i64V n] [] (.v (strV (spad b n))) := by
  rcases sel b n with h | ⟨c, rfl⟩
  · rw [spad_small h]
    refine fun_of_vc tabOk mixOk Try.func138 rfl (by rfl) (rs := [.tmp 4]) rfl rfl 22 ?_; rw [Try.ntmps138]
    (conv => whnf); repeat (first | (refine And.intro DrawOk.go ?_; conv => whnf) | (refine And.intro rfl ?_; conv => whnf) | (refine And.intro (fun _ => ?_) (fun h => Bool.noConfusion h); conv => whnf) | (refine And.intro (fun h => Bool.noConfusion h) (fun _ => ?_); conv => whnf))
    refine And.intro (fun _ => ?_) (fun h2 => by have := of_decide_eq_false h2; omega)
    (conv => whnf); repeat (first | (refine And.intro DrawOk.go ?_; conv => whnf) | (refine And.intro rfl ?_; conv => whnf) | (refine And.intro (fun _ => ?_) (fun h => Bool.noConfusion h); conv => whnf) | (refine And.intro (fun h => Bool.noConfusion h) (fun _ => ?_); conv => whnf))
    refine Exists.intro [] (And.intro List.nodup_nil ?_); ((conv => whnf); repeat (first | (refine And.intro DrawOk.go ?_; conv => whnf) | (refine And.intro rfl ?_; conv => whnf) | (refine And.intro (fun _ => ?_) (fun h => Bool.noConfusion h); conv => whnf) | (refine And.intro (fun h => Bool.noConfusion h) (fun _ => ?_); conv => whnf)))
    rfl
  · rw [spad_more]
    have hw : iwrap .i64 ((b.size : Int) + ((c + 1 : Nat) : Int) - b.size) = ((c + 1 : Nat) : Int) := (w64_in (by omega)).trans (by omega)
    refine fun_of_vc tabOk mixOk Try.func138 rfl (by rfl) (rs := [.tmp 4]) rfl rfl 22 ?_; rw [Try.ntmps138]
    (conv => whnf); repeat (first | (refine And.intro DrawOk.go ?_; conv => whnf) | (refine And.intro rfl ?_; conv => whnf) | (refine And.intro (fun _ => ?_) (fun h => Bool.noConfusion h); conv => whnf) | (refine And.intro (fun h => Bool.noConfusion h) (fun _ => ?_); conv => whnf))
    refine And.intro (fun h2 => by have := of_decide_eq_true h2; omega) (fun _ => ?_)
    (conv => whnf); repeat (first | (refine And.intro DrawOk.go ?_; conv => whnf) | (refine And.intro rfl ?_; conv => whnf) | (refine And.intro (fun _ => ?_) (fun h => Bool.noConfusion h); conv => whnf) | (refine And.intro (fun h => Bool.noConfusion h) (fun _ => ?_); conv => whnf))
    rw [hw]
    refine ⟨by omega, rfl, bytes1 (by omega), by omega, ?_⟩
    (conv => whnf); repeat (first | (refine And.intro DrawOk.go ?_; conv => whnf) | (refine And.intro rfl ?_; conv => whnf) | (refine And.intro (fun _ => ?_) (fun h => Bool.noConfusion h); conv => whnf) | (refine And.intro (fun h => Bool.noConfusion h) (fun _ => ?_); conv => whnf))
    refine ⟨_, cVb_rep _, ?_⟩
    (conv => whnf); repeat (first | (refine And.intro DrawOk.go ?_; conv => whnf) | (refine And.intro rfl ?_; conv => whnf) | (refine And.intro (fun _ => ?_) (fun h => Bool.noConfusion h); conv => whnf) | (refine And.intro (fun h => Bool.noConfusion h) (fun _ => ?_); conv => whnf))
    rw [cVb_zero]
    refine ⟨by rw [sS_size, List.length_replicate]; omega, ?_⟩
    (conv => whnf); repeat (first | (refine And.intro DrawOk.go ?_; conv => whnf) | (refine And.intro rfl ?_; conv => whnf) | (refine And.intro (fun _ => ?_) (fun h => Bool.noConfusion h); conv => whnf) | (refine And.intro (fun h => Bool.noConfusion h) (fun _ => ?_); conv => whnf))
    refine Exists.intro [] (And.intro List.nodup_nil ?_); ((conv => whnf); repeat (first | (refine And.intro DrawOk.go ?_; conv => whnf) | (refine And.intro rfl ?_; conv => whnf) | (refine And.intro (fun _ => ?_) (fun h => Bool.noConfusion h); conv => whnf) | (refine And.intro (fun h => Bool.noConfusion h) (fun _ => ?_); conv => whnf)))
    exact congrArg (fun s => AT.v (strV s)) (by rw [← sS_append]; rfl)

end Go.Proofs.Ytijajfldpaadnaa.Ab
