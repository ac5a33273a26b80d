/- The counters: the laws' sanity check, and that all functions do what the document says. -/
import Derived.Test.YtijajfldpaadnaaLo
namespace Go.Proofs.Ytijajfldpaadnaa.Ab
set_option linter.unusedVariables false
set_option linter.unusedSimpArgs false
open Go.RowKit

theorem cbegin_len (ls ps : List Int) (z : Int) : (cbegin ls ps z).1.length = ps.length := by unfold cbegin; split <;> simp
theorem cend_len (ls ps : List Int) (z : Int) : (cend ls ps z).1.length = ps.length := by unfold cend; split <;> simp
theorem cchange_len (ls ps : List Int) (z1 z2 : Int) (a b : Bool) : (cchange ls ps z1 z2 a b).1.length = ls.length := by
  unfold cchange
  split
  · rfl
  · cases a <;> cases b <;> (simp only [Bool.false_eq_true, if_false, if_true]; split <;> simp [cupd_len])
theorem cofL_len {z : Int} (es : List Ety) : ∀ {ls l2 : List Int}, cofL z es ls = some l2 → l2.length = ls.length := by
  induction es with
  | nil => intro ls l2 h; simp only [cofL] at h; injection h with h; rw [h]
  | cons e es ih =>
    intro ls l2 h
    simp only [cofL] at h
    split at h
    · rw [ih h, cupd_len]
    · cases h
theorem cof_len (z : Int) (es : List Ety) : (cof z es).1.1.length ≤ 1000000 ∧ (cof z es).1.2.length ≤ 1000000 := by
  unfold cof
  split
  · split
    · rename_i l2 h
      have := cofL_len es h
      simp only [List.length_replicate] at this ⊢
      omega
    · exact ⟨by simp, by simp⟩
  · exact ⟨by simp, by simp⟩

set_option maxRecDepth 100000 in
set_option maxHeartbeats 16000000 in
theorem livAgree (ls ps : List Int) (z : Int) (a b : Ety) (had has : Bool) (es : List Ety) (hl : ls.length + ps.length + es.length ≤ 300) : Fun Try.prog 37 [cntV ls ps, i64V z, eV a, eV b, bV had, bV has, slV (eR es)] [] (ATbool true) := by
  have b1 := cbegin_len ls ps z
  have b2 := cend_len ls ps z
  have b3 := cchange_len ls ps a.z b.z had has
  have b4 := cof_len z es
  refine fun_of_vc tabOk mixOk Try.func37 rfl (by rfl) (rs := [.tmp 14]) rfl rfl 140 ?_; rw [Try.ntmps37]
  (conv => whnf); repeat (first | (refine And.intro rfl ?_; conv => whnf) | (refine And.intro (fun _ => ?_) (fun h => Bool.noConfusion h); conv => whnf) | (refine And.intro (fun h => Bool.noConfusion h) (fun _ => ?_); conv => whnf))
  refine ⟨_, _, cbeginF ls ps z (by omega) (by omega), ?_⟩
  (conv => whnf); repeat (first | (refine And.intro rfl ?_; conv => whnf) | (refine And.intro (fun _ => ?_) (fun h => Bool.noConfusion h); conv => whnf) | (refine And.intro (fun h => Bool.noConfusion h) (fun _ => ?_); conv => whnf))
  refine ⟨_, _, cbeginF' ls ps z (by omega), ?_⟩
  (conv => whnf); repeat (first | (refine And.intro rfl ?_; conv => whnf) | (refine And.intro (fun _ => ?_) (fun h => Bool.noConfusion h); conv => whnf) | (refine And.intro (fun h => Bool.noConfusion h) (fun _ => ?_); conv => whnf))
  refine And.intro (fun h => by simp at h) (fun _ => ?_)
  (conv => whnf); repeat (first | (refine And.intro rfl ?_; conv => whnf) | (refine And.intro (fun _ => ?_) (fun h => Bool.noConfusion h); conv => whnf) | (refine And.intro (fun h => Bool.noConfusion h) (fun _ => ?_); conv => whnf))
  refine ⟨_, _, csameF ls _ (by omega) (by omega), ?_⟩
  (conv => whnf); repeat (first | (refine And.intro rfl ?_; conv => whnf) | (refine And.intro (fun _ => ?_) (fun h => Bool.noConfusion h); conv => whnf) | (refine And.intro (fun h => Bool.noConfusion h) (fun _ => ?_); conv => whnf))
  refine ⟨_, _, cvalidF ls ps, ?_⟩
  (conv => whnf); repeat (first | (refine And.intro rfl ?_; conv => whnf) | (refine And.intro (fun _ => ?_) (fun h => Bool.noConfusion h); conv => whnf) | (refine And.intro (fun h => Bool.noConfusion h) (fun _ => ?_); conv => whnf))
  refine ⟨_, _, cvalidF' ls ps, ?_⟩
  (conv => whnf); repeat (first | (refine And.intro rfl ?_; conv => whnf) | (refine And.intro (fun _ => ?_) (fun h => Bool.noConfusion h); conv => whnf) | (refine And.intro (fun h => Bool.noConfusion h) (fun _ => ?_); conv => whnf))
  refine And.intro (fun h => by simp at h) (fun _ => ?_)
  (conv => whnf); repeat (first | (refine And.intro rfl ?_; conv => whnf) | (refine And.intro (fun _ => ?_) (fun h => Bool.noConfusion h); conv => whnf) | (refine And.intro (fun h => Bool.noConfusion h) (fun _ => ?_); conv => whnf))
  refine ⟨_, _, cendF ls ps z (by omega) (by omega), ?_⟩
  (conv => whnf); repeat (first | (refine And.intro rfl ?_; conv => whnf) | (refine And.intro (fun _ => ?_) (fun h => Bool.noConfusion h); conv => whnf) | (refine And.intro (fun h => Bool.noConfusion h) (fun _ => ?_); conv => whnf))
  refine ⟨_, _, cendF' ls ps z (by omega), ?_⟩
  (conv => whnf); repeat (first | (refine And.intro rfl ?_; conv => whnf) | (refine And.intro (fun _ => ?_) (fun h => Bool.noConfusion h); conv => whnf) | (refine And.intro (fun h => Bool.noConfusion h) (fun _ => ?_); conv => whnf))
  refine And.intro (fun h => by simp at h) (fun _ => ?_)
  (conv => whnf); repeat (first | (refine And.intro rfl ?_; conv => whnf) | (refine And.intro (fun _ => ?_) (fun h => Bool.noConfusion h); conv => whnf) | (refine And.intro (fun h => Bool.noConfusion h) (fun _ => ?_); conv => whnf))
  refine ⟨_, _, csameF ls _ (by omega) (by omega), ?_⟩
  (conv => whnf); repeat (first | (refine And.intro rfl ?_; conv => whnf) | (refine And.intro (fun _ => ?_) (fun h => Bool.noConfusion h); conv => whnf) | (refine And.intro (fun h => Bool.noConfusion h) (fun _ => ?_); conv => whnf))
  refine ⟨_, _, cchangeF ls ps a b had has (by omega) (by omega), ?_⟩
  (conv => whnf); repeat (first | (refine And.intro rfl ?_; conv => whnf) | (refine And.intro (fun _ => ?_) (fun h => Bool.noConfusion h); conv => whnf) | (refine And.intro (fun h => Bool.noConfusion h) (fun _ => ?_); conv => whnf))
  refine ⟨_, _, cchangeF' ls ps a b had has (by omega), ?_⟩
  (conv => whnf); repeat (first | (refine And.intro rfl ?_; conv => whnf) | (refine And.intro (fun _ => ?_) (fun h => Bool.noConfusion h); conv => whnf) | (refine And.intro (fun h => Bool.noConfusion h) (fun _ => ?_); conv => whnf))
  refine And.intro (fun h => by simp at h) (fun _ => ?_)
  (conv => whnf); repeat (first | (refine And.intro rfl ?_; conv => whnf) | (refine And.intro (fun _ => ?_) (fun h => Bool.noConfusion h); conv => whnf) | (refine And.intro (fun h => Bool.noConfusion h) (fun _ => ?_); conv => whnf))
  refine ⟨_, _, csameF _ ps (by omega) (by omega), ?_⟩
  (conv => whnf); repeat (first | (refine And.intro rfl ?_; conv => whnf) | (refine And.intro (fun _ => ?_) (fun h => Bool.noConfusion h); conv => whnf) | (refine And.intro (fun h => Bool.noConfusion h) (fun _ => ?_); conv => whnf))
  refine ⟨_, _, cclearF ls ps z (by omega) (by omega), ?_⟩
  (conv => whnf); repeat (first | (refine And.intro rfl ?_; conv => whnf) | (refine And.intro (fun _ => ?_) (fun h => Bool.noConfusion h); conv => whnf) | (refine And.intro (fun h => Bool.noConfusion h) (fun _ => ?_); conv => whnf))
  refine ⟨_, _, cclearF' ls ps z, ?_⟩
  (conv => whnf); repeat (first | (refine And.intro rfl ?_; conv => whnf) | (refine And.intro (fun _ => ?_) (fun h => Bool.noConfusion h); conv => whnf) | (refine And.intro (fun h => Bool.noConfusion h) (fun _ => ?_); conv => whnf))
  refine And.intro (fun h => by simp at h) (fun _ => ?_)
  (conv => whnf); repeat (first | (refine And.intro rfl ?_; conv => whnf) | (refine And.intro (fun _ => ?_) (fun h => Bool.noConfusion h); conv => whnf) | (refine And.intro (fun h => Bool.noConfusion h) (fun _ => ?_); conv => whnf))
  refine ⟨_, _, csameF ls ps (by omega) (by omega), ?_⟩
  (conv => whnf); repeat (first | (refine And.intro rfl ?_; conv => whnf) | (refine And.intro (fun _ => ?_) (fun h => Bool.noConfusion h); conv => whnf) | (refine And.intro (fun h => Bool.noConfusion h) (fun _ => ?_); conv => whnf))
  refine ⟨_, _, cofF z es (by omega), ?_⟩
  (conv => whnf); repeat (first | (refine And.intro rfl ?_; conv => whnf) | (refine And.intro (fun _ => ?_) (fun h => Bool.noConfusion h); conv => whnf) | (refine And.intro (fun h => Bool.noConfusion h) (fun _ => ?_); conv => whnf))
  refine ⟨_, _, cofF' z es (by omega), ?_⟩
  (conv => whnf); repeat (first | (refine And.intro rfl ?_; conv => whnf) | (refine And.intro (fun _ => ?_) (fun h => Bool.noConfusion h); conv => whnf) | (refine And.intro (fun h => Bool.noConfusion h) (fun _ => ?_); conv => whnf))
  refine And.intro (fun _ => ?_) (fun h => by simp at h)
  (conv => whnf); repeat (first | (refine And.intro rfl ?_; conv => whnf) | (refine And.intro (fun _ => ?_) (fun h => Bool.noConfusion h); conv => whnf) | (refine And.intro (fun h => Bool.noConfusion h) (fun _ => ?_); conv => whnf))
  refine ⟨_, _, csameF _ _ b4.1 b4.2, ?_⟩
  (conv => whnf); repeat (first | (refine And.intro rfl ?_; conv => whnf) | (refine And.intro (fun _ => ?_) (fun h => Bool.noConfusion h); conv => whnf) | (refine And.intro (fun h => Bool.noConfusion h) (fun _ => ?_); conv => whnf))
  refine Exists.intro [] (And.intro List.nodup_nil ?_); ((conv => whnf); repeat (first | (refine And.intro rfl ?_; conv => whnf) | (refine And.intro (fun _ => ?_) (fun h => Bool.noConfusion h); conv => whnf) | (refine And.intro (fun h => Bool.noConfusion h) (fun _ => ?_); conv => whnf)))
  rfl

theorem lw1 : cchange [0, 0, 0, 0, 0, 0] [0, 0, 0, 0, 0, 0] 0 2 false true = ([0, 0, 1, 0, 0, 0], true) := by decide
theorem lw2 : cchange [0, 0, 1, 0, 0, 0] [0, 0, 0, 0, 0, 0] 2 5 true true = ([0, 0, 0, 0, 0, 1], true) := by decide
theorem lw3 : cchange [0, 0, 0, 0, 0, 1] [0, 0, 0, 0, 0, 0] 2 5 true true = ([0, 0, 0, 0, 0, 1], false) := by decide
theorem lw0 : Fun Try.prog 26 [i64V 6] [] (.tup [cntV [0, 0, 0, 0, 0, 0] [0, 0, 0, 0, 0, 0], i64V 0]) := cnewF 6 (by decide)
theorem lwc1 : Fun Try.prog 30 [cntV [0, 0, 0, 0, 0, 0] [0, 0, 0, 0, 0, 0], eA 0 0 0 0 0 0, eA 0 0 0 0 2 0, bV false, bV true] [] (.tup [cntV [0, 0, 1, 0, 0, 0] [0, 0, 0, 0, 0, 0], bV true]) := by
  have h := cchangeF [0, 0, 0, 0, 0, 0] [0, 0, 0, 0, 0, 0] ⟨0, 0, 0, 0, 0, 0⟩ ⟨0, 0, 0, 0, 2, 0⟩ false true (by decide) (by decide)
  dsimp only at h
  rw [lw1] at h
  exact h
theorem lwc2 : Fun Try.prog 30 [cntV [0, 0, 1, 0, 0, 0] [0, 0, 0, 0, 0, 0], eA 0 0 0 0 2 0, eA 0 0 0 0 5 0, bV true, bV true] [] (.tup [cntV [0, 0, 0, 0, 0, 1] [0, 0, 0, 0, 0, 0], bV true]) := by
  have h := cchangeF [0, 0, 1, 0, 0, 0] [0, 0, 0, 0, 0, 0] ⟨0, 0, 0, 0, 2, 0⟩ ⟨0, 0, 0, 0, 5, 0⟩ true true (by decide) (by decide)
  dsimp only at h
  rw [lw2] at h
  exact h
theorem lwc3 : Fun Try.prog 30 [cntV [0, 0, 0, 0, 0, 1] [0, 0, 0, 0, 0, 0], eA 0 0 0 0 2 0, eA 0 0 0 0 5 0, bV true, bV true] [] (.tup [cntV [0, 0, 0, 0, 0, 1] [0, 0, 0, 0, 0, 0], bV false]) := by
  have h := cchangeF [0, 0, 0, 0, 0, 1] [0, 0, 0, 0, 0, 0] ⟨0, 0, 0, 0, 2, 0⟩ ⟨0, 0, 0, 0, 5, 0⟩ true true (by decide) (by decide)
  dsimp only at h
  rw [lw3] at h
  exact h
end Go.Proofs.Ytijajfldpaadnaa.Ab
