/- The layout: Check, Of, IsData; lists of numbers: has, Contains, BinarySearch, Insert. -/
import Derived.Test.YtijajfldpaadnaaPa
namespace Go.Proofs.Ytijajfldpaadnaa.Ab
set_option linter.unusedVariables false
set_option linter.unusedSimpArgs false
open Go.RowKit

theorem cfChk_bad {c : Cf} (h : ¬ ((3 ≤ c.s ∧ c.s ≤ 64) ∧ (1 ≤ c.z ∧ c.z ≤ 32) ∧ (1 ≤ c.b ∧ c.b ≤ 128) ∧ (1 ≤ c.q ∧ c.q ≤ 4) ∧ (1 ≤ c.d ∧ c.d ≤ 8) ∧ (1 ≤ c.h ∧ c.h ≤ 8))) : cfChk c = 1 := by unfold cfChk; rw [if_neg (fun hh => h (cfOk_iff.1 hh))]
set_option maxRecDepth 100000 in
set_option maxHeartbeats 16000000 in
theorem cfChkF (c : Cf) : Fun Try.prog 110 [cfV c] [] (.v (i64V (cfChk c))) := by
  have hbad := @cfChk_bad c
  have hgood : cfOk c = true → cfChk c = if lyData c < 6 ∨ lyCap c < 1 then 11 else 0 := fun h => by unfold cfChk; rw [if_pos h]
  have hok := @cfOk_iff c
  have sh := shapeF c
  unfold lyV at sh
  generalize lySlot c = x1 at sh
  generalize lyFirst c = x2 at sh
  generalize lyData c = x3 at sh hgood
  generalize lyCap c = x4 at sh hgood
  generalize cfChk c = R at hbad hgood ⊢
  generalize cfOk c = B at hgood hok
  obtain ⟨z, s, b, q, d, h⟩ := c
  dsimp only at hbad hok sh
  refine fun_of_vc tabOk mixOk Try.func110 rfl (by rfl) (rs := [.tmp 2]) rfl rfl 59 ?_; rw [Try.ntmps110]
  (conv => whnf); repeat (first | (refine And.intro DrawOk.go ?_; conv => whnf) | (refine And.intro rfl ?_; conv => whnf) | (refine And.intro (fun _ => ?_) (fun h => Bool.noConfusion h); conv => whnf) | (refine And.intro (fun h => Bool.noConfusion h) (fun _ => ?_); conv => whnf))
  refine vc_loop [1, 3] [1, 3] (X := Nat) (fun k gs => [(26, ATint k)]) (fun _ _ => []) (fun k => k ≤ 6 ∧ (1 ≤ k → 3 ≤ s ∧ s ≤ 64) ∧ (2 ≤ k → 1 ≤ z ∧ z ≤ 32) ∧ (3 ≤ k → 1 ≤ b ∧ b ≤ 128) ∧ (4 ≤ k → 1 ≤ q ∧ q ≤ 4) ∧ (5 ≤ k → 1 ≤ d ∧ d ≤ 8) ∧ (6 ≤ k → 1 ≤ h ∧ h ≤ 8)) (fun k => 6 - k) _ (Ghost.refl _) 0 ⟨by omega, by omega, by omega, by omega, by omega, by omega, by omega⟩ ?_ ?_
  · (refine And.intro rfl (And.intro rfl ?_)); (repeat' (first | exact trivial | exact rfl | apply And.intro | (refine congrArg (Value.int .i64) (w64_nat ?_); omega)))
  rintro gs k ⟨hk, h1, h2, h3, h4, h5, h6⟩
  have hk' : k = 0 ∨ k = 1 ∨ k = 2 ∨ k = 3 ∨ k = 4 ∨ k = 5 ∨ k = 6 := by omega
  rcases hk' with rfl | rfl | rfl | rfl | rfl | rfl | rfl
  rotate_right
  · have hB : B = true := hok.2 ⟨h1 (by omega), h2 (by omega), h3 (by omega), h4 (by omega), h5 (by omega), h6 (by omega)⟩
    have hR := hgood hB
    have sh' := sh (by have := (h1 (by omega)).1; omega)
    (conv => whnf); repeat (first | (refine And.intro DrawOk.go ?_; conv => whnf) | (refine And.intro rfl ?_; conv => whnf) | (refine And.intro (fun _ => ?_) (fun h => Bool.noConfusion h); conv => whnf) | (refine And.intro (fun h => Bool.noConfusion h) (fun _ => ?_); conv => whnf))
    repeat' (first | ((refine And.intro (fun h => ?_) (fun h => ?_)) <;> (try simp at h) <;> ((conv => whnf); repeat (first | (refine And.intro DrawOk.go ?_; conv => whnf) | (refine And.intro rfl ?_; conv => whnf) | (refine And.intro (fun _ => ?_) (fun h => Bool.noConfusion h); conv => whnf) | (refine And.intro (fun h => Bool.noConfusion h) (fun _ => ?_); conv => whnf)))) | (refine ⟨_, _, sh', ?_⟩; ((conv => whnf); repeat (first | (refine And.intro DrawOk.go ?_; conv => whnf) | (refine And.intro rfl ?_; conv => whnf) | (refine And.intro (fun _ => ?_) (fun h => Bool.noConfusion h); conv => whnf) | (refine And.intro (fun h => Bool.noConfusion h) (fun _ => ?_); conv => whnf)))) | fail)
    all_goals
      refine Exists.intro [] (And.intro List.nodup_nil ?_); ((conv => whnf); repeat (first | (refine And.intro DrawOk.go ?_; conv => whnf) | (refine And.intro rfl ?_; conv => whnf) | (refine And.intro (fun _ => ?_) (fun h => Bool.noConfusion h); conv => whnf) | (refine And.intro (fun h => Bool.noConfusion h) (fun _ => ?_); conv => whnf)))
      first
        | (rw [hR, if_pos (by omega)]; rfl)
        | (rw [hR, if_neg (by omega)]; rfl)
  · (conv => whnf); repeat (first | (refine And.intro DrawOk.go ?_; conv => whnf) | (refine And.intro rfl ?_; conv => whnf) | (refine And.intro (fun _ => ?_) (fun h => Bool.noConfusion h); conv => whnf) | (refine And.intro (fun h => Bool.noConfusion h) (fun _ => ?_); conv => whnf))
    repeat' (first | ((refine And.intro (fun h => ?_) (fun h => ?_)) <;> (try simp at h) <;> ((conv => whnf); repeat (first | (refine And.intro DrawOk.go ?_; conv => whnf) | (refine And.intro rfl ?_; conv => whnf) | (refine And.intro (fun _ => ?_) (fun h => Bool.noConfusion h); conv => whnf) | (refine And.intro (fun h => Bool.noConfusion h) (fun _ => ?_); conv => whnf)))) | (refine ⟨by show (0 : Int) ≤ 0; decide, by show (0 : Int).toNat < 6; decide, ?_⟩; ((conv => whnf); repeat (first | (refine And.intro DrawOk.go ?_; conv => whnf) | (refine And.intro rfl ?_; conv => whnf) | (refine And.intro (fun _ => ?_) (fun h => Bool.noConfusion h); conv => whnf) | (refine And.intro (fun h => Bool.noConfusion h) (fun _ => ?_); conv => whnf)))) | (refine ⟨by show (0 : Int) ≤ 0; decide, by show (0 : Int).toNat < 3; decide, ?_⟩; ((conv => whnf); repeat (first | (refine And.intro DrawOk.go ?_; conv => whnf) | (refine And.intro rfl ?_; conv => whnf) | (refine And.intro (fun _ => ?_) (fun h => Bool.noConfusion h); conv => whnf) | (refine And.intro (fun h => Bool.noConfusion h) (fun _ => ?_); conv => whnf)))) | (refine ⟨by show (0 : Int) ≤ 1; decide, by show (1 : Int).toNat < 3; decide, ?_⟩; ((conv => whnf); repeat (first | (refine And.intro DrawOk.go ?_; conv => whnf) | (refine And.intro rfl ?_; conv => whnf) | (refine And.intro (fun _ => ?_) (fun h => Bool.noConfusion h); conv => whnf) | (refine And.intro (fun h => Bool.noConfusion h) (fun _ => ?_); conv => whnf)))) | (refine ⟨by show (0 : Int) ≤ 2; decide, by show (2 : Int).toNat < 3; decide, ?_⟩; ((conv => whnf); repeat (first | (refine And.intro DrawOk.go ?_; conv => whnf) | (refine And.intro rfl ?_; conv => whnf) | (refine And.intro (fun _ => ?_) (fun h => Bool.noConfusion h); conv => whnf) | (refine And.intro (fun h => Bool.noConfusion h) (fun _ => ?_); conv => whnf)))) | fail)
    all_goals first
      | (refine again (0 + 1) ⟨by omega, by omega, by omega, by omega, by omega, by omega, by omega⟩ (by omega) ?_
         (refine And.intro rfl (And.intro rfl ?_)); (repeat' (first | exact trivial | exact rfl | apply And.intro | (refine congrArg (Value.int .i64) (w64_nat ?_); omega))))
      | (refine Exists.intro [] (And.intro List.nodup_nil ?_); ((conv => whnf); repeat (first | (refine And.intro DrawOk.go ?_; conv => whnf) | (refine And.intro rfl ?_; conv => whnf) | (refine And.intro (fun _ => ?_) (fun h => Bool.noConfusion h); conv => whnf) | (refine And.intro (fun h => Bool.noConfusion h) (fun _ => ?_); conv => whnf)))
         rw [hbad (by omega)]
         rfl)
  · (conv => whnf); repeat (first | (refine And.intro DrawOk.go ?_; conv => whnf) | (refine And.intro rfl ?_; conv => whnf) | (refine And.intro (fun _ => ?_) (fun h => Bool.noConfusion h); conv => whnf) | (refine And.intro (fun h => Bool.noConfusion h) (fun _ => ?_); conv => whnf))
    repeat' (first | ((refine And.intro (fun h => ?_) (fun h => ?_)) <;> (try simp at h) <;> ((conv => whnf); repeat (first | (refine And.intro DrawOk.go ?_; conv => whnf) | (refine And.intro rfl ?_; conv => whnf) | (refine And.intro (fun _ => ?_) (fun h => Bool.noConfusion h); conv => whnf) | (refine And.intro (fun h => Bool.noConfusion h) (fun _ => ?_); conv => whnf)))) | (refine ⟨by show (0 : Int) ≤ 1; decide, by show (1 : Int).toNat < 6; decide, ?_⟩; ((conv => whnf); repeat (first | (refine And.intro DrawOk.go ?_; conv => whnf) | (refine And.intro rfl ?_; conv => whnf) | (refine And.intro (fun _ => ?_) (fun h => Bool.noConfusion h); conv => whnf) | (refine And.intro (fun h => Bool.noConfusion h) (fun _ => ?_); conv => whnf)))) | (refine ⟨by show (0 : Int) ≤ 0; decide, by show (0 : Int).toNat < 3; decide, ?_⟩; ((conv => whnf); repeat (first | (refine And.intro DrawOk.go ?_; conv => whnf) | (refine And.intro rfl ?_; conv => whnf) | (refine And.intro (fun _ => ?_) (fun h => Bool.noConfusion h); conv => whnf) | (refine And.intro (fun h => Bool.noConfusion h) (fun _ => ?_); conv => whnf)))) | (refine ⟨by show (0 : Int) ≤ 1; decide, by show (1 : Int).toNat < 3; decide, ?_⟩; ((conv => whnf); repeat (first | (refine And.intro DrawOk.go ?_; conv => whnf) | (refine And.intro rfl ?_; conv => whnf) | (refine And.intro (fun _ => ?_) (fun h => Bool.noConfusion h); conv => whnf) | (refine And.intro (fun h => Bool.noConfusion h) (fun _ => ?_); conv => whnf)))) | (refine ⟨by show (0 : Int) ≤ 2; decide, by show (2 : Int).toNat < 3; decide, ?_⟩; ((conv => whnf); repeat (first | (refine And.intro DrawOk.go ?_; conv => whnf) | (refine And.intro rfl ?_; conv => whnf) | (refine And.intro (fun _ => ?_) (fun h => Bool.noConfusion h); conv => whnf) | (refine And.intro (fun h => Bool.noConfusion h) (fun _ => ?_); conv => whnf)))) | fail)
    all_goals first
      | (refine again (1 + 1) ⟨by omega, by omega, by omega, by omega, by omega, by omega, by omega⟩ (by omega) ?_
         (refine And.intro rfl (And.intro rfl ?_)); (repeat' (first | exact trivial | exact rfl | apply And.intro | (refine congrArg (Value.int .i64) (w64_nat ?_); omega))))
      | (refine Exists.intro [] (And.intro List.nodup_nil ?_); ((conv => whnf); repeat (first | (refine And.intro DrawOk.go ?_; conv => whnf) | (refine And.intro rfl ?_; conv => whnf) | (refine And.intro (fun _ => ?_) (fun h => Bool.noConfusion h); conv => whnf) | (refine And.intro (fun h => Bool.noConfusion h) (fun _ => ?_); conv => whnf)))
         rw [hbad (by omega)]
         rfl)
  · (conv => whnf); repeat (first | (refine And.intro DrawOk.go ?_; conv => whnf) | (refine And.intro rfl ?_; conv => whnf) | (refine And.intro (fun _ => ?_) (fun h => Bool.noConfusion h); conv => whnf) | (refine And.intro (fun h => Bool.noConfusion h) (fun _ => ?_); conv => whnf))
    repeat' (first | ((refine And.intro (fun h => ?_) (fun h => ?_)) <;> (try simp at h) <;> ((conv => whnf); repeat (first | (refine And.intro DrawOk.go ?_; conv => whnf) | (refine And.intro rfl ?_; conv => whnf) | (refine And.intro (fun _ => ?_) (fun h => Bool.noConfusion h); conv => whnf) | (refine And.intro (fun h => Bool.noConfusion h) (fun _ => ?_); conv => whnf)))) | (refine ⟨by show (0 : Int) ≤ 2; decide, by show (2 : Int).toNat < 6; decide, ?_⟩; ((conv => whnf); repeat (first | (refine And.intro DrawOk.go ?_; conv => whnf) | (refine And.intro rfl ?_; conv => whnf) | (refine And.intro (fun _ => ?_) (fun h => Bool.noConfusion h); conv => whnf) | (refine And.intro (fun h => Bool.noConfusion h) (fun _ => ?_); conv => whnf)))) | (refine ⟨by show (0 : Int) ≤ 0; decide, by show (0 : Int).toNat < 3; decide, ?_⟩; ((conv => whnf); repeat (first | (refine And.intro DrawOk.go ?_; conv => whnf) | (refine And.intro rfl ?_; conv => whnf) | (refine And.intro (fun _ => ?_) (fun h => Bool.noConfusion h); conv => whnf) | (refine And.intro (fun h => Bool.noConfusion h) (fun _ => ?_); conv => whnf)))) | (refine ⟨by show (0 : Int) ≤ 1; decide, by show (1 : Int).toNat < 3; decide, ?_⟩; ((conv => whnf); repeat (first | (refine And.intro DrawOk.go ?_; conv => whnf) | (refine And.intro rfl ?_; conv => whnf) | (refine And.intro (fun _ => ?_) (fun h => Bool.noConfusion h); conv => whnf) | (refine And.intro (fun h => Bool.noConfusion h) (fun _ => ?_); conv => whnf)))) | (refine ⟨by show (0 : Int) ≤ 2; decide, by show (2 : Int).toNat < 3; decide, ?_⟩; ((conv => whnf); repeat (first | (refine And.intro DrawOk.go ?_; conv => whnf) | (refine And.intro rfl ?_; conv => whnf) | (refine And.intro (fun _ => ?_) (fun h => Bool.noConfusion h); conv => whnf) | (refine And.intro (fun h => Bool.noConfusion h) (fun _ => ?_); conv => whnf)))) | fail)
    all_goals first
      | (refine again (2 + 1) ⟨by omega, by omega, by omega, by omega, by omega, by omega, by omega⟩ (by omega) ?_
         (refine And.intro rfl (And.intro rfl ?_)); (repeat' (first | exact trivial | exact rfl | apply And.intro | (refine congrArg (Value.int .i64) (w64_nat ?_); omega))))
      | (refine Exists.intro [] (And.intro List.nodup_nil ?_); ((conv => whnf); repeat (first | (refine And.intro DrawOk.go ?_; conv => whnf) | (refine And.intro rfl ?_; conv => whnf) | (refine And.intro (fun _ => ?_) (fun h => Bool.noConfusion h); conv => whnf) | (refine And.intro (fun h => Bool.noConfusion h) (fun _ => ?_); conv => whnf)))
         rw [hbad (by omega)]
         rfl)
  · (conv => whnf); repeat (first | (refine And.intro DrawOk.go ?_; conv => whnf) | (refine And.intro rfl ?_; conv => whnf) | (refine And.intro (fun _ => ?_) (fun h => Bool.noConfusion h); conv => whnf) | (refine And.intro (fun h => Bool.noConfusion h) (fun _ => ?_); conv => whnf))
    repeat' (first | ((refine And.intro (fun h => ?_) (fun h => ?_)) <;> (try simp at h) <;> ((conv => whnf); repeat (first | (refine And.intro DrawOk.go ?_; conv => whnf) | (refine And.intro rfl ?_; conv => whnf) | (refine And.intro (fun _ => ?_) (fun h => Bool.noConfusion h); conv => whnf) | (refine And.intro (fun h => Bool.noConfusion h) (fun _ => ?_); conv => whnf)))) | (refine ⟨by show (0 : Int) ≤ 3; decide, by show (3 : Int).toNat < 6; decide, ?_⟩; ((conv => whnf); repeat (first | (refine And.intro DrawOk.go ?_; conv => whnf) | (refine And.intro rfl ?_; conv => whnf) | (refine And.intro (fun _ => ?_) (fun h => Bool.noConfusion h); conv => whnf) | (refine And.intro (fun h => Bool.noConfusion h) (fun _ => ?_); conv => whnf)))) | (refine ⟨by show (0 : Int) ≤ 0; decide, by show (0 : Int).toNat < 3; decide, ?_⟩; ((conv => whnf); repeat (first | (refine And.intro DrawOk.go ?_; conv => whnf) | (refine And.intro rfl ?_; conv => whnf) | (refine And.intro (fun _ => ?_) (fun h => Bool.noConfusion h); conv => whnf) | (refine And.intro (fun h => Bool.noConfusion h) (fun _ => ?_); conv => whnf)))) | (refine ⟨by show (0 : Int) ≤ 1; decide, by show (1 : Int).toNat < 3; decide, ?_⟩; ((conv => whnf); repeat (first | (refine And.intro DrawOk.go ?_; conv => whnf) | (refine And.intro rfl ?_; conv => whnf) | (refine And.intro (fun _ => ?_) (fun h => Bool.noConfusion h); conv => whnf) | (refine And.intro (fun h => Bool.noConfusion h) (fun _ => ?_); conv => whnf)))) | (refine ⟨by show (0 : Int) ≤ 2; decide, by show (2 : Int).toNat < 3; decide, ?_⟩; ((conv => whnf); repeat (first | (refine And.intro DrawOk.go ?_; conv => whnf) | (refine And.intro rfl ?_; conv => whnf) | (refine And.intro (fun _ => ?_) (fun h => Bool.noConfusion h); conv => whnf) | (refine And.intro (fun h => Bool.noConfusion h) (fun _ => ?_); conv => whnf)))) | fail)
    all_goals first
      | (refine again (3 + 1) ⟨by omega, by omega, by omega, by omega, by omega, by omega, by omega⟩ (by omega) ?_
         (refine And.intro rfl (And.intro rfl ?_)); (repeat' (first | exact trivial | exact rfl | apply And.intro | (refine congrArg (Value.int .i64) (w64_nat ?_); omega))))
      | (refine Exists.intro [] (And.intro List.nodup_nil ?_); ((conv => whnf); repeat (first | (refine And.intro DrawOk.go ?_; conv => whnf) | (refine And.intro rfl ?_; conv => whnf) | (refine And.intro (fun _ => ?_) (fun h => Bool.noConfusion h); conv => whnf) | (refine And.intro (fun h => Bool.noConfusion h) (fun _ => ?_); conv => whnf)))
         rw [hbad (by omega)]
         rfl)
  · (conv => whnf); repeat (first | (refine And.intro DrawOk.go ?_; conv => whnf) | (refine And.intro rfl ?_; conv => whnf) | (refine And.intro (fun _ => ?_) (fun h => Bool.noConfusion h); conv => whnf) | (refine And.intro (fun h => Bool.noConfusion h) (fun _ => ?_); conv => whnf))
    repeat' (first | ((refine And.intro (fun h => ?_) (fun h => ?_)) <;> (try simp at h) <;> ((conv => whnf); repeat (first | (refine And.intro DrawOk.go ?_; conv => whnf) | (refine And.intro rfl ?_; conv => whnf) | (refine And.intro (fun _ => ?_) (fun h => Bool.noConfusion h); conv => whnf) | (refine And.intro (fun h => Bool.noConfusion h) (fun _ => ?_); conv => whnf)))) | (refine ⟨by show (0 : Int) ≤ 4; decide, by show (4 : Int).toNat < 6; decide, ?_⟩; ((conv => whnf); repeat (first | (refine And.intro DrawOk.go ?_; conv => whnf) | (refine And.intro rfl ?_; conv => whnf) | (refine And.intro (fun _ => ?_) (fun h => Bool.noConfusion h); conv => whnf) | (refine And.intro (fun h => Bool.noConfusion h) (fun _ => ?_); conv => whnf)))) | (refine ⟨by show (0 : Int) ≤ 0; decide, by show (0 : Int).toNat < 3; decide, ?_⟩; ((conv => whnf); repeat (first | (refine And.intro DrawOk.go ?_; conv => whnf) | (refine And.intro rfl ?_; conv => whnf) | (refine And.intro (fun _ => ?_) (fun h => Bool.noConfusion h); conv => whnf) | (refine And.intro (fun h => Bool.noConfusion h) (fun _ => ?_); conv => whnf)))) | (refine ⟨by show (0 : Int) ≤ 1; decide, by show (1 : Int).toNat < 3; decide, ?_⟩; ((conv => whnf); repeat (first | (refine And.intro DrawOk.go ?_; conv => whnf) | (refine And.intro rfl ?_; conv => whnf) | (refine And.intro (fun _ => ?_) (fun h => Bool.noConfusion h); conv => whnf) | (refine And.intro (fun h => Bool.noConfusion h) (fun _ => ?_); conv => whnf)))) | (refine ⟨by show (0 : Int) ≤ 2; decide, by show (2 : Int).toNat < 3; decide, ?_⟩; ((conv => whnf); repeat (first | (refine And.intro DrawOk.go ?_; conv => whnf) | (refine And.intro rfl ?_; conv => whnf) | (refine And.intro (fun _ => ?_) (fun h => Bool.noConfusion h); conv => whnf) | (refine And.intro (fun h => Bool.noConfusion h) (fun _ => ?_); conv => whnf)))) | fail)
    all_goals first
      | (refine again (4 + 1) ⟨by omega, by omega, by omega, by omega, by omega, by omega, by omega⟩ (by omega) ?_
         (refine And.intro rfl (And.intro rfl ?_)); (repeat' (first | exact trivial | exact rfl | apply And.intro | (refine congrArg (Value.int .i64) (w64_nat ?_); omega))))
      | (refine Exists.intro [] (And.intro List.nodup_nil ?_); ((conv => whnf); repeat (first | (refine And.intro DrawOk.go ?_; conv => whnf) | (refine And.intro rfl ?_; conv => whnf) | (refine And.intro (fun _ => ?_) (fun h => Bool.noConfusion h); conv => whnf) | (refine And.intro (fun h => Bool.noConfusion h) (fun _ => ?_); conv => whnf)))
         rw [hbad (by omega)]
         rfl)
  · (conv => whnf); repeat (first | (refine And.intro DrawOk.go ?_; conv => whnf) | (refine And.intro rfl ?_; conv => whnf) | (refine And.intro (fun _ => ?_) (fun h => Bool.noConfusion h); conv => whnf) | (refine And.intro (fun h => Bool.noConfusion h) (fun _ => ?_); conv => whnf))
    repeat' (first | ((refine And.intro (fun h => ?_) (fun h => ?_)) <;> (try simp at h) <;> ((conv => whnf); repeat (first | (refine And.intro DrawOk.go ?_; conv => whnf) | (refine And.intro rfl ?_; conv => whnf) | (refine And.intro (fun _ => ?_) (fun h => Bool.noConfusion h); conv => whnf) | (refine And.intro (fun h => Bool.noConfusion h) (fun _ => ?_); conv => whnf)))) | (refine ⟨by show (0 : Int) ≤ 5; decide, by show (5 : Int).toNat < 6; decide, ?_⟩; ((conv => whnf); repeat (first | (refine And.intro DrawOk.go ?_; conv => whnf) | (refine And.intro rfl ?_; conv => whnf) | (refine And.intro (fun _ => ?_) (fun h => Bool.noConfusion h); conv => whnf) | (refine And.intro (fun h => Bool.noConfusion h) (fun _ => ?_); conv => whnf)))) | (refine ⟨by show (0 : Int) ≤ 0; decide, by show (0 : Int).toNat < 3; decide, ?_⟩; ((conv => whnf); repeat (first | (refine And.intro DrawOk.go ?_; conv => whnf) | (refine And.intro rfl ?_; conv => whnf) | (refine And.intro (fun _ => ?_) (fun h => Bool.noConfusion h); conv => whnf) | (refine And.intro (fun h => Bool.noConfusion h) (fun _ => ?_); conv => whnf)))) | (refine ⟨by show (0 : Int) ≤ 1; decide, by show (1 : Int).toNat < 3; decide, ?_⟩; ((conv => whnf); repeat (first | (refine And.intro DrawOk.go ?_; conv => whnf) | (refine And.intro rfl ?_; conv => whnf) | (refine And.intro (fun _ => ?_) (fun h => Bool.noConfusion h); conv => whnf) | (refine And.intro (fun h => Bool.noConfusion h) (fun _ => ?_); conv => whnf)))) | (refine ⟨by show (0 : Int) ≤ 2; decide, by show (2 : Int).toNat < 3; decide, ?_⟩; ((conv => whnf); repeat (first | (refine And.intro DrawOk.go ?_; conv => whnf) | (refine And.intro rfl ?_; conv => whnf) | (refine And.intro (fun _ => ?_) (fun h => Bool.noConfusion h); conv => whnf) | (refine And.intro (fun h => Bool.noConfusion h) (fun _ => ?_); conv => whnf)))) | fail)
    all_goals first
      | (refine again (5 + 1) ⟨by omega, by omega, by omega, by omega, by omega, by omega, by omega⟩ (by omega) ?_
         (refine And.intro rfl (And.intro rfl ?_)); (repeat' (first | exact trivial | exact rfl | apply And.intro | (refine congrArg (Value.int .i64) (w64_nat ?_); omega))))
      | (refine Exists.intro [] (And.intro List.nodup_nil ?_); ((conv => whnf); repeat (first | (refine And.intro DrawOk.go ?_; conv => whnf) | (refine And.intro rfl ?_; conv => whnf) | (refine And.intro (fun _ => ?_) (fun h => Bool.noConfusion h); conv => whnf) | (refine And.intro (fun h => Bool.noConfusion h) (fun _ => ?_); conv => whnf)))
         rw [hbad (by omega)]
         rfl)
set_option maxRecDepth 100000 in
set_option maxHeartbeats 16000000 in
theorem lyOfF (c : Cf) : Fun Try.prog 116 [cfV c] [] (.tup [lyOf c, i64V (cfChk c)]) := by
  have hc := cfChkF c
  by_cases h0 : cfChk c = 0
  · have hs : ¬ c.s = 0 := by
      intro hs
      have : cfChk c = 1 := cfChk_bad (by omega)
      omega
    have e : lyOf c = lyV c := by unfold lyOf; rw [if_pos h0]
    rw [h0] at hc ⊢
    rw [e]
    refine fun_of_vc tabOk mixOk Try.func116 rfl (by rfl) (rs := [.cell 2 113, .tmp 3]) rfl rfl 17 ?_; rw [Try.ntmps116]
    (conv => whnf); repeat (first | (refine And.intro DrawOk.go ?_; conv => whnf) | (refine And.intro rfl ?_; conv => whnf) | (refine And.intro (fun _ => ?_) (fun h => Bool.noConfusion h); conv => whnf) | (refine And.intro (fun h => Bool.noConfusion h) (fun _ => ?_); conv => whnf))
    refine ⟨_, _, hc, ?_⟩
    (conv => whnf); repeat (first | (refine And.intro DrawOk.go ?_; conv => whnf) | (refine And.intro rfl ?_; conv => whnf) | (refine And.intro (fun _ => ?_) (fun h => Bool.noConfusion h); conv => whnf) | (refine And.intro (fun h => Bool.noConfusion h) (fun _ => ?_); conv => whnf))
    refine ⟨_, _, shapeF c hs, ?_⟩
    (conv => whnf); repeat (first | (refine And.intro DrawOk.go ?_; conv => whnf) | (refine And.intro rfl ?_; conv => whnf) | (refine And.intro (fun _ => ?_) (fun h => Bool.noConfusion h); conv => whnf) | (refine And.intro (fun h => Bool.noConfusion h) (fun _ => ?_); conv => whnf))
    refine Exists.intro [] (And.intro List.nodup_nil ?_); ((conv => whnf); repeat (first | (refine And.intro DrawOk.go ?_; conv => whnf) | (refine And.intro rfl ?_; conv => whnf) | (refine And.intro (fun _ => ?_) (fun h => Bool.noConfusion h); conv => whnf) | (refine And.intro (fun h => Bool.noConfusion h) (fun _ => ?_); conv => whnf)))
    rfl
  · have e : lyOf c = ly0 := by unfold lyOf; rw [if_neg h0]
    rw [e]
    generalize cfChk c = R at h0 hc ⊢
    refine fun_of_vc tabOk mixOk Try.func116 rfl (by rfl) (rs := [.cell 2 113, .tmp 3]) rfl rfl 17 ?_; rw [Try.ntmps116]
    (conv => whnf); repeat (first | (refine And.intro DrawOk.go ?_; conv => whnf) | (refine And.intro rfl ?_; conv => whnf) | (refine And.intro (fun _ => ?_) (fun h => Bool.noConfusion h); conv => whnf) | (refine And.intro (fun h => Bool.noConfusion h) (fun _ => ?_); conv => whnf))
    refine ⟨_, _, hc, ?_⟩
    (conv => whnf); repeat (first | (refine And.intro DrawOk.go ?_; conv => whnf) | (refine And.intro rfl ?_; conv => whnf) | (refine And.intro (fun _ => ?_) (fun h => Bool.noConfusion h); conv => whnf) | (refine And.intro (fun h => Bool.noConfusion h) (fun _ => ?_); conv => whnf))
    refine And.intro (fun h => ?_) (fun h => absurd h (by simp [h0]))
    (conv => whnf); repeat (first | (refine And.intro DrawOk.go ?_; conv => whnf) | (refine And.intro rfl ?_; conv => whnf) | (refine And.intro (fun _ => ?_) (fun h => Bool.noConfusion h); conv => whnf) | (refine And.intro (fun h => Bool.noConfusion h) (fun _ => ?_); conv => whnf))
    refine Exists.intro [] (And.intro List.nodup_nil ?_); ((conv => whnf); repeat (first | (refine And.intro DrawOk.go ?_; conv => whnf) | (refine And.intro rfl ?_; conv => whnf) | (refine And.intro (fun _ => ?_) (fun h => Bool.noConfusion h); conv => whnf) | (refine And.intro (fun h => Bool.noConfusion h) (fun _ => ?_); conv => whnf)))
    rfl
set_option maxRecDepth 100000 in
set_option maxHeartbeats 16000000 in
theorem lyOfF' (c : Cf) : Fun Try.prog 59 [cfV c] [] (.tup [lyOf c, i64V (cfChk c)]) := by
  have hc := cfChkF' c
  by_cases h0 : cfChk c = 0
  · have hs : ¬ c.s = 0 := by
      intro hs
      have : cfChk c = 1 := cfChk_bad (by omega)
      omega
    have e : lyOf c = lyV c := by unfold lyOf; rw [if_pos h0]
    rw [h0] at hc ⊢
    rw [e]
    refine fun_of_vc tabOk mixOk Try.func59 rfl (by rfl) (rs := [.cell 2 113, .tmp 3]) rfl rfl 17 ?_; rw [Try.ntmps59]
    (conv => whnf); repeat (first | (refine And.intro DrawOk.go ?_; conv => whnf) | (refine And.intro rfl ?_; conv => whnf) | (refine And.intro (fun _ => ?_) (fun h => Bool.noConfusion h); conv => whnf) | (refine And.intro (fun h => Bool.noConfusion h) (fun _ => ?_); conv => whnf))
    refine ⟨_, _, hc, ?_⟩
    (conv => whnf); repeat (first | (refine And.intro DrawOk.go ?_; conv => whnf) | (refine And.intro rfl ?_; conv => whnf) | (refine And.intro (fun _ => ?_) (fun h => Bool.noConfusion h); conv => whnf) | (refine And.intro (fun h => Bool.noConfusion h) (fun _ => ?_); conv => whnf))
    refine ⟨_, _, shapeF' c hs, ?_⟩
    (conv => whnf); repeat (first | (refine And.intro DrawOk.go ?_; conv => whnf) | (refine And.intro rfl ?_; conv => whnf) | (refine And.intro (fun _ => ?_) (fun h => Bool.noConfusion h); conv => whnf) | (refine And.intro (fun h => Bool.noConfusion h) (fun _ => ?_); conv => whnf))
    refine Exists.intro [] (And.intro List.nodup_nil ?_); ((conv => whnf); repeat (first | (refine And.intro DrawOk.go ?_; conv => whnf) | (refine And.intro rfl ?_; conv => whnf) | (refine And.intro (fun _ => ?_) (fun h => Bool.noConfusion h); conv => whnf) | (refine And.intro (fun h => Bool.noConfusion h) (fun _ => ?_); conv => whnf)))
    rfl
  · have e : lyOf c = ly0 := by unfold lyOf; rw [if_neg h0]
    rw [e]
    generalize cfChk c = R at h0 hc ⊢
    refine fun_of_vc tabOk mixOk Try.func59 rfl (by rfl) (rs := [.cell 2 113, .tmp 3]) rfl rfl 17 ?_; rw [Try.ntmps59]
    (conv => whnf); repeat (first | (refine And.intro DrawOk.go ?_; conv => whnf) | (refine And.intro rfl ?_; conv => whnf) | (refine And.intro (fun _ => ?_) (fun h => Bool.noConfusion h); conv => whnf) | (refine And.intro (fun h => Bool.noConfusion h) (fun _ => ?_); conv => whnf))
    refine ⟨_, _, hc, ?_⟩
    (conv => whnf); repeat (first | (refine And.intro DrawOk.go ?_; conv => whnf) | (refine And.intro rfl ?_; conv => whnf) | (refine And.intro (fun _ => ?_) (fun h => Bool.noConfusion h); conv => whnf) | (refine And.intro (fun h => Bool.noConfusion h) (fun _ => ?_); conv => whnf))
    refine And.intro (fun h => ?_) (fun h => absurd h (by simp [h0]))
    (conv => whnf); repeat (first | (refine And.intro DrawOk.go ?_; conv => whnf) | (refine And.intro rfl ?_; conv => whnf) | (refine And.intro (fun _ => ?_) (fun h => Bool.noConfusion h); conv => whnf) | (refine And.intro (fun h => Bool.noConfusion h) (fun _ => ?_); conv => whnf))
    refine Exists.intro [] (And.intro List.nodup_nil ?_); ((conv => whnf); repeat (first | (refine And.intro DrawOk.go ?_; conv => whnf) | (refine And.intro rfl ?_; conv => whnf) | (refine And.intro (fun _ => ?_) (fun h => Bool.noConfusion h); conv => whnf) | (refine And.intro (fun h => Bool.noConfusion h) (fun _ => ?_); conv => whnf)))
    rfl
set_option maxRecDepth 100000 in
set_option maxHeartbeats 16000000 in
theorem isDataF (c : Cf) (n : Int) : Fun Try.prog 70 [cfV c, i64V n] [] (ATbool (isData c n)) := by
  have ho := lyOfF c
  by_cases h0 : cfChk c = 0
  · have e : lyOf c = lyV c := by unfold lyOf; rw [if_pos h0]
    have hd : isData c n = decide (lyFirst c ≤ n ∧ n < c.z) := by unfold isData; rw [decide_eq_decide]; constructor <;> (intro h; simp_all)
    rw [e, h0] at ho
    rw [hd]
    unfold lyV at ho
    generalize lySlot c = x1 at ho
    generalize lyFirst c = x2 at ho ⊢
    generalize lyData c = x3 at ho
    generalize lyCap c = x4 at ho
    refine fun_of_vc tabOk mixOk Try.func70 rfl (by rfl) (rs := [.tmp 4]) rfl rfl 30 ?_; rw [Try.ntmps70]
    (conv => whnf); repeat (first | (refine And.intro DrawOk.go ?_; conv => whnf) | (refine And.intro rfl ?_; conv => whnf) | (refine And.intro (fun _ => ?_) (fun h => Bool.noConfusion h); conv => whnf) | (refine And.intro (fun h => Bool.noConfusion h) (fun _ => ?_); conv => whnf))
    refine ⟨_, _, ho, ?_⟩
    (conv => whnf); repeat (first | (refine And.intro DrawOk.go ?_; conv => whnf) | (refine And.intro rfl ?_; conv => whnf) | (refine And.intro (fun _ => ?_) (fun h => Bool.noConfusion h); conv => whnf) | (refine And.intro (fun h => Bool.noConfusion h) (fun _ => ?_); conv => whnf))
    repeat' (first | ((refine And.intro (fun h => ?_) (fun h => ?_)) <;> (try simp at h) <;> ((conv => whnf); repeat (first | (refine And.intro DrawOk.go ?_; conv => whnf) | (refine And.intro rfl ?_; conv => whnf) | (refine And.intro (fun _ => ?_) (fun h => Bool.noConfusion h); conv => whnf) | (refine And.intro (fun h => Bool.noConfusion h) (fun _ => ?_); conv => whnf)))) | fail)
    all_goals
      refine Exists.intro [] (And.intro List.nodup_nil ?_); ((conv => whnf); repeat (first | (refine And.intro DrawOk.go ?_; conv => whnf) | (refine And.intro rfl ?_; conv => whnf) | (refine And.intro (fun _ => ?_) (fun h => Bool.noConfusion h); conv => whnf) | (refine And.intro (fun h => Bool.noConfusion h) (fun _ => ?_); conv => whnf)))
      first
        | exact congrArg ATbool (decide_eq_false (by omega)).symm
        | exact congrArg ATbool (decide_eq_decide.2 (by omega))
  · have e : lyOf c = ly0 := by unfold lyOf; rw [if_neg h0]
    have hd : isData c n = false := by unfold isData; rw [decide_eq_false (fun h => h0 h.1)]
    rw [e] at ho
    rw [hd]
    generalize cfChk c = R at h0 ho
    refine fun_of_vc tabOk mixOk Try.func70 rfl (by rfl) (rs := [.tmp 4]) rfl rfl 30 ?_; rw [Try.ntmps70]
    (conv => whnf); repeat (first | (refine And.intro DrawOk.go ?_; conv => whnf) | (refine And.intro rfl ?_; conv => whnf) | (refine And.intro (fun _ => ?_) (fun h => Bool.noConfusion h); conv => whnf) | (refine And.intro (fun h => Bool.noConfusion h) (fun _ => ?_); conv => whnf))
    refine ⟨_, _, ho, ?_⟩
    (conv => whnf); repeat (first | (refine And.intro DrawOk.go ?_; conv => whnf) | (refine And.intro rfl ?_; conv => whnf) | (refine And.intro (fun _ => ?_) (fun h => Bool.noConfusion h); conv => whnf) | (refine And.intro (fun h => Bool.noConfusion h) (fun _ => ?_); conv => whnf))
    refine And.intro (fun h => absurd h (by simp [h0])) (fun h => ?_)
    (conv => whnf); repeat (first | (refine And.intro DrawOk.go ?_; conv => whnf) | (refine And.intro rfl ?_; conv => whnf) | (refine And.intro (fun _ => ?_) (fun h => Bool.noConfusion h); conv => whnf) | (refine And.intro (fun h => Bool.noConfusion h) (fun _ => ?_); conv => whnf))
    refine Exists.intro [] (And.intro List.nodup_nil ?_); ((conv => whnf); repeat (first | (refine And.intro DrawOk.go ?_; conv => whnf) | (refine And.intro rfl ?_; conv => whnf) | (refine And.intro (fun _ => ?_) (fun h => Bool.noConfusion h); conv => whnf) | (refine And.intro (fun h => Bool.noConfusion h) (fun _ => ?_); conv => whnf)))
    rfl
set_option maxRecDepth 100000 in
set_option maxHeartbeats 16000000 in
theorem isDataF' (c : Cf) (n : Int) : Fun Try.prog 102 [cfV c, i64V n] [] (ATbool (isData c n)) := by
  have hc := cfChkF' c
  by_cases h0 : cfChk c = 0
  · have hs : ¬ c.s = 0 := by
      intro hs
      have : cfChk c = 1 := cfChk_bad (by omega)
      omega
    have ho := shapeF' c hs
    have hd : isData c n = decide (lyFirst c ≤ n ∧ n < c.z) := by unfold isData; rw [decide_eq_decide]; constructor <;> (intro h; simp_all)
    rw [h0] at hc
    rw [hd]
    unfold lyV at ho
    generalize lySlot c = x1 at ho
    generalize lyFirst c = x2 at ho ⊢
    generalize lyData c = x3 at ho
    generalize lyCap c = x4 at ho
    refine fun_of_vc tabOk mixOk Try.func102 rfl (by rfl) (rs := [.tmp 4]) rfl rfl 25 ?_; rw [Try.ntmps102]
    (conv => whnf); repeat (first | (refine And.intro DrawOk.go ?_; conv => whnf) | (refine And.intro rfl ?_; conv => whnf) | (refine And.intro (fun _ => ?_) (fun h => Bool.noConfusion h); conv => whnf) | (refine And.intro (fun h => Bool.noConfusion h) (fun _ => ?_); conv => whnf))
    refine ⟨_, _, hc, ?_⟩
    (conv => whnf); repeat (first | (refine And.intro DrawOk.go ?_; conv => whnf) | (refine And.intro rfl ?_; conv => whnf) | (refine And.intro (fun _ => ?_) (fun h => Bool.noConfusion h); conv => whnf) | (refine And.intro (fun h => Bool.noConfusion h) (fun _ => ?_); conv => whnf))
    refine ⟨_, _, ho, ?_⟩
    (conv => whnf); repeat (first | (refine And.intro DrawOk.go ?_; conv => whnf) | (refine And.intro rfl ?_; conv => whnf) | (refine And.intro (fun _ => ?_) (fun h => Bool.noConfusion h); conv => whnf) | (refine And.intro (fun h => Bool.noConfusion h) (fun _ => ?_); conv => whnf))
    repeat' (first | ((refine And.intro (fun h => ?_) (fun h => ?_)) <;> (try simp at h) <;> ((conv => whnf); repeat (first | (refine And.intro DrawOk.go ?_; conv => whnf) | (refine And.intro rfl ?_; conv => whnf) | (refine And.intro (fun _ => ?_) (fun h => Bool.noConfusion h); conv => whnf) | (refine And.intro (fun h => Bool.noConfusion h) (fun _ => ?_); conv => whnf)))) | fail)
    all_goals
      refine Exists.intro [] (And.intro List.nodup_nil ?_); ((conv => whnf); repeat (first | (refine And.intro DrawOk.go ?_; conv => whnf) | (refine And.intro rfl ?_; conv => whnf) | (refine And.intro (fun _ => ?_) (fun h => Bool.noConfusion h); conv => whnf) | (refine And.intro (fun h => Bool.noConfusion h) (fun _ => ?_); conv => whnf)))
      first
        | exact congrArg ATbool (decide_eq_false (by omega)).symm
        | exact congrArg ATbool (decide_eq_decide.2 (by omega))
  · have hd : isData c n = false := by unfold isData; rw [decide_eq_false (fun h => h0 h.1)]
    rw [hd]
    generalize cfChk c = R at h0 hc
    refine fun_of_vc tabOk mixOk Try.func102 rfl (by rfl) (rs := [.tmp 4]) rfl rfl 25 ?_; rw [Try.ntmps102]
    (conv => whnf); repeat (first | (refine And.intro DrawOk.go ?_; conv => whnf) | (refine And.intro rfl ?_; conv => whnf) | (refine And.intro (fun _ => ?_) (fun h => Bool.noConfusion h); conv => whnf) | (refine And.intro (fun h => Bool.noConfusion h) (fun _ => ?_); conv => whnf))
    refine ⟨_, _, hc, ?_⟩
    (conv => whnf); repeat (first | (refine And.intro DrawOk.go ?_; conv => whnf) | (refine And.intro rfl ?_; conv => whnf) | (refine And.intro (fun _ => ?_) (fun h => Bool.noConfusion h); conv => whnf) | (refine And.intro (fun h => Bool.noConfusion h) (fun _ => ?_); conv => whnf))
    refine And.intro (fun h => absurd h (by simp [h0])) (fun h => ?_)
    (conv => whnf); repeat (first | (refine And.intro DrawOk.go ?_; conv => whnf) | (refine And.intro rfl ?_; conv => whnf) | (refine And.intro (fun _ => ?_) (fun h => Bool.noConfusion h); conv => whnf) | (refine And.intro (fun h => Bool.noConfusion h) (fun _ => ?_); conv => whnf))
    refine Exists.intro [] (And.intro List.nodup_nil ?_); ((conv => whnf); repeat (first | (refine And.intro DrawOk.go ?_; conv => whnf) | (refine And.intro rfl ?_; conv => whnf) | (refine And.intro (fun _ => ?_) (fun h => Bool.noConfusion h); conv => whnf) | (refine And.intro (fun h => Bool.noConfusion h) (fun _ => ?_); conv => whnf)))
    rfl
end Go.Proofs.Ytijajfldpaadnaa.Ab
