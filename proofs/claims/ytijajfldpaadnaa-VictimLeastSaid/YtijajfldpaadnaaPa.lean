/- The layout of a configuration, for the abstract walk. -/
import Derived.Test.YtijajfldpaadnaaGd
import Derived.Test.YtijajfldpaadnaaFu
namespace Go.Proofs.Ytijajfldpaadnaa.Ab
set_option linter.unusedVariables false
set_option linter.unusedSimpArgs false
open Go.RowKit

structure Cf where
  z : Int
  s : Int
  b : Int
  q : Int
  d : Int
  h : Int
def cfV (c : Cf) : AV := .agg [.i (.sc (.int .i64 c.z)), .i (.sc (.int .i64 c.s)), .i (.sc (.int .i64 c.b)), .i (.sc (.int .i64 c.q)), .i (.sc (.int .i64 c.d)), .i (.sc (.int .i64 c.h))]
def cfOk (c : Cf) : Bool := decide ((3 ≤ c.s ∧ c.s ≤ 64) ∧ (1 ≤ c.z ∧ c.z ≤ 32) ∧ (1 ≤ c.b ∧ c.b ≤ 128) ∧ (1 ≤ c.q ∧ c.q ≤ 4) ∧ (1 ≤ c.d ∧ c.d ≤ 8) ∧ (1 ≤ c.h ∧ c.h ≤ 8))
def lySlot (c : Cf) : Int := iwrap .i64 (Int.tdiv (iwrap .i64 (iwrap .i64 (iwrap .i64 (c.b + 2) + c.s) - 1)) c.s)
def lyFirst (c : Cf) : Int := iwrap .i64 (2 * lySlot c)
def lyData (c : Cf) : Int := iwrap .i64 (c.z - lyFirst c)
def lyCap (c : Cf) : Int := iwrap .i64 (iwrap .i64 (iwrap .i64 (iwrap .i64 (lyData c - 3) * iwrap .i64 (c.s - 1)) - c.q) - 1)
def lyV (c : Cf) : AV := .agg [.i (.sc (.int .i64 (lySlot c))), .i (.sc (.int .i64 (lyFirst c))), .i (.sc (.int .i64 (lyData c))), .i (.sc (.int .i64 (lyCap c)))]
def ly0 : AV := .agg [.i (.sc (.int .i64 0)), .i (.sc (.int .i64 0)), .i (.sc (.int .i64 0)), .i (.sc (.int .i64 0))]
def cfChk (c : Cf) : Int := if cfOk c = true then (if lyData c < 6 ∨ lyCap c < 1 then 11 else 0) else 1
def lyOf (c : Cf) : AV := if cfChk c = 0 then lyV c else ly0
def isData (c : Cf) (n : Int) : Bool := decide (cfChk c = 0 ∧ lyFirst c ≤ n ∧ n < c.z)
theorem cfOk_iff {c : Cf} : cfOk c = true ↔ ((3 ≤ c.s ∧ c.s ≤ 64) ∧ (1 ≤ c.z ∧ c.z ≤ 32) ∧ (1 ≤ c.b ∧ c.b ≤ 128) ∧ (1 ≤ c.q ∧ c.q ≤ 4) ∧ (1 ≤ c.d ∧ c.d ≤ 8) ∧ (1 ≤ c.h ∧ c.h ≤ 8)) := by unfold cfOk; exact decide_eq_true_iff
set_option maxRecDepth 100000 in
set_option maxHeartbeats 16000000 in
theorem shapeF (c : Cf) (hs : ¬ c.s = 0) : Fun Try.prog 132 [cfV c] [] (.v (lyV c)) := by
  obtain ⟨z, s, b, q, d, h⟩ := c
  dsimp only at hs
  refine fun_of_vc tabOk mixOk Try.func132 rfl (by rfl) (rs := [.cell 2 113]) rfl rfl 41 ?_; rw [Try.ntmps132]
  (conv => whnf); repeat (first | (refine And.intro DrawOk.go ?_; conv => whnf) | (refine And.intro rfl ?_; conv => whnf) | (refine And.intro (fun _ => ?_) (fun h => Bool.noConfusion h); conv => whnf) | (refine And.intro (fun h => Bool.noConfusion h) (fun _ => ?_); conv => whnf))
  refine ⟨hs, ?_⟩
  (conv => whnf); repeat (first | (refine And.intro DrawOk.go ?_; conv => whnf) | (refine And.intro rfl ?_; conv => whnf) | (refine And.intro (fun _ => ?_) (fun h => Bool.noConfusion h); conv => whnf) | (refine And.intro (fun h => Bool.noConfusion h) (fun _ => ?_); conv => whnf))
  refine Exists.intro [] (And.intro List.nodup_nil ?_); ((conv => whnf); repeat (first | (refine And.intro DrawOk.go ?_; conv => whnf) | (refine And.intro rfl ?_; conv => whnf) | (refine And.intro (fun _ => ?_) (fun h => Bool.noConfusion h); conv => whnf) | (refine And.intro (fun h => Bool.noConfusion h) (fun _ => ?_); conv => whnf)))
  rfl
set_option maxRecDepth 100000 in
set_option maxHeartbeats 16000000 in
theorem shapeF' (c : Cf) (hs : ¬ c.s = 0) : Fun Try.prog 105 [cfV c] [] (.v (lyV c)) := by
  obtain ⟨z, s, b, q, d, h⟩ := c
  dsimp only at hs
  refine fun_of_vc tabOk mixOk Try.func105 rfl (by rfl) (rs := [.cell 2 113]) rfl rfl 39 ?_; rw [Try.ntmps105]
  (conv => whnf); repeat (first | (refine And.intro DrawOk.go ?_; conv => whnf) | (refine And.intro rfl ?_; conv => whnf) | (refine And.intro (fun _ => ?_) (fun h => Bool.noConfusion h); conv => whnf) | (refine And.intro (fun h => Bool.noConfusion h) (fun _ => ?_); conv => whnf))
  refine ⟨hs, ?_⟩
  (conv => whnf); repeat (first | (refine And.intro DrawOk.go ?_; conv => whnf) | (refine And.intro rfl ?_; conv => whnf) | (refine And.intro (fun _ => ?_) (fun h => Bool.noConfusion h); conv => whnf) | (refine And.intro (fun h => Bool.noConfusion h) (fun _ => ?_); conv => whnf))
  refine Exists.intro [] (And.intro List.nodup_nil ?_); ((conv => whnf); repeat (first | (refine And.intro DrawOk.go ?_; conv => whnf) | (refine And.intro rfl ?_; conv => whnf) | (refine And.intro (fun _ => ?_) (fun h => Bool.noConfusion h); conv => whnf) | (refine And.intro (fun h => Bool.noConfusion h) (fun _ => ?_); conv => whnf)))
  rfl
set_option maxRecDepth 100000 in
set_option maxHeartbeats 16000000 in
theorem cfChkF' (c : Cf) : Fun Try.prog 104 [cfV c] [] (.v (i64V (cfChk c))) := by
  by_cases hc : cfOk c = true
  · have sh := shapeF' c (by have := cfOk_iff.1 hc; omega)
    have hb := cfOk_iff.1 hc
    have hs : cfChk c = if lyData c < 6 ∨ lyCap c < 1 then 11 else 0 := by unfold cfChk; rw [if_pos hc]
    unfold lyV at sh
    generalize lySlot c = x1 at sh
    generalize lyFirst c = x2 at sh
    generalize lyData c = x3 at sh hs
    generalize lyCap c = x4 at sh hs
    generalize cfChk c = R at hs ⊢
    obtain ⟨z, s, b, q, d, h⟩ := c
    dsimp only at hb
    refine fun_of_vc tabOk mixOk Try.func104 rfl (by rfl) (rs := [.tmp 2]) rfl rfl 76 ?_; rw [Try.ntmps104]
    (conv => whnf); repeat (first | (refine And.intro DrawOk.go ?_; conv => whnf) | (refine And.intro rfl ?_; conv => whnf) | (refine And.intro (fun _ => ?_) (fun h => Bool.noConfusion h); conv => whnf) | (refine And.intro (fun h => Bool.noConfusion h) (fun _ => ?_); conv => whnf))
    repeat' (first | ((refine And.intro (fun h => ?_) (fun h => ?_)) <;> (try simp at h) <;> ((conv => whnf); repeat (first | (refine And.intro DrawOk.go ?_; conv => whnf) | (refine And.intro rfl ?_; conv => whnf) | (refine And.intro (fun _ => ?_) (fun h => Bool.noConfusion h); conv => whnf) | (refine And.intro (fun h => Bool.noConfusion h) (fun _ => ?_); conv => whnf)))) | (refine ⟨_, _, sh, ?_⟩; ((conv => whnf); repeat (first | (refine And.intro DrawOk.go ?_; conv => whnf) | (refine And.intro rfl ?_; conv => whnf) | (refine And.intro (fun _ => ?_) (fun h => Bool.noConfusion h); conv => whnf) | (refine And.intro (fun h => Bool.noConfusion h) (fun _ => ?_); conv => whnf)))) | fail)
    all_goals first
      | (exfalso; omega)
      | (refine Exists.intro [] (And.intro List.nodup_nil ?_); ((conv => whnf); repeat (first | (refine And.intro DrawOk.go ?_; conv => whnf) | (refine And.intro rfl ?_; conv => whnf) | (refine And.intro (fun _ => ?_) (fun h => Bool.noConfusion h); conv => whnf) | (refine And.intro (fun h => Bool.noConfusion h) (fun _ => ?_); conv => whnf)))
         first
           | (rw [hs, if_pos (by omega)]; rfl)
           | (rw [hs, if_neg (by omega)]; rfl))
  · have hs : cfChk c = 1 := by unfold cfChk; rw [if_neg hc]
    have hb : ¬ ((3 ≤ c.s ∧ c.s ≤ 64) ∧ (1 ≤ c.z ∧ c.z ≤ 32) ∧ (1 ≤ c.b ∧ c.b ≤ 128) ∧ (1 ≤ c.q ∧ c.q ≤ 4) ∧ (1 ≤ c.d ∧ c.d ≤ 8) ∧ (1 ≤ c.h ∧ c.h ≤ 8)) := fun h => hc (cfOk_iff.2 h)
    rw [hs]
    obtain ⟨z, s, b, q, d, h⟩ := c
    dsimp only at hb
    refine fun_of_vc tabOk mixOk Try.func104 rfl (by rfl) (rs := [.tmp 2]) rfl rfl 76 ?_; rw [Try.ntmps104]
    (conv => whnf); repeat (first | (refine And.intro DrawOk.go ?_; conv => whnf) | (refine And.intro rfl ?_; conv => whnf) | (refine And.intro (fun _ => ?_) (fun h => Bool.noConfusion h); conv => whnf) | (refine And.intro (fun h => Bool.noConfusion h) (fun _ => ?_); conv => whnf))
    repeat' (first | ((refine And.intro (fun h => ?_) (fun h => ?_)) <;> (try simp at h) <;> ((conv => whnf); repeat (first | (refine And.intro DrawOk.go ?_; conv => whnf) | (refine And.intro rfl ?_; conv => whnf) | (refine And.intro (fun _ => ?_) (fun h => Bool.noConfusion h); conv => whnf) | (refine And.intro (fun h => Bool.noConfusion h) (fun _ => ?_); conv => whnf)))) | fail)
    all_goals first
      | (refine Exists.intro [] (And.intro List.nodup_nil ?_); ((conv => whnf); repeat (first | (refine And.intro DrawOk.go ?_; conv => whnf) | (refine And.intro rfl ?_; conv => whnf) | (refine And.intro (fun _ => ?_) (fun h => Bool.noConfusion h); conv => whnf) | (refine And.intro (fun h => Bool.noConfusion h) (fun _ => ?_); conv => whnf)))
         rfl)
      | (exfalso; omega)
end Go.Proofs.Ytijajfldpaadnaa.Ab
