/- Dice: numbers that are given out one after the other; for each seat that has them. -/
import Derived.Test.YtgjcljjgifnjdaaGb
namespace Go.Proofs.Ytgjcljjgifnjdaa.Ab
set_option linter.unusedVariables false
set_option linter.unusedSimpArgs false
open Go.RowKit

def dmod (x n : Int) : Int := if n < 1 then 0 else (iwrap .i64 (x.tmod n + n)).tmod n
theorem dmod_in {x n : Int} (h : 1 ≤ n) (h2 : n ≤ 1099511627776) : 0 ≤ dmod x n ∧ dmod x n < n := by
  unfold dmod
  rw [if_neg (by omega)]
  have h3 : x.tmod n < n := Int.tmod_lt_of_pos _ (by omega)
  have h4 : -n < x.tmod n := by
    have := Int.tmod_lt_of_pos (-x) (b := n) (by omega)
    rw [Int.neg_tmod] at this
    omega
  rw [show iwrap .i64 (x.tmod n + n) = x.tmod n + n from w64_in (by omega)]
  exact ⟨Int.tmod_nonneg _ (by omega), Int.tmod_lt_of_pos _ (by omega)⟩
def dcs (L : List Int) (k : Nat) : List AV1 := [.i (.sl (wV L)), .i (.sc (.int .i64 k))]
def dnx (L : List Int) (k : Nat) : Nat := if k < L.length then k + 1 else k
def dval (L : List Int) (k : Nat) (n : Int) : Int := match L[k]? with | some x => dmod x n | none => 0
theorem dval_in (L : List Int) (k : Nat) {n : Int} (h : 1 ≤ n) (h2 : n ≤ 1099511627776) : 0 ≤ dval L k n ∧ dval L k n < n := by
  unfold dval
  split
  · exact dmod_in h h2
  · omega
theorem dnx_le {L : List Int} {k : Nat} (h : k ≤ L.length) : dnx L k ≤ L.length := by unfold dnx; split <;> omega

set_option maxRecDepth 100000 in
set_option maxHeartbeats 4000000 in
theorem modF (x n : Int) : Fun Try.prog 36 [i64V x, i64V n] [] (.v (i64V (dmod x n))) := by
  refine fun_of_vc tabOk mixOk Try.func36 rfl (by rfl) (rs := [.tmp 4]) rfl rfl 18 ?_; rw [Try.ntmps36]
  (conv => whnf); repeat ((first | refine And.intro DrawOk.go ?_ | refine And.intro rfl ?_ | refine And.intro (fun _ => ?_) (fun h => Bool.noConfusion h) | refine And.intro (fun h => Bool.noConfusion h) (fun _ => ?_)); conv => whnf)
  refine And.intro (fun h1 => ?_) (fun h1 => ?_)
  · have h1' := of_decide_eq_true h1
    (conv => whnf); repeat ((first | refine And.intro DrawOk.go ?_ | refine And.intro rfl ?_ | refine And.intro (fun _ => ?_) (fun h => Bool.noConfusion h) | refine And.intro (fun h => Bool.noConfusion h) (fun _ => ?_)); conv => whnf)
    refine Exists.intro [] (And.intro List.nodup_nil ?_); ((conv => whnf); repeat ((first | refine And.intro DrawOk.go ?_ | refine And.intro rfl ?_ | refine And.intro (fun _ => ?_) (fun h => Bool.noConfusion h) | refine And.intro (fun h => Bool.noConfusion h) (fun _ => ?_)); conv => whnf))
    unfold dmod; rw [if_pos h1']; rfl
  · have h1' := of_decide_eq_false h1
    (conv => whnf); repeat ((first | refine And.intro DrawOk.go ?_ | refine And.intro rfl ?_ | refine And.intro (fun _ => ?_) (fun h => Bool.noConfusion h) | refine And.intro (fun h => Bool.noConfusion h) (fun _ => ?_)); conv => whnf)
    refine ⟨by omega, ?_⟩
    (conv => whnf); repeat ((first | refine And.intro DrawOk.go ?_ | refine And.intro rfl ?_ | refine And.intro (fun _ => ?_) (fun h => Bool.noConfusion h) | refine And.intro (fun h => Bool.noConfusion h) (fun _ => ?_)); conv => whnf)
    refine ⟨by omega, ?_⟩
    (conv => whnf); repeat ((first | refine And.intro DrawOk.go ?_ | refine And.intro rfl ?_ | refine And.intro (fun _ => ?_) (fun h => Bool.noConfusion h) | refine And.intro (fun h => Bool.noConfusion h) (fun _ => ?_)); conv => whnf)
    refine Exists.intro [] (And.intro List.nodup_nil ?_); ((conv => whnf); repeat ((first | refine And.intro DrawOk.go ?_ | refine And.intro rfl ?_ | refine And.intro (fun _ => ?_) (fun h => Bool.noConfusion h) | refine And.intro (fun h => Bool.noConfusion h) (fun _ => ?_)); conv => whnf))
    unfold dmod; rw [if_neg h1']; rfl

set_option maxRecDepth 100000 in
set_option maxHeartbeats 4000000 in
theorem lightF (ws : List Int) (hl : ws.length ≤ 140737488355328) : Fun Try.prog 12 [slV (wV ws)] [] (ATbool (decide (ws.length ≤ 300))) := by
  refine fun_of_vc tabOk mixOk Try.func12 rfl (by rfl) (rs := [.tmp 2]) rfl rfl 10 ?_; rw [Try.ntmps12]
  (conv => whnf); repeat ((first | refine And.intro DrawOk.go ?_ | refine And.intro rfl ?_ | refine And.intro (fun _ => ?_) (fun h => Bool.noConfusion h) | refine And.intro (fun h => Bool.noConfusion h) (fun _ => ?_)); conv => whnf)
  refine Exists.intro [] (And.intro List.nodup_nil ?_); ((conv => whnf); repeat ((first | refine And.intro DrawOk.go ?_ | refine And.intro rfl ?_ | refine And.intro (fun _ => ?_) (fun h => Bool.noConfusion h) | refine And.intro (fun h => Bool.noConfusion h) (fun _ => ?_)); conv => whnf))
  have e : decide (((wV ws).length : Int) ≤ 300) = decide (ws.length ≤ 300) := by rw [decide_eq_decide, wV, List.length_map]; omega
  exact congrArg ATbool e

set_option maxRecDepth 100000 in
set_option maxHeartbeats 4000000 in
theorem rollF (ws : List Int) (hl : ws.length ≤ 1000000) : Fun Try.prog 14 [slV (wV ws)] [.var 0 (dcs ws 0)] (.v (.c (.ptr 0 0 0))) := by
  refine fun_of_vc tabOk mixOk Try.func14 rfl (by rfl) (rs := [.tmp 2]) rfl rfl 12 ?_; rw [Try.ntmps14]
  (conv => whnf); repeat ((first | refine And.intro DrawOk.go ?_ | refine And.intro rfl ?_ | refine And.intro (fun _ => ?_) (fun h => Bool.noConfusion h) | refine And.intro (fun h => Bool.noConfusion h) (fun _ => ?_)); conv => whnf)
  refine ⟨wSz _, ?_⟩
  (conv => whnf); repeat ((first | refine And.intro DrawOk.go ?_ | refine And.intro rfl ?_ | refine And.intro (fun _ => ?_) (fun h => Bool.noConfusion h) | refine And.intro (fun h => Bool.noConfusion h) (fun _ => ?_)); conv => whnf)
  refine ⟨bytes_le (by decide) (by simp [wV]; omega), ?_⟩
  (conv => whnf); repeat ((first | refine And.intro DrawOk.go ?_ | refine And.intro rfl ?_ | refine And.intro (fun _ => ?_) (fun h => Bool.noConfusion h) | refine And.intro (fun h => Bool.noConfusion h) (fun _ => ?_)); conv => whnf)
  refine ⟨[7], by simp, ?_⟩
  (conv => whnf); repeat ((first | refine And.intro DrawOk.go ?_ | refine And.intro rfl ?_ | refine And.intro (fun _ => ?_) (fun h => Bool.noConfusion h) | refine And.intro (fun h => Bool.noConfusion h) (fun _ => ?_)); conv => whnf)
  rfl

set_option maxRecDepth 100000 in
set_option maxHeartbeats 4000000 in
theorem nextF (L : List Int) (k : Nat) (n : Int) (hl : L.length ≤ 1000000) : FunP Try.prog 26 (dcs L k) [i64V n] (dcs L (dnx L k)) (.v (i64V (dval L k n))) := by
  by_cases hk : k < L.length
  · have e1 : dnx L k = k + 1 := by unfold dnx; rw [if_pos hk]
    have e2 : dval L k n = dmod L[k] n := by unfold dval; rw [List.getElem?_eq_getElem hk]
    rw [e1, e2]
    have hw : iwrap .i64 ((k : Int) + 1) = ((k + 1 : Nat) : Int) := (w64_in (by omega)).trans (by omega)
    have hw2 : iwrap .i64 (((k + 1 : Nat) : Int) - 1) = (k : Int) := (w64_in (by omega)).trans (by omega)
    refine funP_of_vc tabOk mixOk Try.func26 rfl (by rfl) (rs := [.tmp 4]) rfl rfl rfl rfl rfl 39 ?_; rw [Try.ntmps26]
    (conv => whnf); repeat ((first | refine And.intro DrawOk.go ?_ | refine And.intro rfl ?_ | refine And.intro (fun _ => ?_) (fun h => Bool.noConfusion h) | refine And.intro (fun h => Bool.noConfusion h) (fun _ => ?_)); conv => whnf)
    refine And.intro (fun h1 => ?_) (fun h1 => ?_)
    · have h1' := of_decide_eq_true h1
      simp only [wV, List.length_map] at h1'
      omega
    · (conv => whnf); repeat ((first | refine And.intro DrawOk.go ?_ | refine And.intro rfl ?_ | refine And.intro (fun _ => ?_) (fun h => Bool.noConfusion h) | refine And.intro (fun h => Bool.noConfusion h) (fun _ => ?_)); conv => whnf)
      refine ⟨by rw [hw, hw2]; omega, _, (by rw [hw, hw2]; exact wItem hk), rfl, ?_⟩
      (conv => whnf); repeat ((first | refine And.intro DrawOk.go ?_ | refine And.intro rfl ?_ | refine And.intro (fun _ => ?_) (fun h => Bool.noConfusion h) | refine And.intro (fun h => Bool.noConfusion h) (fun _ => ?_)); conv => whnf)
      refine ⟨_, _, modF _ _, ?_⟩
      (conv => whnf); repeat ((first | refine And.intro DrawOk.go ?_ | refine And.intro rfl ?_ | refine And.intro (fun _ => ?_) (fun h => Bool.noConfusion h) | refine And.intro (fun h => Bool.noConfusion h) (fun _ => ?_)); conv => whnf)
      rw [hw]; exact ⟨rfl, rfl⟩
  · have e1 : dnx L k = k := by unfold dnx; rw [if_neg hk]
    have e2 : dval L k n = 0 := by unfold dval; rw [List.getElem?_eq_none (by omega)]
    rw [e1, e2]
    refine funP_of_vc tabOk mixOk Try.func26 rfl (by rfl) (rs := [.tmp 4]) rfl rfl rfl rfl rfl 39 ?_; rw [Try.ntmps26]
    (conv => whnf); repeat ((first | refine And.intro DrawOk.go ?_ | refine And.intro rfl ?_ | refine And.intro (fun _ => ?_) (fun h => Bool.noConfusion h) | refine And.intro (fun h => Bool.noConfusion h) (fun _ => ?_)); conv => whnf)
    refine And.intro (fun h1 => ?_) (fun h1 => ?_)
    · (conv => whnf); repeat ((first | refine And.intro DrawOk.go ?_ | refine And.intro rfl ?_ | refine And.intro (fun _ => ?_) (fun h => Bool.noConfusion h) | refine And.intro (fun h => Bool.noConfusion h) (fun _ => ?_)); conv => whnf)
      rfl
    · have h1' := of_decide_eq_false h1
      simp only [wV, List.length_map] at h1'
      omega

set_option maxRecDepth 100000 in
set_option maxHeartbeats 4000000 in
theorem restF (L : List Int) (k : Nat) (hl : L.length ≤ 1000000) (hk : k ≤ L.length) : FunP Try.prog 15 (dcs L k) [] (dcs L k) (.v (i64V (L.length - k))) := by
  refine funP_of_vc tabOk mixOk Try.func15 rfl (by rfl) (rs := [.tmp 2]) rfl rfl rfl rfl rfl 18 ?_; rw [Try.ntmps15]
  (conv => whnf); repeat ((first | refine And.intro DrawOk.go ?_ | refine And.intro rfl ?_ | refine And.intro (fun _ => ?_) (fun h => Bool.noConfusion h) | refine And.intro (fun h => Bool.noConfusion h) (fun _ => ?_)); conv => whnf)
  have hw : iwrap .i64 (((wV L).length : Int) - k) = (L.length : Int) - k := (w64_in (by simp [wV]; omega)).trans (by simp [wV])
  rw [hw]
  by_cases h : (L.length : Int) - k > 0
  · rw [if_pos h]; rfl
  · rw [if_neg h, show (L.length : Int) - k = 0 by omega]; rfl
end Go.Proofs.Ytgjcljjgifnjdaa.Ab
