/- The words of a command's kind; which commands have a line. No condition. -/
import Derived.Test.YtccplchebbkliaaDoorYi
namespace Go.Proofs.YtccplchebbkliaaDoor.Ab
set_option linter.unusedVariables false
set_option linter.unusedSimpArgs false
open Go.RowKit

def cmV (k b : Int) (s : ByteArray) : AV := .agg [.i (.sc (.int .i64 k)), .i (.sc (.int .i64 b)), .i (.sc (.string s))]
def knd (k : Int) : ByteArray := if k = 1 then ⟨#[114, 101, 97, 100]⟩ else if k = 2 then ⟨#[119, 114, 105, 116, 101]⟩ else if k = 3 then ⟨#[116, 114, 105, 109]⟩ else if k = 4 then ⟨#[102, 108, 117, 115, 104]⟩ else ⟨#[]⟩
set_option maxRecDepth 100000 in
set_option maxHeartbeats 8000000 in
theorem kindF' (k b : Int) (s : ByteArray) : Fun Tryd.prog 15 [cmV k b s] [] (.v (strV (knd k))) := by
  refine fun_of_vc tabOk mixOk Tryd.func15 rfl (by rfl) (rs := [.tmp 2]) rfl rfl 17 ?_; rw [Tryd.ntmps15]
  (conv => whnf); repeat ((first | refine And.intro DrawOk.go ?_ | refine And.intro rfl ?_ | refine And.intro (fun _ => ?_) (fun h => Bool.noConfusion h) | refine And.intro (fun h => Bool.noConfusion h) (fun _ => ?_)); conv => whnf)
  repeat' (first | ((refine And.intro (fun h => ?_) (fun h => ?_)) <;> (try simp at h) <;> ((conv => whnf); repeat ((first | refine And.intro DrawOk.go ?_ | refine And.intro rfl ?_ | refine And.intro (fun _ => ?_) (fun h => Bool.noConfusion h) | refine And.intro (fun h => Bool.noConfusion h) (fun _ => ?_)); conv => whnf))) | fail)
  all_goals (refine Exists.intro [] (And.intro List.nodup_nil ?_); ((conv => whnf); repeat ((first | refine And.intro DrawOk.go ?_ | refine And.intro rfl ?_ | refine And.intro (fun _ => ?_) (fun h => Bool.noConfusion h) | refine And.intro (fun h => Bool.noConfusion h) (fun _ => ?_)); conv => whnf)))
  all_goals (refine congrArg (fun n => AT.v (strV n)) ?_)
  all_goals (unfold knd; simp [*])
set_option maxRecDepth 100000 in
set_option maxHeartbeats 8000000 in
theorem kindF (k b : Int) (s : ByteArray) : Fun Tryd.prog 34 [cmV k b s] [] (.v (strV (knd k))) := by
  by_cases h0 : k < 0 ∨ 5 ≤ k
  · have e : knd k = ⟨#[]⟩ := by unfold knd; rw [if_neg (by omega), if_neg (by omega), if_neg (by omega), if_neg (by omega)]
    rw [e]
    refine fun_of_vc tabOk mixOk Tryd.func34 rfl (by rfl) (rs := [.tmp 2]) rfl rfl 21 ?_; rw [Tryd.ntmps34]
    (conv => whnf); repeat ((first | refine And.intro DrawOk.go ?_ | refine And.intro rfl ?_ | refine And.intro (fun _ => ?_) (fun h => Bool.noConfusion h) | refine And.intro (fun h => Bool.noConfusion h) (fun _ => ?_)); conv => whnf)
    refine And.intro (fun h => ?_) (fun h => ?_)
    · (conv => whnf); repeat ((first | refine And.intro DrawOk.go ?_ | refine And.intro rfl ?_ | refine And.intro (fun _ => ?_) (fun h => Bool.noConfusion h) | refine And.intro (fun h => Bool.noConfusion h) (fun _ => ?_)); conv => whnf)
      refine Exists.intro [] (And.intro List.nodup_nil ?_); ((conv => whnf); repeat ((first | refine And.intro DrawOk.go ?_ | refine And.intro rfl ?_ | refine And.intro (fun _ => ?_) (fun h => Bool.noConfusion h) | refine And.intro (fun h => Bool.noConfusion h) (fun _ => ?_)); conv => whnf))
      rfl
    · have h' := of_decide_eq_false h
      (conv => whnf); repeat ((first | refine And.intro DrawOk.go ?_ | refine And.intro rfl ?_ | refine And.intro (fun _ => ?_) (fun h => Bool.noConfusion h) | refine And.intro (fun h => Bool.noConfusion h) (fun _ => ?_)); conv => whnf)
      refine And.intro (fun h => ?_) (fun h => ?_)
      · (conv => whnf); repeat ((first | refine And.intro DrawOk.go ?_ | refine And.intro rfl ?_ | refine And.intro (fun _ => ?_) (fun h => Bool.noConfusion h) | refine And.intro (fun h => Bool.noConfusion h) (fun _ => ?_)); conv => whnf)
        refine Exists.intro [] (And.intro List.nodup_nil ?_); ((conv => whnf); repeat ((first | refine And.intro DrawOk.go ?_ | refine And.intro rfl ?_ | refine And.intro (fun _ => ?_) (fun h => Bool.noConfusion h) | refine And.intro (fun h => Bool.noConfusion h) (fun _ => ?_)); conv => whnf))
        rfl
      · have h'' := of_decide_eq_false h
        omega
  · have h5 : k = 0 ∨ k = 1 ∨ k = 2 ∨ k = 3 ∨ k = 4 := by omega
    rcases h5 with rfl | rfl | rfl | rfl | rfl
    all_goals (refine fun_of_vc tabOk mixOk Tryd.func34 rfl (by rfl) (rs := [.tmp 2]) rfl rfl 21 ?_; rw [Tryd.ntmps34]; (conv => whnf); repeat ((first | refine And.intro DrawOk.go ?_ | refine And.intro rfl ?_ | refine And.intro (fun _ => ?_) (fun h => Bool.noConfusion h) | refine And.intro (fun h => Bool.noConfusion h) (fun _ => ?_)); conv => whnf))
    all_goals (refine ⟨by decide, by decide, ?_⟩; (conv => whnf); repeat ((first | refine And.intro DrawOk.go ?_ | refine And.intro rfl ?_ | refine And.intro (fun _ => ?_) (fun h => Bool.noConfusion h) | refine And.intro (fun h => Bool.noConfusion h) (fun _ => ?_)); conv => whnf))
    all_goals (refine Exists.intro [] (And.intro List.nodup_nil ?_); ((conv => whnf); repeat ((first | refine And.intro DrawOk.go ?_ | refine And.intro rfl ?_ | refine And.intro (fun _ => ?_) (fun h => Bool.noConfusion h) | refine And.intro (fun h => Bool.noConfusion h) (fun _ => ?_)); conv => whnf)))
    all_goals rfl
theorem knd_kW (k : Int) : knd k = ⟨(kW k).toArray⟩ := by
  unfold knd kW
  split
  · rfl
  · split
    · rfl
    · split
      · rfl
      · split <;> rfl
end Go.Proofs.YtccplchebbkliaaDoor.Ab
