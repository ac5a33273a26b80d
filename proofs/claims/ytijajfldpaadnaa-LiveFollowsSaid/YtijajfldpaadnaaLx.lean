/- The counters: the laws' sanity check. -/
import Derived.Test.YtijajfldpaadnaaLw
namespace Go.Proofs.Ytijajfldpaadnaa.Ab
set_option linter.unusedVariables false
set_option linter.unusedSimpArgs false
open Go.RowKit
def cnL (a b : List (List IV)) : AV := .agg [.i (.sl a), .i (.sl b)]
set_option maxRecDepth 100000 in
set_option maxHeartbeats 16000000 in
theorem livAwake' (Z A B : List (List IV)) (h0 : Fun Try.prog 26 [i64V 6] [] (.tup [cnL Z Z, i64V 0]))
    (h1 : Fun Try.prog 30 [cnL Z Z, eA 0 0 0 0 0 0, eA 0 0 0 0 2 0, bV false, bV true] [] (.tup [cnL A Z, bV true]))
    (h2 : Fun Try.prog 30 [cnL A Z, eA 0 0 0 0 2 0, eA 0 0 0 0 5 0, bV true, bV true] [] (.tup [cnL B Z, bV true]))
    (h3 : Fun Try.prog 30 [cnL B Z, eA 0 0 0 0 2 0, eA 0 0 0 0 5 0, bV true, bV true] [] (.tup [cnL B Z, bV false]))
    (q1 : B.length = 6) (q2 : B[(2 : Int).toNat]? = some [.sc (.int .i64 0)]) (q3 : B[(5 : Int).toNat]? = some [.sc (.int .i64 1)]) : Fun Try.prog 24 [] [] (ATbool true) := by
  refine fun_of_vc tabOk mixOk Try.func24 rfl (by rfl) (rs := [.tmp 0]) rfl rfl 74 ?_; rw [Try.ntmps24]
  (conv => whnf); repeat (first | (refine And.intro rfl ?_; conv => whnf) | (refine And.intro (fun _ => ?_) (fun h => Bool.noConfusion h); conv => whnf) | (refine And.intro (fun h => Bool.noConfusion h) (fun _ => ?_); conv => whnf))
  refine ⟨_, _, h0, ?_⟩
  (conv => whnf); repeat (first | (refine And.intro rfl ?_; conv => whnf) | (refine And.intro (fun _ => ?_) (fun h => Bool.noConfusion h); conv => whnf) | (refine And.intro (fun h => Bool.noConfusion h) (fun _ => ?_); conv => whnf))
  refine ⟨_, _, h1, ?_⟩
  (conv => whnf); repeat (first | (refine And.intro rfl ?_; conv => whnf) | (refine And.intro (fun _ => ?_) (fun h => Bool.noConfusion h); conv => whnf) | (refine And.intro (fun h => Bool.noConfusion h) (fun _ => ?_); conv => whnf))
  refine ⟨_, _, h2, ?_⟩
  (conv => whnf); repeat (first | (refine And.intro rfl ?_; conv => whnf) | (refine And.intro (fun _ => ?_) (fun h => Bool.noConfusion h); conv => whnf) | (refine And.intro (fun h => Bool.noConfusion h) (fun _ => ?_); conv => whnf))
  refine ⟨_, _, h3, ?_⟩
  (conv => whnf); repeat (first | (refine And.intro rfl ?_; conv => whnf) | (refine And.intro (fun _ => ?_) (fun h => Bool.noConfusion h); conv => whnf) | (refine And.intro (fun h => Bool.noConfusion h) (fun _ => ?_); conv => whnf))
  refine And.intro (fun _ => ?_) (fun h => by simp [q1] at h)
  (conv => whnf); repeat (first | (refine And.intro rfl ?_; conv => whnf) | (refine And.intro (fun _ => ?_) (fun h => Bool.noConfusion h); conv => whnf) | (refine And.intro (fun h => Bool.noConfusion h) (fun _ => ?_); conv => whnf))
  refine ⟨by omega, _, q2, rfl, ?_⟩
  (conv => whnf); repeat (first | (refine And.intro rfl ?_; conv => whnf) | (refine And.intro (fun _ => ?_) (fun h => Bool.noConfusion h); conv => whnf) | (refine And.intro (fun h => Bool.noConfusion h) (fun _ => ?_); conv => whnf))
  refine ⟨by omega, _, q3, rfl, ?_⟩
  (conv => whnf); repeat (first | (refine And.intro rfl ?_; conv => whnf) | (refine And.intro (fun _ => ?_) (fun h => Bool.noConfusion h); conv => whnf) | (refine And.intro (fun h => Bool.noConfusion h) (fun _ => ?_); conv => whnf))
  refine Exists.intro [] (And.intro List.nodup_nil ?_); ((conv => whnf); repeat (first | (refine And.intro rfl ?_; conv => whnf) | (refine And.intro (fun _ => ?_) (fun h => Bool.noConfusion h); conv => whnf) | (refine And.intro (fun h => Bool.noConfusion h) (fun _ => ?_); conv => whnf)))
  rfl
theorem livAwake : Fun Try.prog 24 [] [] (ATbool true) := livAwake' _ _ _ lw0 lwc1 lwc2 lwc3 rfl rfl rfl
end Go.Proofs.Ytijajfldpaadnaa.Ab
