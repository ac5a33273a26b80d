/- Shards: copies, Install. -/
import Derived.Test.YtijajfldpaadnaaSc
import Derived.Test.YtijajfldpaadnaaFs
namespace Go.Proofs.Ytijajfldpaadnaa.Ab
set_option linter.unusedVariables false
set_option linter.unusedSimpArgs false
open Go.RowKit

theorem eSz0 (es : List Ety) : ∀ z ∈ eR es, z.length = (tab 47).size := eSz es
theorem eLen (es : List Ety) : (eR es).length = es.length := by simp [eR]
theorem eApp (a : List Ety) (e : Ety) (c : List Ety) : eR a ++ [eRow e] ++ eR c = eR (a ++ e :: c) := by simp [eR]
theorem sinst_no {es : List Ety} {e : Ety} (h : svalid es = false) : sinst es e = ([], e0, false) := by unfold sinst; rw [if_pos h]
theorem sinst_bad {es : List Ety} {e : Ety} (h : svalid es = true) (h2 : rightE e = false) : sinst es e = (es, e0, false) := by unfold sinst; rw [if_neg (by simp [h]), if_pos h2]
theorem sinst_new {es : List Ety} {e : Ety} (h : svalid es = true) (h2 : rightE e = true) (h3 : shere es e.b = false) : sinst es e = (es.take (splace es e.b) ++ e :: es.drop (splace es e.b), e0, true) := by
  unfold sinst; rw [if_neg (by simp [h]), if_neg (by simp [h2]), if_neg (by simp [h3])]
theorem sinst_keep {es : List Ety} {e : Ety} (h : svalid es = true) (h2 : rightE e = true) (h3 : shere es e.b = true) (h4 : e.v ≤ (sold es e.b).v) : sinst es e = (es, sold es e.b, false) := by
  unfold sinst; rw [if_neg (by simp [h]), if_neg (by simp [h2]), if_pos h3, if_pos h4]
theorem sinst_over {es : List Ety} {e : Ety} (h : svalid es = true) (h2 : rightE e = true) (h3 : shere es e.b = true) (h4 : ¬ e.v ≤ (sold es e.b).v) : sinst es e = (es.set (splace es e.b) e, sold es e.b, true) := by
  unfold sinst; rw [if_neg (by simp [h]), if_neg (by simp [h2]), if_pos h3, if_neg h4]

theorem eTake (es : List Ety) (k : Nat) : ((eR es).take ((k : Int)).toNat).drop (0 : Int).toNat = eR (es.take k) := by simp [eR, List.map_take]
theorem eDrop (es : List Ety) (k : Nat) : ((eR es).take (((eR es).length : Int)).toNat).drop ((k : Int)).toNat = eR (es.drop k) := by
  rw [Int.toNat_natCast, Int.toNat_natCast, List.take_length]; simp [eR, List.map_drop]
end Go.Proofs.Ytijajfldpaadnaa.Ab
