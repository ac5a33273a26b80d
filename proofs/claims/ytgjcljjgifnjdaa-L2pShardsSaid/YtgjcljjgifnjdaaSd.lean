/- Shards: copies, Install. -/
import Derived.Test.YtgjcljjgifnjdaaSc
import Derived.Test.YtgjcljjgifnjdaaFs
namespace Go.Proofs.Ytgjcljjgifnjdaa.Ab
set_option linter.unusedVariables false
set_option linter.unusedSimpArgs false
open Go.RowKit

theorem eSz0 (es : List Ety) : ∀ z ∈ eR es, z.length = (tab 34).size := eSz es
theorem eLen (es : List Ety) : (eR es).length = es.length := by simp [eR]
set_option maxRecDepth 100000 in
set_option maxHeartbeats 8000000 in
theorem scloneF (es : List Ety) (hl : es.length ≤ 1000000) : Fun Try.prog 46 [slV (eR es)] [] (.v (slV (eR es))) := by
  cases es with
  | nil =>
    refine fun_of_vc tabOk mixOk Try.func46 rfl (by rfl) (rs := [.tmp 2]) rfl rfl 9 ?_; rw [Try.ntmps46]
    (conv => whnf); repeat ((first | refine And.intro DrawOk.go ?_ | refine And.intro rfl ?_ | refine And.intro (fun _ => ?_) (fun h => Bool.noConfusion h) | refine And.intro (fun h => Bool.noConfusion h) (fun _ => ?_)); conv => whnf)
    refine ⟨eSz _, ?_⟩
    (conv => whnf); repeat ((first | refine And.intro DrawOk.go ?_ | refine And.intro rfl ?_ | refine And.intro (fun _ => ?_) (fun h => Bool.noConfusion h) | refine And.intro (fun h => Bool.noConfusion h) (fun _ => ?_)); conv => whnf)
    refine ⟨bytes_le (by decide) (by simp [eR]), ?_⟩
    (conv => whnf); repeat ((first | refine And.intro DrawOk.go ?_ | refine And.intro rfl ?_ | refine And.intro (fun _ => ?_) (fun h => Bool.noConfusion h) | refine And.intro (fun h => Bool.noConfusion h) (fun _ => ?_)); conv => whnf)
    refine Exists.intro [] (And.intro List.nodup_nil ?_); ((conv => whnf); repeat ((first | refine And.intro DrawOk.go ?_ | refine And.intro rfl ?_ | refine And.intro (fun _ => ?_) (fun h => Bool.noConfusion h) | refine And.intro (fun h => Bool.noConfusion h) (fun _ => ?_)); conv => whnf))
    rfl
  | cons e es =>
    refine fun_of_vc tabOk mixOk Try.func46 rfl (by rfl) (rs := [.tmp 2]) rfl rfl 9 ?_; rw [Try.ntmps46]
    (conv => whnf); repeat ((first | refine And.intro DrawOk.go ?_ | refine And.intro rfl ?_ | refine And.intro (fun _ => ?_) (fun h => Bool.noConfusion h) | refine And.intro (fun h => Bool.noConfusion h) (fun _ => ?_)); conv => whnf)
    refine ⟨eSz (e :: es), ?_⟩
    (conv => whnf); repeat ((first | refine And.intro DrawOk.go ?_ | refine And.intro rfl ?_ | refine And.intro (fun _ => ?_) (fun h => Bool.noConfusion h) | refine And.intro (fun h => Bool.noConfusion h) (fun _ => ?_)); conv => whnf)
    refine ⟨bytes_le (by decide) (by simp [eR] at hl ⊢; omega), ?_⟩
    (conv => whnf); repeat ((first | refine And.intro DrawOk.go ?_ | refine And.intro rfl ?_ | refine And.intro (fun _ => ?_) (fun h => Bool.noConfusion h) | refine And.intro (fun h => Bool.noConfusion h) (fun _ => ?_)); conv => whnf)
    refine Exists.intro [] (And.intro List.nodup_nil ?_); ((conv => whnf); repeat ((first | refine And.intro DrawOk.go ?_ | refine And.intro rfl ?_ | refine And.intro (fun _ => ?_) (fun h => Bool.noConfusion h) | refine And.intro (fun h => Bool.noConfusion h) (fun _ => ?_)); conv => whnf))
    rfl
set_option maxRecDepth 100000 in
set_option maxHeartbeats 8000000 in
/-- A copy that is the caller's own. -/
theorem scloneO (es : List Ety) (hl : es.length ≤ 1000000) : Fun Try.prog 46 [slV (eR es)] [.row 0 34 6 (eR es)] (.v (.c (.own 0 0))) := by
  cases es with
  | nil =>
    refine fun_of_vc tabOk mixOk Try.func46 rfl (by rfl) (rs := [.tmp 2]) rfl rfl 9 ?_; rw [Try.ntmps46]
    (conv => whnf); repeat ((first | refine And.intro DrawOk.go ?_ | refine And.intro rfl ?_ | refine And.intro (fun _ => ?_) (fun h => Bool.noConfusion h) | refine And.intro (fun h => Bool.noConfusion h) (fun _ => ?_)); conv => whnf)
    refine ⟨eSz _, ?_⟩
    (conv => whnf); repeat ((first | refine And.intro DrawOk.go ?_ | refine And.intro rfl ?_ | refine And.intro (fun _ => ?_) (fun h => Bool.noConfusion h) | refine And.intro (fun h => Bool.noConfusion h) (fun _ => ?_)); conv => whnf)
    refine ⟨bytes_le (by decide) (by simp [eR]), ?_⟩
    (conv => whnf); repeat ((first | refine And.intro DrawOk.go ?_ | refine And.intro rfl ?_ | refine And.intro (fun _ => ?_) (fun h => Bool.noConfusion h) | refine And.intro (fun h => Bool.noConfusion h) (fun _ => ?_)); conv => whnf)
    refine ⟨[4], by simp, ?_⟩
    (conv => whnf); repeat ((first | refine And.intro DrawOk.go ?_ | refine And.intro rfl ?_ | refine And.intro (fun _ => ?_) (fun h => Bool.noConfusion h) | refine And.intro (fun h => Bool.noConfusion h) (fun _ => ?_)); conv => whnf)
    rfl
  | cons e es =>
    refine fun_of_vc tabOk mixOk Try.func46 rfl (by rfl) (rs := [.tmp 2]) rfl rfl 9 ?_; rw [Try.ntmps46]
    (conv => whnf); repeat ((first | refine And.intro DrawOk.go ?_ | refine And.intro rfl ?_ | refine And.intro (fun _ => ?_) (fun h => Bool.noConfusion h) | refine And.intro (fun h => Bool.noConfusion h) (fun _ => ?_)); conv => whnf)
    refine ⟨eSz (e :: es), ?_⟩
    (conv => whnf); repeat ((first | refine And.intro DrawOk.go ?_ | refine And.intro rfl ?_ | refine And.intro (fun _ => ?_) (fun h => Bool.noConfusion h) | refine And.intro (fun h => Bool.noConfusion h) (fun _ => ?_)); conv => whnf)
    refine ⟨bytes_le (by decide) (by simp [eR] at hl ⊢; omega), ?_⟩
    (conv => whnf); repeat ((first | refine And.intro DrawOk.go ?_ | refine And.intro rfl ?_ | refine And.intro (fun _ => ?_) (fun h => Bool.noConfusion h) | refine And.intro (fun h => Bool.noConfusion h) (fun _ => ?_)); conv => whnf)
    refine ⟨[4], by simp, ?_⟩
    (conv => whnf); repeat ((first | refine And.intro DrawOk.go ?_ | refine And.intro rfl ?_ | refine And.intro (fun _ => ?_) (fun h => Bool.noConfusion h) | refine And.intro (fun h => Bool.noConfusion h) (fun _ => ?_)); conv => whnf)
    rfl
theorem eApp (a : List Ety) (e : Ety) (c : List Ety) : eR a ++ [eRow e] ++ eR c = eR (a ++ e :: c) := by simp [eR]
theorem sinst_no {es : List Ety} {e : Ety} (h : svalid es = false) : sinst es e = ([], e0, false) := by unfold sinst; rw [if_pos h]
theorem sinst_bad {es : List Ety} {e : Ety} (h : svalid es = true) (h2 : rightE e = false) : sinst es e = (es, e0, false) := by unfold sinst; rw [if_neg (by simp [h]), if_pos h2]
theorem sinst_new {es : List Ety} {e : Ety} (h : svalid es = true) (h2 : rightE e = true) (h3 : shere es e.b = false) : sinst es e = (es.take (splace es e.b) ++ e :: es.drop (splace es e.b), e0, true) := by
  unfold sinst; rw [if_neg (by simp [h]), if_neg (by simp [h2]), if_neg (by simp [h3])]
theorem sinst_keep {es : List Ety} {e : Ety} (h : svalid es = true) (h2 : rightE e = true) (h3 : shere es e.b = true) (h4 : e.v ≤ (sold es e.b).v) : sinst es e = (es, sold es e.b, false) := by
  unfold sinst; rw [if_neg (by simp [h]), if_neg (by simp [h2]), if_pos h3, if_pos h4]
theorem sinst_over {es : List Ety} {e : Ety} (h : svalid es = true) (h2 : rightE e = true) (h3 : shere es e.b = true) (h4 : ¬ e.v ≤ (sold es e.b).v) : sinst es e = (es.set (splace es e.b) e, sold es e.b, true) := by
  unfold sinst; rw [if_neg (by simp [h]), if_neg (by simp [h2]), if_pos h3, if_neg h4]

theorem eTake (es : List Ety) (k : Nat) : ((eR es).take ((k : Int)).toNat).drop (0 : Int).toNat = eR (es.take k) := by simp [eR, List.map_take]
theorem eDrop (es : List Ety) (k : Nat) : ((eR es).take (((eR es).length : Int)).toNat).drop ((k : Int)).toNat = eR (es.drop k) := by
  rw [Int.toNat_natCast, Int.toNat_natCast, List.take_length]; simp [eR, List.map_drop]
set_option maxRecDepth 100000 in
set_option maxHeartbeats 16000000 in
theorem sinstF (es : List Ety) (b k v m z o : Int) (hl : es.length ≤ 1000000) : Fun Try.prog 17 [slV (eR es), eA b k v m z o] [] (.tup [slV (eR (sinst es ⟨b, k, v, m, z, o⟩).1), eV (sinst es ⟨b, k, v, m, z, o⟩).2.1, bV (sinst es ⟨b, k, v, m, z, o⟩).2.2]) := by
  have hv := svalidF es hl
  have hr := srightF b k v m z o
  by_cases hs : svalid es = true
  · rw [hs] at hv
    by_cases h2 : rightE ⟨b, k, v, m, z, o⟩ = true
    · rw [h2] at hr
      have sf := ssearchF es hs b hl
      have hle := splace_le es b
      by_cases h3 : shere es b = true
      · obtain ⟨hlt, q1, q2⟩ := shere_lt h3
        rw [h3] at sf
        by_cases h4 : v ≤ (sold es b).v
        · rw [sinst_keep hs h2 h3 h4]
          have h4' : v ≤ es[splace es b].v := by rw [q2] at h4; exact h4
          dsimp only
          rw [q2]
          refine fun_of_vc tabOk mixOk Try.func17 rfl (by rfl) (rs := [.tmp 4, .cell 5 34, .tmp 6]) rfl rfl 74 ?_; rw [Try.ntmps17]
          (conv => whnf); repeat ((first | refine And.intro DrawOk.go ?_ | refine And.intro rfl ?_ | refine And.intro (fun _ => ?_) (fun h => Bool.noConfusion h) | refine And.intro (fun h => Bool.noConfusion h) (fun _ => ?_)); conv => whnf)
          refine ⟨_, _, hv, ?_⟩
          (conv => whnf); repeat ((first | refine And.intro DrawOk.go ?_ | refine And.intro rfl ?_ | refine And.intro (fun _ => ?_) (fun h => Bool.noConfusion h) | refine And.intro (fun h => Bool.noConfusion h) (fun _ => ?_)); conv => whnf)
          refine ⟨_, _, hr, ?_⟩
          (conv => whnf); repeat ((first | refine And.intro DrawOk.go ?_ | refine And.intro rfl ?_ | refine And.intro (fun _ => ?_) (fun h => Bool.noConfusion h) | refine And.intro (fun h => Bool.noConfusion h) (fun _ => ?_)); conv => whnf)
          refine ⟨_, _, sf, ?_⟩
          (conv => whnf); repeat ((first | refine And.intro DrawOk.go ?_ | refine And.intro rfl ?_ | refine And.intro (fun _ => ?_) (fun h => Bool.noConfusion h) | refine And.intro (fun h => Bool.noConfusion h) (fun _ => ?_)); conv => whnf)
          refine ⟨by omega, _, eItem hlt, rfl, ?_⟩
          (conv => whnf); repeat ((first | refine And.intro DrawOk.go ?_ | refine And.intro rfl ?_ | refine And.intro (fun _ => ?_) (fun h => Bool.noConfusion h) | refine And.intro (fun h => Bool.noConfusion h) (fun _ => ?_)); conv => whnf)
          refine And.intro (fun _ => ?_) (fun h => by simp at h; omega)
          (conv => whnf); repeat ((first | refine And.intro DrawOk.go ?_ | refine And.intro rfl ?_ | refine And.intro (fun _ => ?_) (fun h => Bool.noConfusion h) | refine And.intro (fun h => Bool.noConfusion h) (fun _ => ?_)); conv => whnf)
          refine ⟨_, _, scloneF es hl, ?_⟩
          (conv => whnf); repeat ((first | refine And.intro DrawOk.go ?_ | refine And.intro rfl ?_ | refine And.intro (fun _ => ?_) (fun h => Bool.noConfusion h) | refine And.intro (fun h => Bool.noConfusion h) (fun _ => ?_)); conv => whnf)
          refine ⟨by omega, _, eItem hlt, rfl, ?_⟩
          (conv => whnf); repeat ((first | refine And.intro DrawOk.go ?_ | refine And.intro rfl ?_ | refine And.intro (fun _ => ?_) (fun h => Bool.noConfusion h) | refine And.intro (fun h => Bool.noConfusion h) (fun _ => ?_)); conv => whnf)
          refine Exists.intro [] (And.intro List.nodup_nil ?_); ((conv => whnf); repeat ((first | refine And.intro DrawOk.go ?_ | refine And.intro rfl ?_ | refine And.intro (fun _ => ?_) (fun h => Bool.noConfusion h) | refine And.intro (fun h => Bool.noConfusion h) (fun _ => ?_)); conv => whnf))
          rfl
        · rw [sinst_over hs h2 h3 h4]
          have h4' : ¬ v ≤ es[splace es b].v := by rw [q2] at h4; exact h4
          dsimp only
          rw [q2]
          refine fun_of_vc tabOk mixOk Try.func17 rfl (by rfl) (rs := [.tmp 4, .cell 5 34, .tmp 6]) rfl rfl 74 ?_; rw [Try.ntmps17]
          (conv => whnf); repeat ((first | refine And.intro DrawOk.go ?_ | refine And.intro rfl ?_ | refine And.intro (fun _ => ?_) (fun h => Bool.noConfusion h) | refine And.intro (fun h => Bool.noConfusion h) (fun _ => ?_)); conv => whnf)
          refine ⟨_, _, hv, ?_⟩
          (conv => whnf); repeat ((first | refine And.intro DrawOk.go ?_ | refine And.intro rfl ?_ | refine And.intro (fun _ => ?_) (fun h => Bool.noConfusion h) | refine And.intro (fun h => Bool.noConfusion h) (fun _ => ?_)); conv => whnf)
          refine ⟨_, _, hr, ?_⟩
          (conv => whnf); repeat ((first | refine And.intro DrawOk.go ?_ | refine And.intro rfl ?_ | refine And.intro (fun _ => ?_) (fun h => Bool.noConfusion h) | refine And.intro (fun h => Bool.noConfusion h) (fun _ => ?_)); conv => whnf)
          refine ⟨_, _, sf, ?_⟩
          (conv => whnf); repeat ((first | refine And.intro DrawOk.go ?_ | refine And.intro rfl ?_ | refine And.intro (fun _ => ?_) (fun h => Bool.noConfusion h) | refine And.intro (fun h => Bool.noConfusion h) (fun _ => ?_)); conv => whnf)
          refine ⟨by omega, _, eItem hlt, rfl, ?_⟩
          (conv => whnf); repeat ((first | refine And.intro DrawOk.go ?_ | refine And.intro rfl ?_ | refine And.intro (fun _ => ?_) (fun h => Bool.noConfusion h) | refine And.intro (fun h => Bool.noConfusion h) (fun _ => ?_)); conv => whnf)
          refine And.intro (fun h => by simp at h; omega) (fun _ => ?_)
          (conv => whnf); repeat ((first | refine And.intro DrawOk.go ?_ | refine And.intro rfl ?_ | refine And.intro (fun _ => ?_) (fun h => Bool.noConfusion h) | refine And.intro (fun h => Bool.noConfusion h) (fun _ => ?_)); conv => whnf)
          refine ⟨_, _, scloneO es hl, ?_⟩
          (conv => whnf); repeat ((first | refine And.intro DrawOk.go ?_ | refine And.intro rfl ?_ | refine And.intro (fun _ => ?_) (fun h => Bool.noConfusion h) | refine And.intro (fun h => Bool.noConfusion h) (fun _ => ?_)); conv => whnf)
          refine ⟨by omega, by rw [eLen]; omega, ?_⟩
          (conv => whnf); repeat ((first | refine And.intro DrawOk.go ?_ | refine And.intro rfl ?_ | refine And.intro (fun _ => ?_) (fun h => Bool.noConfusion h) | refine And.intro (fun h => Bool.noConfusion h) (fun _ => ?_)); conv => whnf)
          refine ⟨_, eItem hlt, ?_⟩
          (conv => whnf); repeat ((first | refine And.intro DrawOk.go ?_ | refine And.intro rfl ?_ | refine And.intro (fun _ => ?_) (fun h => Bool.noConfusion h) | refine And.intro (fun h => Bool.noConfusion h) (fun _ => ?_)); conv => whnf)
          refine ⟨by omega, _, eItem hlt, rfl, ?_⟩
          (conv => whnf); repeat ((first | refine And.intro DrawOk.go ?_ | refine And.intro rfl ?_ | refine And.intro (fun _ => ?_) (fun h => Bool.noConfusion h) | refine And.intro (fun h => Bool.noConfusion h) (fun _ => ?_)); conv => whnf)
          refine Exists.intro [] (And.intro List.nodup_nil ?_); ((conv => whnf); repeat ((first | refine And.intro DrawOk.go ?_ | refine And.intro rfl ?_ | refine And.intro (fun _ => ?_) (fun h => Bool.noConfusion h) | refine And.intro (fun h => Bool.noConfusion h) (fun _ => ?_)); conv => whnf))
          exact congrArg (fun l => AT.tup [slV l, eV es[splace es b], bV true]) (eset es _ ⟨b, k, v, m, z, o⟩)
      · have h3 : shere es b = false := by simpa using h3
        rw [h3] at sf
        rw [sinst_new hs h2 h3]
        have hc := scloneO (es.take (splace es b)) (by simp; omega)
        refine fun_of_vc tabOk mixOk Try.func17 rfl (by rfl) (rs := [.tmp 4, .cell 5 34, .tmp 6]) rfl rfl 74 ?_; rw [Try.ntmps17]
        (conv => whnf); repeat ((first | refine And.intro DrawOk.go ?_ | refine And.intro rfl ?_ | refine And.intro (fun _ => ?_) (fun h => Bool.noConfusion h) | refine And.intro (fun h => Bool.noConfusion h) (fun _ => ?_)); conv => whnf)
        refine ⟨_, _, hv, ?_⟩
        (conv => whnf); repeat ((first | refine And.intro DrawOk.go ?_ | refine And.intro rfl ?_ | refine And.intro (fun _ => ?_) (fun h => Bool.noConfusion h) | refine And.intro (fun h => Bool.noConfusion h) (fun _ => ?_)); conv => whnf)
        refine ⟨_, _, hr, ?_⟩
        (conv => whnf); repeat ((first | refine And.intro DrawOk.go ?_ | refine And.intro rfl ?_ | refine And.intro (fun _ => ?_) (fun h => Bool.noConfusion h) | refine And.intro (fun h => Bool.noConfusion h) (fun _ => ?_)); conv => whnf)
        refine ⟨_, _, sf, ?_⟩
        (conv => whnf); repeat ((first | refine And.intro DrawOk.go ?_ | refine And.intro rfl ?_ | refine And.intro (fun _ => ?_) (fun h => Bool.noConfusion h) | refine And.intro (fun h => Bool.noConfusion h) (fun _ => ?_)); conv => whnf)
        refine ⟨eSz es, ?_⟩
        (conv => whnf); repeat ((first | refine And.intro DrawOk.go ?_ | refine And.intro rfl ?_ | refine And.intro (fun _ => ?_) (fun h => Bool.noConfusion h) | refine And.intro (fun h => Bool.noConfusion h) (fun _ => ?_)); conv => whnf)
        refine ⟨by omega, by omega, by rw [eLen]; omega, ?_⟩
        (conv => whnf); repeat ((first | refine And.intro DrawOk.go ?_ | refine And.intro rfl ?_ | refine And.intro (fun _ => ?_) (fun h => Bool.noConfusion h) | refine And.intro (fun h => Bool.noConfusion h) (fun _ => ?_)); conv => whnf)
        rw [eTake]
        refine ⟨_, _, hc, ?_⟩
        (conv => whnf); repeat ((first | refine And.intro DrawOk.go ?_ | refine And.intro rfl ?_ | refine And.intro (fun _ => ?_) (fun h => Bool.noConfusion h) | refine And.intro (fun h => Bool.noConfusion h) (fun _ => ?_)); conv => whnf)
        refine ⟨eSz [⟨b, k, v, m, z, o⟩], ?_⟩
        (conv => whnf); repeat ((first | refine And.intro DrawOk.go ?_ | refine And.intro rfl ?_ | refine And.intro (fun _ => ?_) (fun h => Bool.noConfusion h) | refine And.intro (fun h => Bool.noConfusion h) (fun _ => ?_)); conv => whnf)
        refine ⟨bytes_le (by decide) (by simp [eR]; omega), ?_⟩
        (conv => whnf); repeat ((first | refine And.intro DrawOk.go ?_ | refine And.intro rfl ?_ | refine And.intro (fun _ => ?_) (fun h => Bool.noConfusion h) | refine And.intro (fun h => Bool.noConfusion h) (fun _ => ?_)); conv => whnf)
        refine ⟨eSz es, ?_⟩
        (conv => whnf); repeat ((first | refine And.intro DrawOk.go ?_ | refine And.intro rfl ?_ | refine And.intro (fun _ => ?_) (fun h => Bool.noConfusion h) | refine And.intro (fun h => Bool.noConfusion h) (fun _ => ?_)); conv => whnf)
        refine ⟨by omega, by rw [eLen]; omega, by omega, ?_⟩
        (conv => whnf); repeat ((first | refine And.intro DrawOk.go ?_ | refine And.intro rfl ?_ | refine And.intro (fun _ => ?_) (fun h => Bool.noConfusion h) | refine And.intro (fun h => Bool.noConfusion h) (fun _ => ?_)); conv => whnf)
        rw [eDrop]
        refine ⟨eSz _, ?_⟩
        (conv => whnf); repeat ((first | refine And.intro DrawOk.go ?_ | refine And.intro rfl ?_ | refine And.intro (fun _ => ?_) (fun h => Bool.noConfusion h) | refine And.intro (fun h => Bool.noConfusion h) (fun _ => ?_)); conv => whnf)
        refine ⟨bytes_le (by decide) (by simp [eR]; omega), ?_⟩
        (conv => whnf); repeat ((first | refine And.intro DrawOk.go ?_ | refine And.intro rfl ?_ | refine And.intro (fun _ => ?_) (fun h => Bool.noConfusion h) | refine And.intro (fun h => Bool.noConfusion h) (fun _ => ?_)); conv => whnf)
        refine Exists.intro [] (And.intro List.nodup_nil ?_); ((conv => whnf); repeat ((first | refine And.intro DrawOk.go ?_ | refine And.intro rfl ?_ | refine And.intro (fun _ => ?_) (fun h => Bool.noConfusion h) | refine And.intro (fun h => Bool.noConfusion h) (fun _ => ?_)); conv => whnf))
        exact congrArg (fun l => AT.tup [slV l, eV e0, bV true]) (eApp (es.take (splace es b)) ⟨b, k, v, m, z, o⟩ (es.drop (splace es b)))
    · have h2 : rightE ⟨b, k, v, m, z, o⟩ = false := by simpa using h2
      rw [h2] at hr
      rw [sinst_bad hs h2]
      refine fun_of_vc tabOk mixOk Try.func17 rfl (by rfl) (rs := [.tmp 4, .cell 5 34, .tmp 6]) rfl rfl 74 ?_; rw [Try.ntmps17]
      (conv => whnf); repeat ((first | refine And.intro DrawOk.go ?_ | refine And.intro rfl ?_ | refine And.intro (fun _ => ?_) (fun h => Bool.noConfusion h) | refine And.intro (fun h => Bool.noConfusion h) (fun _ => ?_)); conv => whnf)
      refine ⟨_, _, hv, ?_⟩
      (conv => whnf); repeat ((first | refine And.intro DrawOk.go ?_ | refine And.intro rfl ?_ | refine And.intro (fun _ => ?_) (fun h => Bool.noConfusion h) | refine And.intro (fun h => Bool.noConfusion h) (fun _ => ?_)); conv => whnf)
      refine ⟨_, _, hr, ?_⟩
      (conv => whnf); repeat ((first | refine And.intro DrawOk.go ?_ | refine And.intro rfl ?_ | refine And.intro (fun _ => ?_) (fun h => Bool.noConfusion h) | refine And.intro (fun h => Bool.noConfusion h) (fun _ => ?_)); conv => whnf)
      refine ⟨_, _, scloneF es hl, ?_⟩
      (conv => whnf); repeat ((first | refine And.intro DrawOk.go ?_ | refine And.intro rfl ?_ | refine And.intro (fun _ => ?_) (fun h => Bool.noConfusion h) | refine And.intro (fun h => Bool.noConfusion h) (fun _ => ?_)); conv => whnf)
      refine Exists.intro [] (And.intro List.nodup_nil ?_); ((conv => whnf); repeat ((first | refine And.intro DrawOk.go ?_ | refine And.intro rfl ?_ | refine And.intro (fun _ => ?_) (fun h => Bool.noConfusion h) | refine And.intro (fun h => Bool.noConfusion h) (fun _ => ?_)); conv => whnf))
      rfl
  · have hs : svalid es = false := by simpa using hs
    rw [hs] at hv
    rw [sinst_no hs]
    refine fun_of_vc tabOk mixOk Try.func17 rfl (by rfl) (rs := [.tmp 4, .cell 5 34, .tmp 6]) rfl rfl 74 ?_; rw [Try.ntmps17]
    (conv => whnf); repeat ((first | refine And.intro DrawOk.go ?_ | refine And.intro rfl ?_ | refine And.intro (fun _ => ?_) (fun h => Bool.noConfusion h) | refine And.intro (fun h => Bool.noConfusion h) (fun _ => ?_)); conv => whnf)
    refine ⟨_, _, hv, ?_⟩
    (conv => whnf); repeat ((first | refine And.intro DrawOk.go ?_ | refine And.intro rfl ?_ | refine And.intro (fun _ => ?_) (fun h => Bool.noConfusion h) | refine And.intro (fun h => Bool.noConfusion h) (fun _ => ?_)); conv => whnf)
    refine Exists.intro [] (And.intro List.nodup_nil ?_); ((conv => whnf); repeat ((first | refine And.intro DrawOk.go ?_ | refine And.intro rfl ?_ | refine And.intro (fun _ => ?_) (fun h => Bool.noConfusion h) | refine And.intro (fun h => Bool.noConfusion h) (fun _ => ?_)); conv => whnf))
    rfl
end Go.Proofs.Ytgjcljjgifnjdaa.Ab
