/- Shards: the document's Install; Drop of both; Same. -/
import Derived.Test.YtgjcljjgifnjdaaSd
namespace Go.Proofs.Ytgjcljjgifnjdaa.Ab
set_option linter.unusedVariables false
set_option linter.unusedSimpArgs false
open Go.RowKit

theorem eAppO (es : List Ety) (e : Ety) (k : Nat) (h : k < es.length) : eR (es.take k) ++ [eRow e] ++ eR (es.drop (k + 1)) = eR (es.set k e) := by
  rw [eApp, List.set_eq_take_append_cons_drop, if_pos h]
set_option maxRecDepth 100000 in
set_option maxHeartbeats 16000000 in
theorem sinstF' (es : List Ety) (b k v m z o : Int) (hl : es.length ≤ 1000000) : Fun Try.prog 21 [slV (eR es), eA b k v m z o] [] (.tup [slV (eR (sinst es ⟨b, k, v, m, z, o⟩).1), eV (sinst es ⟨b, k, v, m, z, o⟩).2.1, bV (sinst es ⟨b, k, v, m, z, o⟩).2.2]) := by
  have hv := svalidF' es hl
  have hr := sentryF b k v m z o
  by_cases hs : svalid es = true
  · rw [hs] at hv
    by_cases h2 : rightE ⟨b, k, v, m, z, o⟩ = true
    · rw [h2] at hr
      have sp := splaceF es b hl
      have sf := sfindF' es b hl
      rw [sfind_yes hs] at sf
      have hle := splace_le es b
      by_cases h3 : shere es b = true
      · obtain ⟨hlt, q1, q2⟩ := shere_lt h3
        have hw : iwrap .i64 ((splace es b : Int) + 1) = ((splace es b + 1 : Nat) : Int) := (w64_in (by omega)).trans (by omega)
        rw [h3, q2] at sf
        by_cases h4 : v ≤ (sold es b).v
        · rw [sinst_keep hs h2 h3 h4]
          have h4' : v ≤ es[splace es b].v := by rw [q2] at h4; exact h4
          dsimp only
          rw [q2]
          refine fun_of_vc tabOk mixOk Try.func21 rfl (by rfl) (rs := [.tmp 4, .cell 5 34, .tmp 6]) rfl rfl 63 ?_; rw [Try.ntmps21]
          (conv => whnf); repeat ((first | refine And.intro DrawOk.go ?_ | refine And.intro rfl ?_ | refine And.intro (fun _ => ?_) (fun h => Bool.noConfusion h) | refine And.intro (fun h => Bool.noConfusion h) (fun _ => ?_)); conv => whnf)
          refine ⟨_, _, hv, ?_⟩
          (conv => whnf); repeat ((first | refine And.intro DrawOk.go ?_ | refine And.intro rfl ?_ | refine And.intro (fun _ => ?_) (fun h => Bool.noConfusion h) | refine And.intro (fun h => Bool.noConfusion h) (fun _ => ?_)); conv => whnf)
          refine ⟨_, _, hr, ?_⟩
          (conv => whnf); repeat ((first | refine And.intro DrawOk.go ?_ | refine And.intro rfl ?_ | refine And.intro (fun _ => ?_) (fun h => Bool.noConfusion h) | refine And.intro (fun h => Bool.noConfusion h) (fun _ => ?_)); conv => whnf)
          refine ⟨_, _, sp, ?_⟩
          (conv => whnf); repeat ((first | refine And.intro DrawOk.go ?_ | refine And.intro rfl ?_ | refine And.intro (fun _ => ?_) (fun h => Bool.noConfusion h) | refine And.intro (fun h => Bool.noConfusion h) (fun _ => ?_)); conv => whnf)
          refine ⟨_, _, sf, ?_⟩
          (conv => whnf); repeat ((first | refine And.intro DrawOk.go ?_ | refine And.intro rfl ?_ | refine And.intro (fun _ => ?_) (fun h => Bool.noConfusion h) | refine And.intro (fun h => Bool.noConfusion h) (fun _ => ?_)); conv => whnf)
          refine And.intro (fun _ => ?_) (fun h => by simp at h; omega)
          (conv => whnf); repeat ((first | refine And.intro DrawOk.go ?_ | refine And.intro rfl ?_ | refine And.intro (fun _ => ?_) (fun h => Bool.noConfusion h) | refine And.intro (fun h => Bool.noConfusion h) (fun _ => ?_)); conv => whnf)
          refine Exists.intro [] (And.intro List.nodup_nil ?_); ((conv => whnf); repeat ((first | refine And.intro DrawOk.go ?_ | refine And.intro rfl ?_ | refine And.intro (fun _ => ?_) (fun h => Bool.noConfusion h) | refine And.intro (fun h => Bool.noConfusion h) (fun _ => ?_)); conv => whnf))
          rfl
        · rw [sinst_over hs h2 h3 h4]
          have h4' : ¬ v ≤ es[splace es b].v := by rw [q2] at h4; exact h4
          dsimp only
          rw [q2]
          refine fun_of_vc tabOk mixOk Try.func21 rfl (by rfl) (rs := [.tmp 4, .cell 5 34, .tmp 6]) rfl rfl 63 ?_; rw [Try.ntmps21]
          (conv => whnf); repeat ((first | refine And.intro DrawOk.go ?_ | refine And.intro rfl ?_ | refine And.intro (fun _ => ?_) (fun h => Bool.noConfusion h) | refine And.intro (fun h => Bool.noConfusion h) (fun _ => ?_)); conv => whnf)
          refine ⟨_, _, hv, ?_⟩
          (conv => whnf); repeat ((first | refine And.intro DrawOk.go ?_ | refine And.intro rfl ?_ | refine And.intro (fun _ => ?_) (fun h => Bool.noConfusion h) | refine And.intro (fun h => Bool.noConfusion h) (fun _ => ?_)); conv => whnf)
          refine ⟨_, _, hr, ?_⟩
          (conv => whnf); repeat ((first | refine And.intro DrawOk.go ?_ | refine And.intro rfl ?_ | refine And.intro (fun _ => ?_) (fun h => Bool.noConfusion h) | refine And.intro (fun h => Bool.noConfusion h) (fun _ => ?_)); conv => whnf)
          refine ⟨_, _, sp, ?_⟩
          (conv => whnf); repeat ((first | refine And.intro DrawOk.go ?_ | refine And.intro rfl ?_ | refine And.intro (fun _ => ?_) (fun h => Bool.noConfusion h) | refine And.intro (fun h => Bool.noConfusion h) (fun _ => ?_)); conv => whnf)
          refine ⟨_, _, sf, ?_⟩
          (conv => whnf); repeat ((first | refine And.intro DrawOk.go ?_ | refine And.intro rfl ?_ | refine And.intro (fun _ => ?_) (fun h => Bool.noConfusion h) | refine And.intro (fun h => Bool.noConfusion h) (fun _ => ?_)); conv => whnf)
          refine And.intro (fun h => by simp at h; omega) (fun _ => ?_)
          (conv => whnf); repeat ((first | refine And.intro DrawOk.go ?_ | refine And.intro rfl ?_ | refine And.intro (fun _ => ?_) (fun h => Bool.noConfusion h) | refine And.intro (fun h => Bool.noConfusion h) (fun _ => ?_)); conv => whnf)
          refine ⟨eSz es, ?_⟩
          (conv => whnf); repeat ((first | refine And.intro DrawOk.go ?_ | refine And.intro rfl ?_ | refine And.intro (fun _ => ?_) (fun h => Bool.noConfusion h) | refine And.intro (fun h => Bool.noConfusion h) (fun _ => ?_)); conv => whnf)
          refine ⟨by omega, by omega, by rw [eLen]; omega, ?_⟩
          (conv => whnf); repeat ((first | refine And.intro DrawOk.go ?_ | refine And.intro rfl ?_ | refine And.intro (fun _ => ?_) (fun h => Bool.noConfusion h) | refine And.intro (fun h => Bool.noConfusion h) (fun _ => ?_)); conv => whnf)
          rw [eTake]
          refine ⟨eSz _, ?_⟩
          (conv => whnf); repeat ((first | refine And.intro DrawOk.go ?_ | refine And.intro rfl ?_ | refine And.intro (fun _ => ?_) (fun h => Bool.noConfusion h) | refine And.intro (fun h => Bool.noConfusion h) (fun _ => ?_)); conv => whnf)
          refine ⟨bytes_le (by decide) (by simp [eR]; omega), ?_⟩
          (conv => whnf); repeat ((first | refine And.intro DrawOk.go ?_ | refine And.intro rfl ?_ | refine And.intro (fun _ => ?_) (fun h => Bool.noConfusion h) | refine And.intro (fun h => Bool.noConfusion h) (fun _ => ?_)); conv => whnf)
          refine ⟨eSz [⟨b, k, v, m, z, o⟩], ?_⟩
          (conv => whnf); repeat ((first | refine And.intro DrawOk.go ?_ | refine And.intro rfl ?_ | refine And.intro (fun _ => ?_) (fun h => Bool.noConfusion h) | refine And.intro (fun h => Bool.noConfusion h) (fun _ => ?_)); conv => whnf)
          refine ⟨bytes_le (by decide) (by simp [eR]; omega), ?_⟩
          (conv => whnf); repeat ((first | refine And.intro DrawOk.go ?_ | refine And.intro rfl ?_ | refine And.intro (fun _ => ?_) (fun h => Bool.noConfusion h) | refine And.intro (fun h => Bool.noConfusion h) (fun _ => ?_)); conv => whnf)
          rw [hw]
          refine ⟨eSz es, ?_⟩
          (conv => whnf); repeat ((first | refine And.intro DrawOk.go ?_ | refine And.intro rfl ?_ | refine And.intro (fun _ => ?_) (fun h => Bool.noConfusion h) | refine And.intro (fun h => Bool.noConfusion h) (fun _ => ?_)); conv => whnf)
          refine ⟨by omega, by rw [eLen]; omega, by omega, ?_⟩
          (conv => whnf); repeat ((first | refine And.intro DrawOk.go ?_ | refine And.intro rfl ?_ | refine And.intro (fun _ => ?_) (fun h => Bool.noConfusion h) | refine And.intro (fun h => Bool.noConfusion h) (fun _ => ?_)); conv => whnf)
          rw [eDrop]
          refine ⟨eSz _, ?_⟩
          (conv => whnf); repeat ((first | refine And.intro DrawOk.go ?_ | refine And.intro rfl ?_ | refine And.intro (fun _ => ?_) (fun h => Bool.noConfusion h) | refine And.intro (fun h => Bool.noConfusion h) (fun _ => ?_)); conv => whnf)
          refine ⟨bytes_le (by decide) (by simp [eR]; omega), ?_⟩
          (conv => whnf); repeat ((first | refine And.intro DrawOk.go ?_ | refine And.intro rfl ?_ | refine And.intro (fun _ => ?_) (fun h => Bool.noConfusion h) | refine And.intro (fun h => Bool.noConfusion h) (fun _ => ?_)); conv => whnf)
          refine Exists.intro [] (And.intro List.nodup_nil ?_); ((conv => whnf); repeat ((first | refine And.intro DrawOk.go ?_ | refine And.intro rfl ?_ | refine And.intro (fun _ => ?_) (fun h => Bool.noConfusion h) | refine And.intro (fun h => Bool.noConfusion h) (fun _ => ?_)); conv => whnf))
          exact congrArg (fun l => AT.tup [slV l, eV es[splace es b], bV true]) (eAppO es ⟨b, k, v, m, z, o⟩ _ hlt)
      · have h3 : shere es b = false := by simpa using h3
        rw [h3, sold_no h3] at sf
        rw [sinst_new hs h2 h3]
        refine fun_of_vc tabOk mixOk Try.func21 rfl (by rfl) (rs := [.tmp 4, .cell 5 34, .tmp 6]) rfl rfl 63 ?_; rw [Try.ntmps21]
        (conv => whnf); repeat ((first | refine And.intro DrawOk.go ?_ | refine And.intro rfl ?_ | refine And.intro (fun _ => ?_) (fun h => Bool.noConfusion h) | refine And.intro (fun h => Bool.noConfusion h) (fun _ => ?_)); conv => whnf)
        refine ⟨_, _, hv, ?_⟩
        (conv => whnf); repeat ((first | refine And.intro DrawOk.go ?_ | refine And.intro rfl ?_ | refine And.intro (fun _ => ?_) (fun h => Bool.noConfusion h) | refine And.intro (fun h => Bool.noConfusion h) (fun _ => ?_)); conv => whnf)
        refine ⟨_, _, hr, ?_⟩
        (conv => whnf); repeat ((first | refine And.intro DrawOk.go ?_ | refine And.intro rfl ?_ | refine And.intro (fun _ => ?_) (fun h => Bool.noConfusion h) | refine And.intro (fun h => Bool.noConfusion h) (fun _ => ?_)); conv => whnf)
        refine ⟨_, _, sp, ?_⟩
        (conv => whnf); repeat ((first | refine And.intro DrawOk.go ?_ | refine And.intro rfl ?_ | refine And.intro (fun _ => ?_) (fun h => Bool.noConfusion h) | refine And.intro (fun h => Bool.noConfusion h) (fun _ => ?_)); conv => whnf)
        refine ⟨_, _, sf, ?_⟩
        (conv => whnf); repeat ((first | refine And.intro DrawOk.go ?_ | refine And.intro rfl ?_ | refine And.intro (fun _ => ?_) (fun h => Bool.noConfusion h) | refine And.intro (fun h => Bool.noConfusion h) (fun _ => ?_)); conv => whnf)
        refine ⟨eSz es, ?_⟩
        (conv => whnf); repeat ((first | refine And.intro DrawOk.go ?_ | refine And.intro rfl ?_ | refine And.intro (fun _ => ?_) (fun h => Bool.noConfusion h) | refine And.intro (fun h => Bool.noConfusion h) (fun _ => ?_)); conv => whnf)
        refine ⟨by omega, by omega, by rw [eLen]; omega, ?_⟩
        (conv => whnf); repeat ((first | refine And.intro DrawOk.go ?_ | refine And.intro rfl ?_ | refine And.intro (fun _ => ?_) (fun h => Bool.noConfusion h) | refine And.intro (fun h => Bool.noConfusion h) (fun _ => ?_)); conv => whnf)
        rw [eTake]
        refine ⟨eSz _, ?_⟩
        (conv => whnf); repeat ((first | refine And.intro DrawOk.go ?_ | refine And.intro rfl ?_ | refine And.intro (fun _ => ?_) (fun h => Bool.noConfusion h) | refine And.intro (fun h => Bool.noConfusion h) (fun _ => ?_)); conv => whnf)
        refine ⟨bytes_le (by decide) (by simp [eR]; omega), ?_⟩
        (conv => whnf); repeat ((first | refine And.intro DrawOk.go ?_ | refine And.intro rfl ?_ | refine And.intro (fun _ => ?_) (fun h => Bool.noConfusion h) | refine And.intro (fun h => Bool.noConfusion h) (fun _ => ?_)); conv => whnf)
        refine ⟨eSz [⟨b, k, v, m, z, o⟩], ?_⟩
        (conv => whnf); repeat ((first | refine And.intro DrawOk.go ?_ | refine And.intro rfl ?_ | refine And.intro (fun _ => ?_) (fun h => Bool.noConfusion h) | refine And.intro (fun h => Bool.noConfusion h) (fun _ => ?_)); conv => whnf)
        refine ⟨bytes_le (by decide) (by simp [eR]; omega), ?_⟩
        (conv => whnf); repeat ((first | refine And.intro DrawOk.go ?_ | refine And.intro rfl ?_ | refine And.intro (fun _ => ?_) (fun h => Bool.noConfusion h) | refine And.intro (fun h => Bool.noConfusion h) (fun _ => ?_)); conv => whnf)
        refine ⟨eSz es, ?_⟩
        (conv => whnf); repeat ((first | refine And.intro DrawOk.go ?_ | refine And.intro rfl ?_ | refine And.intro (fun _ => ?_) (fun h => Bool.noConfusion h) | refine And.intro (fun h => Bool.noConfusion h) (fun _ => ?_)); conv => whnf)
        refine ⟨by omega, by rw [eLen]; omega, by omega, ?_⟩
        (conv => whnf); repeat ((first | refine And.intro DrawOk.go ?_ | refine And.intro rfl ?_ | refine And.intro (fun _ => ?_) (fun h => Bool.noConfusion h) | refine And.intro (fun h => Bool.noConfusion h) (fun _ => ?_)); conv => whnf)
        rw [eDrop]
        refine ⟨eSz _, ?_⟩
        (conv => whnf); repeat ((first | refine And.intro DrawOk.go ?_ | refine And.intro rfl ?_ | refine And.intro (fun _ => ?_) (fun h => Bool.noConfusion h) | refine And.intro (fun h => Bool.noConfusion h) (fun _ => ?_)); conv => whnf)
        refine ⟨bytes_le (by decide) (by simp [eR]; omega), ?_⟩
        (conv => whnf); repeat ((first | refine And.intro DrawOk.go ?_ | refine And.intro rfl ?_ | refine And.intro (fun _ => ?_) (fun h => Bool.noConfusion h) | refine And.intro (fun h => Bool.noConfusion h) (fun _ => ?_)); conv => whnf)
        refine Exists.intro [] (And.intro List.nodup_nil ?_); ((conv => whnf); repeat ((first | refine And.intro DrawOk.go ?_ | refine And.intro rfl ?_ | refine And.intro (fun _ => ?_) (fun h => Bool.noConfusion h) | refine And.intro (fun h => Bool.noConfusion h) (fun _ => ?_)); conv => whnf))
        exact congrArg (fun l => AT.tup [slV l, eV e0, bV true]) (eApp (es.take (splace es b)) ⟨b, k, v, m, z, o⟩ (es.drop (splace es b)))
    · have h2 : rightE ⟨b, k, v, m, z, o⟩ = false := by simpa using h2
      rw [h2] at hr
      rw [sinst_bad hs h2]
      refine fun_of_vc tabOk mixOk Try.func21 rfl (by rfl) (rs := [.tmp 4, .cell 5 34, .tmp 6]) rfl rfl 63 ?_; rw [Try.ntmps21]
      (conv => whnf); repeat ((first | refine And.intro DrawOk.go ?_ | refine And.intro rfl ?_ | refine And.intro (fun _ => ?_) (fun h => Bool.noConfusion h) | refine And.intro (fun h => Bool.noConfusion h) (fun _ => ?_)); conv => whnf)
      refine ⟨_, _, hv, ?_⟩
      (conv => whnf); repeat ((first | refine And.intro DrawOk.go ?_ | refine And.intro rfl ?_ | refine And.intro (fun _ => ?_) (fun h => Bool.noConfusion h) | refine And.intro (fun h => Bool.noConfusion h) (fun _ => ?_)); conv => whnf)
      refine ⟨_, _, hr, ?_⟩
      (conv => whnf); repeat ((first | refine And.intro DrawOk.go ?_ | refine And.intro rfl ?_ | refine And.intro (fun _ => ?_) (fun h => Bool.noConfusion h) | refine And.intro (fun h => Bool.noConfusion h) (fun _ => ?_)); conv => whnf)
      refine Exists.intro [] (And.intro List.nodup_nil ?_); ((conv => whnf); repeat ((first | refine And.intro DrawOk.go ?_ | refine And.intro rfl ?_ | refine And.intro (fun _ => ?_) (fun h => Bool.noConfusion h) | refine And.intro (fun h => Bool.noConfusion h) (fun _ => ?_)); conv => whnf))
      rfl
  · have hs : svalid es = false := by simpa using hs
    rw [hs] at hv
    rw [sinst_no hs]
    refine fun_of_vc tabOk mixOk Try.func21 rfl (by rfl) (rs := [.tmp 4, .cell 5 34, .tmp 6]) rfl rfl 63 ?_; rw [Try.ntmps21]
    (conv => whnf); repeat ((first | refine And.intro DrawOk.go ?_ | refine And.intro rfl ?_ | refine And.intro (fun _ => ?_) (fun h => Bool.noConfusion h) | refine And.intro (fun h => Bool.noConfusion h) (fun _ => ?_)); conv => whnf)
    refine ⟨_, _, hv, ?_⟩
    (conv => whnf); repeat ((first | refine And.intro DrawOk.go ?_ | refine And.intro rfl ?_ | refine And.intro (fun _ => ?_) (fun h => Bool.noConfusion h) | refine And.intro (fun h => Bool.noConfusion h) (fun _ => ?_)); conv => whnf)
    refine Exists.intro [] (And.intro List.nodup_nil ?_); ((conv => whnf); repeat ((first | refine And.intro DrawOk.go ?_ | refine And.intro rfl ?_ | refine And.intro (fun _ => ?_) (fun h => Bool.noConfusion h) | refine And.intro (fun h => Bool.noConfusion h) (fun _ => ?_)); conv => whnf))
    rfl

set_option maxRecDepth 100000 in
set_option maxHeartbeats 4000000 in
theorem ssameF (es : List Ety) (hl : es.length ≤ 1000000) : Fun Try.prog 22 [slV (eR es), slV (eR es)] [] (ATbool true) := by
  refine fun_of_vc tabOk mixOk Try.func22 rfl (by rfl) (rs := [.tmp 4]) rfl rfl 30 ?_; rw [Try.ntmps22]
  (conv => whnf); repeat ((first | refine And.intro DrawOk.go ?_ | refine And.intro rfl ?_ | refine And.intro (fun _ => ?_) (fun h => Bool.noConfusion h) | refine And.intro (fun h => Bool.noConfusion h) (fun _ => ?_)); conv => whnf)
  refine And.intro (fun h1 => by simp at h1) (fun _ => ?_)
  (conv => whnf); repeat ((first | refine And.intro DrawOk.go ?_ | refine And.intro rfl ?_ | refine And.intro (fun _ => ?_) (fun h => Bool.noConfusion h) | refine And.intro (fun h => Bool.noConfusion h) (fun _ => ?_)); conv => whnf)
  refine vc_loop [0, 1] [] (X := Nat) (fun k gs => [(5, ATint k)]) (fun _ _ => []) (fun k => k ≤ es.length) (fun k => es.length - k) _ (Ghost.refl _) 0 (by omega) ?_ ?_
  · (refine And.intro rfl (And.intro rfl ?_)); (repeat' (first | exact trivial | exact rfl | apply And.intro | (refine congrArg (Value.int .i64) (w64_nat ?_); omega)))
  rintro gs k hk
  (conv => whnf); repeat ((first | refine And.intro DrawOk.go ?_ | refine And.intro rfl ?_ | refine And.intro (fun _ => ?_) (fun h => Bool.noConfusion h) | refine And.intro (fun h => Bool.noConfusion h) (fun _ => ?_)); conv => whnf)
  refine And.intro (fun h4 => ?_) (fun h4 => ?_)
  · have hlt : k < es.length := by have := of_decide_eq_true h4; simp [eR] at this; omega
    (conv => whnf); repeat ((first | refine And.intro DrawOk.go ?_ | refine And.intro rfl ?_ | refine And.intro (fun _ => ?_) (fun h => Bool.noConfusion h) | refine And.intro (fun h => Bool.noConfusion h) (fun _ => ?_)); conv => whnf)
    refine ⟨by omega, _, eItem hlt, rfl, ?_⟩
    (conv => whnf); repeat ((first | refine And.intro DrawOk.go ?_ | refine And.intro rfl ?_ | refine And.intro (fun _ => ?_) (fun h => Bool.noConfusion h) | refine And.intro (fun h => Bool.noConfusion h) (fun _ => ?_)); conv => whnf)
    refine ⟨by omega, _, eItem hlt, rfl, ?_⟩
    (conv => whnf); repeat ((first | refine And.intro DrawOk.go ?_ | refine And.intro rfl ?_ | refine And.intro (fun _ => ?_) (fun h => Bool.noConfusion h) | refine And.intro (fun h => Bool.noConfusion h) (fun _ => ?_)); conv => whnf)
    refine And.intro (fun h5 => by simp at h5) (fun _ => ?_)
    (conv => whnf); repeat ((first | refine And.intro DrawOk.go ?_ | refine And.intro rfl ?_ | refine And.intro (fun _ => ?_) (fun h => Bool.noConfusion h) | refine And.intro (fun h => Bool.noConfusion h) (fun _ => ?_)); conv => whnf)
    refine again (k + 1) hlt (by omega) ?_
    (refine And.intro rfl (And.intro rfl ?_)); (repeat' (first | exact trivial | exact rfl | apply And.intro | (refine congrArg (Value.int .i64) (w64_nat ?_); omega)))
  · (conv => whnf); repeat ((first | refine And.intro DrawOk.go ?_ | refine And.intro rfl ?_ | refine And.intro (fun _ => ?_) (fun h => Bool.noConfusion h) | refine And.intro (fun h => Bool.noConfusion h) (fun _ => ?_)); conv => whnf)
    refine Exists.intro [] (And.intro List.nodup_nil ?_); ((conv => whnf); repeat ((first | refine And.intro DrawOk.go ?_ | refine And.intro rfl ?_ | refine And.intro (fun _ => ?_) (fun h => Bool.noConfusion h) | refine And.intro (fun h => Bool.noConfusion h) (fun _ => ?_)); conv => whnf))
    rfl

theorem sdrop_no {es : List Ety} {c : Int} (h : svalid es = false) : sdrop es c = ([], []) := by unfold sdrop; rw [h]; rfl
theorem sdrop_yes {es : List Ety} {c : Int} (h : svalid es = true) : sdrop es c = (es.filter (fun e => !tomb c e), es.filter (tomb c)) := by unfold sdrop; rw [h]; rfl
def dinv (es : List Ety) (c : Int) (x : Nat × List Ety × List Ety) : Prop := x.1 ≤ es.length ∧ x.2.1.length ≤ x.1 ∧ x.2.2.length ≤ x.1 ∧ es.filter (fun e => !tomb c e) = x.2.1 ++ (es.drop x.1).filter (fun e => !tomb c e) ∧ es.filter (tomb c) = x.2.2 ++ (es.drop x.1).filter (tomb c)
theorem dinv_gone {es : List Ety} {c : Int} {i : Nat} {a g : List Ety} (h : dinv es c (i, a, g)) (hlt : i < es.length) (ht : tomb c es[i] = true) : dinv es c (i + 1, a, g ++ [es[i]]) := by
  obtain ⟨h1, h2, h3, h4, h5⟩ := h
  dsimp only at h1 h2 h3 h4 h5
  rw [List.drop_eq_getElem_cons hlt] at h4 h5
  refine ⟨hlt, by dsimp only; omega, by simp; omega, ?_, ?_⟩
  · rw [h4, List.filter_cons_of_neg (by simp [ht])]
  · rw [h5, List.filter_cons_of_pos ht, List.append_assoc]; rfl
theorem dinv_kept {es : List Ety} {c : Int} {i : Nat} {a g : List Ety} (h : dinv es c (i, a, g)) (hlt : i < es.length) (ht : tomb c es[i] = false) : dinv es c (i + 1, a ++ [es[i]], g) := by
  obtain ⟨h1, h2, h3, h4, h5⟩ := h
  dsimp only at h1 h2 h3 h4 h5
  rw [List.drop_eq_getElem_cons hlt] at h4 h5
  refine ⟨hlt, by simp; omega, by dsimp only; omega, ?_, ?_⟩
  · rw [h4, List.filter_cons_of_pos (by simp [ht]), List.append_assoc]; rfl
  · rw [h5, List.filter_cons_of_neg (by simp [ht])]
theorem dinv_end {es : List Ety} {c : Int} {i : Nat} {a g : List Ety} (h : dinv es c (i, a, g)) (hge : ¬ i < es.length) : es.filter (fun e => !tomb c e) = a ∧ es.filter (tomb c) = g := by
  obtain ⟨h1, h2, h3, h4, h5⟩ := h
  dsimp only at h1 h2 h3 h4 h5
  rw [List.drop_of_length_le (by omega)] at h4 h5
  exact ⟨by rw [h4]; simp, by rw [h5]; simp⟩
theorem eSnoc (a : List Ety) (e : Ety) : eR a ++ [eRow e] = eR (a ++ [e]) := by simp [eR]
set_option maxRecDepth 100000 in
set_option maxHeartbeats 16000000 in
theorem sdropF (es : List Ety) (c : Int) (hl : es.length ≤ 1000000) : Fun Try.prog 23 [slV (eR es), i64V c] [] (.tup [slV (eR (sdrop es c).1), slV (eR (sdrop es c).2)]) := by
  have hv := svalidF es hl
  by_cases hs : svalid es = true
  · rw [hs] at hv
    rw [sdrop_yes hs]
    refine fun_of_vc tabOk mixOk Try.func23 rfl (by rfl) (rs := [.tmp 4, .tmp 5]) rfl rfl 43 ?_; rw [Try.ntmps23]
    (conv => whnf); repeat ((first | refine And.intro DrawOk.go ?_ | refine And.intro rfl ?_ | refine And.intro (fun _ => ?_) (fun h => Bool.noConfusion h) | refine And.intro (fun h => Bool.noConfusion h) (fun _ => ?_)); conv => whnf)
    refine ⟨_, _, hv, ?_⟩
    (conv => whnf); repeat ((first | refine And.intro DrawOk.go ?_ | refine And.intro rfl ?_ | refine And.intro (fun _ => ?_) (fun h => Bool.noConfusion h) | refine And.intro (fun h => Bool.noConfusion h) (fun _ => ?_)); conv => whnf)
    refine vc_loop [1, 4, 5, 13, 14] [] (X := Nat × List Ety × List Ety) (fun x gs => [(15, ATint x.1), (6, .v (.c (.own 35 (gs 35)))), (7, .v (.c (.own 31 (gs 31))))]) (fun x gs => [(35, .row (gs 35) 34 6 (eR x.2.1)), (31, .row (gs 31) 34 6 (eR x.2.2))]) (dinv es c) (fun x => es.length - x.1) _ ((Ghost.ownNil 6 35 34 6 rfl (Nat.le_of_ble_eq_true rfl)).trans (Ghost.ownNil 7 31 34 6 rfl (Nat.le_of_ble_eq_true rfl))) (0, [], []) ⟨by omega, by simp, by simp, rfl, rfl⟩ ?_ ?_
    · (refine And.intro rfl (And.intro rfl ?_)); (repeat' (first | exact trivial | exact rfl | apply And.intro | (refine congrArg (Value.int .i64) (w64_nat ?_); omega)))
    rintro gs ⟨i, ka, ga⟩ hi
    have hi1 := hi.1
    have hi2 := hi.2.1
    have hi3 := hi.2.2.1
    dsimp only at hi1 hi2 hi3 ⊢
    (conv => whnf); repeat ((first | refine And.intro DrawOk.go ?_ | refine And.intro rfl ?_ | refine And.intro (fun _ => ?_) (fun h => Bool.noConfusion h) | refine And.intro (fun h => Bool.noConfusion h) (fun _ => ?_)); conv => whnf)
    refine And.intro (fun h => ?_) (fun h => ?_)
    · have hlt : i < es.length := by have := of_decide_eq_true h; simp [eR] at this; omega
      (conv => whnf); repeat ((first | refine And.intro DrawOk.go ?_ | refine And.intro rfl ?_ | refine And.intro (fun _ => ?_) (fun h => Bool.noConfusion h) | refine And.intro (fun h => Bool.noConfusion h) (fun _ => ?_)); conv => whnf)
      refine ⟨by omega, _, eItem hlt, rfl, ?_⟩
      (conv => whnf); repeat ((first | refine And.intro DrawOk.go ?_ | refine And.intro rfl ?_ | refine And.intro (fun _ => ?_) (fun h => Bool.noConfusion h) | refine And.intro (fun h => Bool.noConfusion h) (fun _ => ?_)); conv => whnf)
      refine And.intro (fun h6 => ?_) (fun h6 => ?_)
      · have h6' : es[i].k = 2 := by simpa using h6
        (conv => whnf); repeat ((first | refine And.intro DrawOk.go ?_ | refine And.intro rfl ?_ | refine And.intro (fun _ => ?_) (fun h => Bool.noConfusion h) | refine And.intro (fun h => Bool.noConfusion h) (fun _ => ?_)); conv => whnf)

        refine And.intro (fun h7 => ?_) (fun h7 => ?_)
        · have h7' := of_decide_eq_true h7
          have ht : tomb c es[i] = true := by unfold tomb; simp [h6', h7']
          (conv => whnf); repeat ((first | refine And.intro DrawOk.go ?_ | refine And.intro rfl ?_ | refine And.intro (fun _ => ?_) (fun h => Bool.noConfusion h) | refine And.intro (fun h => Bool.noConfusion h) (fun _ => ?_)); conv => whnf)
          refine ⟨eSz [es[i]], ?_⟩
          (conv => whnf); repeat ((first | refine And.intro DrawOk.go ?_ | refine And.intro rfl ?_ | refine And.intro (fun _ => ?_) (fun h => Bool.noConfusion h) | refine And.intro (fun h => Bool.noConfusion h) (fun _ => ?_)); conv => whnf)
          refine ⟨bytes_le (by decide) (by simp [eR]; omega), ?_⟩
          (conv => whnf); repeat ((first | refine And.intro DrawOk.go ?_ | refine And.intro rfl ?_ | refine And.intro (fun _ => ?_) (fun h => Bool.noConfusion h) | refine And.intro (fun h => Bool.noConfusion h) (fun _ => ?_)); conv => whnf)
          refine again (i + 1, ka, ga ++ [es[i]]) (dinv_gone hi hlt ht) (by dsimp only; omega) ?_
          (refine And.intro rfl (And.intro rfl ?_)); (repeat' (first | exact trivial | exact rfl | apply And.intro | (refine congrArg (Value.int .i64) (w64_nat ?_); omega)))
          all_goals exact congrArg (Blk.row _ _ _) (eSnoc ga es[i])
        · have h7' := of_decide_eq_false h7
          have ht : tomb c es[i] = false := by unfold tomb; simp [h6']; omega
          (conv => whnf); repeat ((first | refine And.intro DrawOk.go ?_ | refine And.intro rfl ?_ | refine And.intro (fun _ => ?_) (fun h => Bool.noConfusion h) | refine And.intro (fun h => Bool.noConfusion h) (fun _ => ?_)); conv => whnf)
          refine ⟨eSz [es[i]], ?_⟩
          (conv => whnf); repeat ((first | refine And.intro DrawOk.go ?_ | refine And.intro rfl ?_ | refine And.intro (fun _ => ?_) (fun h => Bool.noConfusion h) | refine And.intro (fun h => Bool.noConfusion h) (fun _ => ?_)); conv => whnf)
          refine ⟨bytes_le (by decide) (by simp [eR]; omega), ?_⟩
          (conv => whnf); repeat ((first | refine And.intro DrawOk.go ?_ | refine And.intro rfl ?_ | refine And.intro (fun _ => ?_) (fun h => Bool.noConfusion h) | refine And.intro (fun h => Bool.noConfusion h) (fun _ => ?_)); conv => whnf)
          refine again (i + 1, ka ++ [es[i]], ga) (dinv_kept hi hlt ht) (by dsimp only; omega) ?_
          (refine And.intro rfl (And.intro rfl ?_)); (repeat' (first | exact trivial | exact rfl | apply And.intro | (refine congrArg (Value.int .i64) (w64_nat ?_); omega)))
          all_goals exact congrArg (Blk.row _ _ _) (eSnoc ka es[i])
      · have h6' : ¬ es[i].k = 2 := by simpa using h6
        have ht : tomb c es[i] = false := by unfold tomb; simp [h6']
        (conv => whnf); repeat ((first | refine And.intro DrawOk.go ?_ | refine And.intro rfl ?_ | refine And.intro (fun _ => ?_) (fun h => Bool.noConfusion h) | refine And.intro (fun h => Bool.noConfusion h) (fun _ => ?_)); conv => whnf)
        refine ⟨eSz [es[i]], ?_⟩
        (conv => whnf); repeat ((first | refine And.intro DrawOk.go ?_ | refine And.intro rfl ?_ | refine And.intro (fun _ => ?_) (fun h => Bool.noConfusion h) | refine And.intro (fun h => Bool.noConfusion h) (fun _ => ?_)); conv => whnf)
        refine ⟨bytes_le (by decide) (by simp [eR]; omega), ?_⟩
        (conv => whnf); repeat ((first | refine And.intro DrawOk.go ?_ | refine And.intro rfl ?_ | refine And.intro (fun _ => ?_) (fun h => Bool.noConfusion h) | refine And.intro (fun h => Bool.noConfusion h) (fun _ => ?_)); conv => whnf)
        refine again (i + 1, ka ++ [es[i]], ga) (dinv_kept hi hlt ht) (by dsimp only; omega) ?_
        (refine And.intro rfl (And.intro rfl ?_)); (repeat' (first | exact trivial | exact rfl | apply And.intro | (refine congrArg (Value.int .i64) (w64_nat ?_); omega)))
        all_goals exact congrArg (Blk.row _ _ _) (eSnoc ka es[i])
    · have hge : ¬ i < es.length := by have := of_decide_eq_false h; simp [eR] at this; omega
      obtain ⟨q1, q2⟩ := dinv_end hi hge
      (conv => whnf); repeat ((first | refine And.intro DrawOk.go ?_ | refine And.intro rfl ?_ | refine And.intro (fun _ => ?_) (fun h => Bool.noConfusion h) | refine And.intro (fun h => Bool.noConfusion h) (fun _ => ?_)); conv => whnf)
      refine Exists.intro [] (And.intro List.nodup_nil ?_); ((conv => whnf); repeat ((first | refine And.intro DrawOk.go ?_ | refine And.intro rfl ?_ | refine And.intro (fun _ => ?_) (fun h => Bool.noConfusion h) | refine And.intro (fun h => Bool.noConfusion h) (fun _ => ?_)); conv => whnf))
      rw [q1, q2]; rfl
  · have hs : svalid es = false := by simpa using hs
    rw [hs] at hv
    rw [sdrop_no hs]
    refine fun_of_vc tabOk mixOk Try.func23 rfl (by rfl) (rs := [.tmp 4, .tmp 5]) rfl rfl 43 ?_; rw [Try.ntmps23]
    (conv => whnf); repeat ((first | refine And.intro DrawOk.go ?_ | refine And.intro rfl ?_ | refine And.intro (fun _ => ?_) (fun h => Bool.noConfusion h) | refine And.intro (fun h => Bool.noConfusion h) (fun _ => ?_)); conv => whnf)
    refine ⟨_, _, hv, ?_⟩
    (conv => whnf); repeat ((first | refine And.intro DrawOk.go ?_ | refine And.intro rfl ?_ | refine And.intro (fun _ => ?_) (fun h => Bool.noConfusion h) | refine And.intro (fun h => Bool.noConfusion h) (fun _ => ?_)); conv => whnf)
    refine Exists.intro [] (And.intro List.nodup_nil ?_); ((conv => whnf); repeat ((first | refine And.intro DrawOk.go ?_ | refine And.intro rfl ?_ | refine And.intro (fun _ => ?_) (fun h => Bool.noConfusion h) | refine And.intro (fun h => Bool.noConfusion h) (fun _ => ?_)); conv => whnf))
    rfl

set_option maxRecDepth 100000 in
set_option maxHeartbeats 16000000 in
theorem sdropF' (es : List Ety) (c : Int) (hl : es.length ≤ 1000000) : Fun Try.prog 28 [slV (eR es), i64V c] [] (.tup [slV (eR (sdrop es c).1), slV (eR (sdrop es c).2)]) := by
  have hv := svalidF' es hl
  by_cases hs : svalid es = true
  · rw [hs] at hv
    rw [sdrop_yes hs]
    refine fun_of_vc tabOk mixOk Try.func28 rfl (by rfl) (rs := [.tmp 4, .tmp 5]) rfl rfl 53 ?_; rw [Try.ntmps28]
    (conv => whnf); repeat ((first | refine And.intro DrawOk.go ?_ | refine And.intro rfl ?_ | refine And.intro (fun _ => ?_) (fun h => Bool.noConfusion h) | refine And.intro (fun h => Bool.noConfusion h) (fun _ => ?_)); conv => whnf)
    refine ⟨_, _, hv, ?_⟩
    (conv => whnf); repeat ((first | refine And.intro DrawOk.go ?_ | refine And.intro rfl ?_ | refine And.intro (fun _ => ?_) (fun h => Bool.noConfusion h) | refine And.intro (fun h => Bool.noConfusion h) (fun _ => ?_)); conv => whnf)
    refine vc_loop [0, 1, 4, 5] [] (X := Nat × List Ety × List Ety) (fun x gs => [(8, ATint x.1), (6, .v (.c (.own 46 (gs 46)))), (7, .v (.c (.own 39 (gs 39))))]) (fun x gs => [(46, .row (gs 46) 34 6 (eR x.2.1)), (39, .row (gs 39) 34 6 (eR x.2.2))]) (dinv es c) (fun x => es.length - x.1) _ ((Ghost.ownNil 6 46 34 6 rfl (Nat.le_of_ble_eq_true rfl)).trans (Ghost.ownNil 7 39 34 6 rfl (Nat.le_of_ble_eq_true rfl))) (0, [], []) ⟨by omega, by simp, by simp, rfl, rfl⟩ ?_ ?_
    · (refine And.intro rfl (And.intro rfl ?_)); (repeat' (first | exact trivial | exact rfl | apply And.intro | (refine congrArg (Value.int .i64) (w64_nat ?_); omega)))
    rintro gs ⟨i, ka, ga⟩ hi
    have hi1 := hi.1
    have hi2 := hi.2.1
    have hi3 := hi.2.2.1
    dsimp only at hi1 hi2 hi3 ⊢
    (conv => whnf); repeat ((first | refine And.intro DrawOk.go ?_ | refine And.intro rfl ?_ | refine And.intro (fun _ => ?_) (fun h => Bool.noConfusion h) | refine And.intro (fun h => Bool.noConfusion h) (fun _ => ?_)); conv => whnf)
    refine And.intro (fun h => ?_) (fun h => ?_)
    · have hlt : i < es.length := by have := of_decide_eq_true h; simp [eR] at this; omega
      (conv => whnf); repeat ((first | refine And.intro DrawOk.go ?_ | refine And.intro rfl ?_ | refine And.intro (fun _ => ?_) (fun h => Bool.noConfusion h) | refine And.intro (fun h => Bool.noConfusion h) (fun _ => ?_)); conv => whnf)
      refine ⟨by omega, _, eItem hlt, rfl, ?_⟩
      (conv => whnf); repeat ((first | refine And.intro DrawOk.go ?_ | refine And.intro rfl ?_ | refine And.intro (fun _ => ?_) (fun h => Bool.noConfusion h) | refine And.intro (fun h => Bool.noConfusion h) (fun _ => ?_)); conv => whnf)
      refine And.intro (fun h6 => ?_) (fun h6 => ?_)
      · have h6' : es[i].k = 2 := by simpa using h6
        (conv => whnf); repeat ((first | refine And.intro DrawOk.go ?_ | refine And.intro rfl ?_ | refine And.intro (fun _ => ?_) (fun h => Bool.noConfusion h) | refine And.intro (fun h => Bool.noConfusion h) (fun _ => ?_)); conv => whnf)
        refine ⟨by omega, _, eItem hlt, rfl, ?_⟩
        (conv => whnf); repeat ((first | refine And.intro DrawOk.go ?_ | refine And.intro rfl ?_ | refine And.intro (fun _ => ?_) (fun h => Bool.noConfusion h) | refine And.intro (fun h => Bool.noConfusion h) (fun _ => ?_)); conv => whnf)
        refine And.intro (fun h7 => ?_) (fun h7 => ?_)
        · have h7' := of_decide_eq_true h7
          have ht : tomb c es[i] = true := by unfold tomb; simp [h6', h7']
          (conv => whnf); repeat ((first | refine And.intro DrawOk.go ?_ | refine And.intro rfl ?_ | refine And.intro (fun _ => ?_) (fun h => Bool.noConfusion h) | refine And.intro (fun h => Bool.noConfusion h) (fun _ => ?_)); conv => whnf)
          refine ⟨by omega, _, eItem hlt, rfl, ?_⟩
          (conv => whnf); repeat ((first | refine And.intro DrawOk.go ?_ | refine And.intro rfl ?_ | refine And.intro (fun _ => ?_) (fun h => Bool.noConfusion h) | refine And.intro (fun h => Bool.noConfusion h) (fun _ => ?_)); conv => whnf)
          refine ⟨eSz [es[i]], ?_⟩
          (conv => whnf); repeat ((first | refine And.intro DrawOk.go ?_ | refine And.intro rfl ?_ | refine And.intro (fun _ => ?_) (fun h => Bool.noConfusion h) | refine And.intro (fun h => Bool.noConfusion h) (fun _ => ?_)); conv => whnf)
          refine ⟨bytes_le (by decide) (by simp [eR]; omega), ?_⟩
          (conv => whnf); repeat ((first | refine And.intro DrawOk.go ?_ | refine And.intro rfl ?_ | refine And.intro (fun _ => ?_) (fun h => Bool.noConfusion h) | refine And.intro (fun h => Bool.noConfusion h) (fun _ => ?_)); conv => whnf)
          refine again (i + 1, ka, ga ++ [es[i]]) (dinv_gone hi hlt ht) (by dsimp only; omega) ?_
          (refine And.intro rfl (And.intro rfl ?_)); (repeat' (first | exact trivial | exact rfl | apply And.intro | (refine congrArg (Value.int .i64) (w64_nat ?_); omega)))
          all_goals exact congrArg (Blk.row _ _ _) (eSnoc ga es[i])
        · have h7' := of_decide_eq_false h7
          have ht : tomb c es[i] = false := by unfold tomb; simp [h6']; omega
          (conv => whnf); repeat ((first | refine And.intro DrawOk.go ?_ | refine And.intro rfl ?_ | refine And.intro (fun _ => ?_) (fun h => Bool.noConfusion h) | refine And.intro (fun h => Bool.noConfusion h) (fun _ => ?_)); conv => whnf)
          refine ⟨by omega, _, eItem hlt, rfl, ?_⟩
          (conv => whnf); repeat ((first | refine And.intro DrawOk.go ?_ | refine And.intro rfl ?_ | refine And.intro (fun _ => ?_) (fun h => Bool.noConfusion h) | refine And.intro (fun h => Bool.noConfusion h) (fun _ => ?_)); conv => whnf)
          refine ⟨eSz [es[i]], ?_⟩
          (conv => whnf); repeat ((first | refine And.intro DrawOk.go ?_ | refine And.intro rfl ?_ | refine And.intro (fun _ => ?_) (fun h => Bool.noConfusion h) | refine And.intro (fun h => Bool.noConfusion h) (fun _ => ?_)); conv => whnf)
          refine ⟨bytes_le (by decide) (by simp [eR]; omega), ?_⟩
          (conv => whnf); repeat ((first | refine And.intro DrawOk.go ?_ | refine And.intro rfl ?_ | refine And.intro (fun _ => ?_) (fun h => Bool.noConfusion h) | refine And.intro (fun h => Bool.noConfusion h) (fun _ => ?_)); conv => whnf)
          refine again (i + 1, ka ++ [es[i]], ga) (dinv_kept hi hlt ht) (by dsimp only; omega) ?_
          (refine And.intro rfl (And.intro rfl ?_)); (repeat' (first | exact trivial | exact rfl | apply And.intro | (refine congrArg (Value.int .i64) (w64_nat ?_); omega)))
          all_goals exact congrArg (Blk.row _ _ _) (eSnoc ka es[i])
      · have h6' : ¬ es[i].k = 2 := by simpa using h6
        have ht : tomb c es[i] = false := by unfold tomb; simp [h6']
        (conv => whnf); repeat ((first | refine And.intro DrawOk.go ?_ | refine And.intro rfl ?_ | refine And.intro (fun _ => ?_) (fun h => Bool.noConfusion h) | refine And.intro (fun h => Bool.noConfusion h) (fun _ => ?_)); conv => whnf)
        refine ⟨by omega, _, eItem hlt, rfl, ?_⟩
        (conv => whnf); repeat ((first | refine And.intro DrawOk.go ?_ | refine And.intro rfl ?_ | refine And.intro (fun _ => ?_) (fun h => Bool.noConfusion h) | refine And.intro (fun h => Bool.noConfusion h) (fun _ => ?_)); conv => whnf)
        refine ⟨eSz [es[i]], ?_⟩
        (conv => whnf); repeat ((first | refine And.intro DrawOk.go ?_ | refine And.intro rfl ?_ | refine And.intro (fun _ => ?_) (fun h => Bool.noConfusion h) | refine And.intro (fun h => Bool.noConfusion h) (fun _ => ?_)); conv => whnf)
        refine ⟨bytes_le (by decide) (by simp [eR]; omega), ?_⟩
        (conv => whnf); repeat ((first | refine And.intro DrawOk.go ?_ | refine And.intro rfl ?_ | refine And.intro (fun _ => ?_) (fun h => Bool.noConfusion h) | refine And.intro (fun h => Bool.noConfusion h) (fun _ => ?_)); conv => whnf)
        refine again (i + 1, ka ++ [es[i]], ga) (dinv_kept hi hlt ht) (by dsimp only; omega) ?_
        (refine And.intro rfl (And.intro rfl ?_)); (repeat' (first | exact trivial | exact rfl | apply And.intro | (refine congrArg (Value.int .i64) (w64_nat ?_); omega)))
        all_goals exact congrArg (Blk.row _ _ _) (eSnoc ka es[i])
    · have hge : ¬ i < es.length := by have := of_decide_eq_false h; simp [eR] at this; omega
      obtain ⟨q1, q2⟩ := dinv_end hi hge
      (conv => whnf); repeat ((first | refine And.intro DrawOk.go ?_ | refine And.intro rfl ?_ | refine And.intro (fun _ => ?_) (fun h => Bool.noConfusion h) | refine And.intro (fun h => Bool.noConfusion h) (fun _ => ?_)); conv => whnf)
      refine Exists.intro [] (And.intro List.nodup_nil ?_); ((conv => whnf); repeat ((first | refine And.intro DrawOk.go ?_ | refine And.intro rfl ?_ | refine And.intro (fun _ => ?_) (fun h => Bool.noConfusion h) | refine And.intro (fun h => Bool.noConfusion h) (fun _ => ?_)); conv => whnf))
      rw [q1, q2]; rfl
  · have hs : svalid es = false := by simpa using hs
    rw [hs] at hv
    rw [sdrop_no hs]
    refine fun_of_vc tabOk mixOk Try.func28 rfl (by rfl) (rs := [.tmp 4, .tmp 5]) rfl rfl 53 ?_; rw [Try.ntmps28]
    (conv => whnf); repeat ((first | refine And.intro DrawOk.go ?_ | refine And.intro rfl ?_ | refine And.intro (fun _ => ?_) (fun h => Bool.noConfusion h) | refine And.intro (fun h => Bool.noConfusion h) (fun _ => ?_)); conv => whnf)
    refine ⟨_, _, hv, ?_⟩
    (conv => whnf); repeat ((first | refine And.intro DrawOk.go ?_ | refine And.intro rfl ?_ | refine And.intro (fun _ => ?_) (fun h => Bool.noConfusion h) | refine And.intro (fun h => Bool.noConfusion h) (fun _ => ?_)); conv => whnf)
    refine Exists.intro [] (And.intro List.nodup_nil ?_); ((conv => whnf); repeat ((first | refine And.intro DrawOk.go ?_ | refine And.intro rfl ?_ | refine And.intro (fun _ => ?_) (fun h => Bool.noConfusion h) | refine And.intro (fun h => Bool.noConfusion h) (fun _ => ?_)); conv => whnf))
    rfl
end Go.Proofs.Ytgjcljjgifnjdaa.Ab
