/- Shards: Relocate of both. -/
import Derived.Test.YtgjcljjgifnjdaaSe
namespace Go.Proofs.Ytgjcljjgifnjdaa.Ab
set_option linter.unusedVariables false
set_option linter.unusedSimpArgs false
open Go.RowKit

theorem srel_no {es : List Ety} {b v fz fo tz to m : Int} (h : svalid es = false) : srel es b v fz fo tz to m = ([], false) := by unfold srel; rw [if_pos h]
theorem srel_miss {es : List Ety} {b v fz fo tz to m : Int} (h : svalid es = true) (h2 : shere es b = false) : srel es b v fz fo tz to m = (es, false) := by
  unfold srel; rw [if_neg (by simp [h]), h2, Bool.false_and, if_neg (by simp)]
theorem srel_bad {es : List Ety} {b v fz fo tz to m : Int} (h : svalid es = true) (x : Ety) (hx : sold es b = x) (h3 : ¬ (x.v = v ∧ (x.z = fz ∧ x.o = fo) ∧ (0 ≤ tz ∧ 0 ≤ to) ∧ (0 ≤ m ∧ m ≤ 255))) : srel es b v fz fo tz to m = (es, false) := by
  unfold srel
  rw [if_neg (by simp [h]), hx, if_neg]
  simp only [Bool.and_eq_true, decide_eq_true_eq]
  rintro ⟨_, h1, h2, h4, h5⟩
  exact h3 ⟨h1, h2, h4, h5⟩
theorem srel_ok {es : List Ety} {b v fz fo tz to m : Int} (h : svalid es = true) (h2 : shere es b = true) (x : Ety) (hx : sold es b = x) (h3 : x.v = v ∧ (x.z = fz ∧ x.o = fo) ∧ (0 ≤ tz ∧ 0 ≤ to) ∧ (0 ≤ m ∧ m ≤ 255)) :
    srel es b v fz fo tz to m = (es.set (splace es b) ⟨x.b, x.k, x.v, m, tz, to⟩, true) := by
  unfold srel
  rw [if_neg (by simp [h]), hx, if_pos]
  simp only [Bool.and_eq_true, decide_eq_true_eq]
  exact ⟨h2, h3.1, h3.2.1, h3.2.2.1, h3.2.2.2⟩
theorem eset2 (es : List Ety) (k : Nat) (r : List IV) (e : Ety) : ((eR es).set ((k : Int)).toNat r).set ((k : Int)).toNat (eRow e) = eR (es.set k e) := by rw [List.set_set, eset]
theorem eget2 {es : List Ety} {k : Nat} (h : k < es.length) (r : List IV) : ((eR es).set ((k : Int)).toNat r)[((k : Int)).toNat]? = some r := by simp [eR, h]

set_option maxRecDepth 100000 in
set_option maxHeartbeats 32000000 in
theorem srelF (es : List Ety) (b v fz fo tz to m : Int) (hl : es.length ≤ 1000000) : Fun Try.prog 19 [slV (eR es), i64V b, i64V v, plV fz fo, plV tz to, i64V m] [] (.tup [slV (eR (srel es b v fz fo tz to m).1), bV (srel es b v fz fo tz to m).2]) := by
  have hv := svalidF es hl
  by_cases hs : svalid es = true
  · rw [hs] at hv
    have sf := ssearchF es hs b hl
    have hle := splace_le es b
    by_cases h3 : shere es b = true
    · obtain ⟨hlt, q1, q2⟩ := shere_lt h3
      rw [h3] at sf
      refine fun_of_vc tabOk mixOk Try.func19 rfl (by rfl) (rs := [.tmp 12, .tmp 13]) rfl rfl 74 ?_; rw [Try.ntmps19]
      (conv => whnf); repeat ((first | refine And.intro DrawOk.go ?_ | refine And.intro rfl ?_ | refine And.intro (fun _ => ?_) (fun h => Bool.noConfusion h) | refine And.intro (fun h => Bool.noConfusion h) (fun _ => ?_)); conv => whnf)
      refine ⟨_, _, hv, ?_⟩
      (conv => whnf); repeat ((first | refine And.intro DrawOk.go ?_ | refine And.intro rfl ?_ | refine And.intro (fun _ => ?_) (fun h => Bool.noConfusion h) | refine And.intro (fun h => Bool.noConfusion h) (fun _ => ?_)); conv => whnf)
      refine ⟨_, _, scloneO es hl, ?_⟩
      (conv => whnf); repeat ((first | refine And.intro DrawOk.go ?_ | refine And.intro rfl ?_ | refine And.intro (fun _ => ?_) (fun h => Bool.noConfusion h) | refine And.intro (fun h => Bool.noConfusion h) (fun _ => ?_)); conv => whnf)
      refine ⟨_, _, sf, ?_⟩
      (conv => whnf); repeat ((first | refine And.intro DrawOk.go ?_ | refine And.intro rfl ?_ | refine And.intro (fun _ => ?_) (fun h => Bool.noConfusion h) | refine And.intro (fun h => Bool.noConfusion h) (fun _ => ?_)); conv => whnf)
      repeat' (first | ((refine And.intro (fun h => ?_) (fun h => ?_)) <;> (try simp at h) <;> ((conv => whnf); repeat ((first | refine And.intro DrawOk.go ?_ | refine And.intro rfl ?_ | refine And.intro (fun _ => ?_) (fun h => Bool.noConfusion h) | refine And.intro (fun h => Bool.noConfusion h) (fun _ => ?_)); conv => whnf))) | (refine ⟨_, _, splacedF _ _, ?_⟩; ((conv => whnf); repeat ((first | refine And.intro DrawOk.go ?_ | refine And.intro rfl ?_ | refine And.intro (fun _ => ?_) (fun h => Bool.noConfusion h) | refine And.intro (fun h => Bool.noConfusion h) (fun _ => ?_)); conv => whnf))) | (refine ⟨_, _, smovedF _, ?_⟩; ((conv => whnf); repeat ((first | refine And.intro DrawOk.go ?_ | refine And.intro rfl ?_ | refine And.intro (fun _ => ?_) (fun h => Bool.noConfusion h) | refine And.intro (fun h => Bool.noConfusion h) (fun _ => ?_)); conv => whnf))) | (refine ⟨by omega, _, eItem hlt, rfl, ?_⟩; ((conv => whnf); repeat ((first | refine And.intro DrawOk.go ?_ | refine And.intro rfl ?_ | refine And.intro (fun _ => ?_) (fun h => Bool.noConfusion h) | refine And.intro (fun h => Bool.noConfusion h) (fun _ => ?_)); conv => whnf))) | fail)
      all_goals (first | (refine Exists.intro [] (And.intro List.nodup_nil ?_); ((conv => whnf); repeat ((first | refine And.intro DrawOk.go ?_ | refine And.intro rfl ?_ | refine And.intro (fun _ => ?_) (fun h => Bool.noConfusion h) | refine And.intro (fun h => Bool.noConfusion h) (fun _ => ?_)); conv => whnf)); rw [srel_bad hs _ q2 (by omega)]; rfl) | skip)
      rw [srel_ok hs h3 _ q2 (by omega)]
      refine ⟨by omega, by simp [eR]; omega, ?_⟩
      (conv => whnf); repeat ((first | refine And.intro DrawOk.go ?_ | refine And.intro rfl ?_ | refine And.intro (fun _ => ?_) (fun h => Bool.noConfusion h) | refine And.intro (fun h => Bool.noConfusion h) (fun _ => ?_)); conv => whnf)
      refine ⟨_, eItem hlt, ?_⟩
      (conv => whnf); repeat ((first | refine And.intro DrawOk.go ?_ | refine And.intro rfl ?_ | refine And.intro (fun _ => ?_) (fun h => Bool.noConfusion h) | refine And.intro (fun h => Bool.noConfusion h) (fun _ => ?_)); conv => whnf)
      refine ⟨by omega, by simp [eR]; omega, ?_⟩
      (conv => whnf); repeat ((first | refine And.intro DrawOk.go ?_ | refine And.intro rfl ?_ | refine And.intro (fun _ => ?_) (fun h => Bool.noConfusion h) | refine And.intro (fun h => Bool.noConfusion h) (fun _ => ?_)); conv => whnf)
      refine ⟨_, eget2 hlt _, ?_⟩
      (conv => whnf); repeat ((first | refine And.intro DrawOk.go ?_ | refine And.intro rfl ?_ | refine And.intro (fun _ => ?_) (fun h => Bool.noConfusion h) | refine And.intro (fun h => Bool.noConfusion h) (fun _ => ?_)); conv => whnf)
      refine Exists.intro [] (And.intro List.nodup_nil ?_); ((conv => whnf); repeat ((first | refine And.intro DrawOk.go ?_ | refine And.intro rfl ?_ | refine And.intro (fun _ => ?_) (fun h => Bool.noConfusion h) | refine And.intro (fun h => Bool.noConfusion h) (fun _ => ?_)); conv => whnf))
      exact congrArg (fun l => AT.tup [slV l, bV true]) (eset2 es (splace es b) _ ⟨es[splace es b].b, es[splace es b].k, es[splace es b].v, m, tz, to⟩)
    · have h3 : shere es b = false := by simpa using h3
      rw [h3] at sf
      rw [srel_miss hs h3]
      refine fun_of_vc tabOk mixOk Try.func19 rfl (by rfl) (rs := [.tmp 12, .tmp 13]) rfl rfl 74 ?_; rw [Try.ntmps19]
      (conv => whnf); repeat ((first | refine And.intro DrawOk.go ?_ | refine And.intro rfl ?_ | refine And.intro (fun _ => ?_) (fun h => Bool.noConfusion h) | refine And.intro (fun h => Bool.noConfusion h) (fun _ => ?_)); conv => whnf)
      refine ⟨_, _, hv, ?_⟩
      (conv => whnf); repeat ((first | refine And.intro DrawOk.go ?_ | refine And.intro rfl ?_ | refine And.intro (fun _ => ?_) (fun h => Bool.noConfusion h) | refine And.intro (fun h => Bool.noConfusion h) (fun _ => ?_)); conv => whnf)
      refine ⟨_, _, scloneO es hl, ?_⟩
      (conv => whnf); repeat ((first | refine And.intro DrawOk.go ?_ | refine And.intro rfl ?_ | refine And.intro (fun _ => ?_) (fun h => Bool.noConfusion h) | refine And.intro (fun h => Bool.noConfusion h) (fun _ => ?_)); conv => whnf)
      refine ⟨_, _, sf, ?_⟩
      (conv => whnf); repeat ((first | refine And.intro DrawOk.go ?_ | refine And.intro rfl ?_ | refine And.intro (fun _ => ?_) (fun h => Bool.noConfusion h) | refine And.intro (fun h => Bool.noConfusion h) (fun _ => ?_)); conv => whnf)
      refine Exists.intro [] (And.intro List.nodup_nil ?_); ((conv => whnf); repeat ((first | refine And.intro DrawOk.go ?_ | refine And.intro rfl ?_ | refine And.intro (fun _ => ?_) (fun h => Bool.noConfusion h) | refine And.intro (fun h => Bool.noConfusion h) (fun _ => ?_)); conv => whnf))
      rfl
  · have hs : svalid es = false := by simpa using hs
    rw [hs] at hv
    rw [srel_no hs]
    refine fun_of_vc tabOk mixOk Try.func19 rfl (by rfl) (rs := [.tmp 12, .tmp 13]) rfl rfl 74 ?_; rw [Try.ntmps19]
    (conv => whnf); repeat ((first | refine And.intro DrawOk.go ?_ | refine And.intro rfl ?_ | refine And.intro (fun _ => ?_) (fun h => Bool.noConfusion h) | refine And.intro (fun h => Bool.noConfusion h) (fun _ => ?_)); conv => whnf)
    refine ⟨_, _, hv, ?_⟩
    (conv => whnf); repeat ((first | refine And.intro DrawOk.go ?_ | refine And.intro rfl ?_ | refine And.intro (fun _ => ?_) (fun h => Bool.noConfusion h) | refine And.intro (fun h => Bool.noConfusion h) (fun _ => ?_)); conv => whnf)
    refine Exists.intro [] (And.intro List.nodup_nil ?_); ((conv => whnf); repeat ((first | refine And.intro DrawOk.go ?_ | refine And.intro rfl ?_ | refine And.intro (fun _ => ?_) (fun h => Bool.noConfusion h) | refine And.intro (fun h => Bool.noConfusion h) (fun _ => ?_)); conv => whnf))
    rfl

set_option maxRecDepth 100000 in
set_option maxHeartbeats 32000000 in
theorem srelF' (es : List Ety) (b v fz fo tz to m : Int) (hl : es.length ≤ 1000000) : Fun Try.prog 27 [slV (eR es), i64V b, i64V v, plV fz fo, plV tz to, i64V m] [] (.tup [slV (eR (srel es b v fz fo tz to m).1), bV (srel es b v fz fo tz to m).2]) := by
  have hv := svalidF' es hl
  by_cases hs : svalid es = true
  · rw [hs] at hv
    have sp := splaceF es b hl
    have sf := sfindF' es b hl
    rw [sfind_yes hs] at sf
    have hle := splace_le es b
    by_cases h3 : shere es b = true
    · obtain ⟨hlt, q1, q2⟩ := shere_lt h3
      rw [h3, q2] at sf
      refine fun_of_vc tabOk mixOk Try.func27 rfl (by rfl) (rs := [.tmp 12, .tmp 13]) rfl rfl 81 ?_; rw [Try.ntmps27]
      (conv => whnf); repeat ((first | refine And.intro DrawOk.go ?_ | refine And.intro rfl ?_ | refine And.intro (fun _ => ?_) (fun h => Bool.noConfusion h) | refine And.intro (fun h => Bool.noConfusion h) (fun _ => ?_)); conv => whnf)
      refine ⟨_, _, hv, ?_⟩
      (conv => whnf); repeat ((first | refine And.intro DrawOk.go ?_ | refine And.intro rfl ?_ | refine And.intro (fun _ => ?_) (fun h => Bool.noConfusion h) | refine And.intro (fun h => Bool.noConfusion h) (fun _ => ?_)); conv => whnf)
      refine ⟨_, _, sf, ?_⟩
      (conv => whnf); repeat ((first | refine And.intro DrawOk.go ?_ | refine And.intro rfl ?_ | refine And.intro (fun _ => ?_) (fun h => Bool.noConfusion h) | refine And.intro (fun h => Bool.noConfusion h) (fun _ => ?_)); conv => whnf)
      repeat' (first | ((refine And.intro (fun h => ?_) (fun h => ?_)) <;> (try simp at h) <;> ((conv => whnf); repeat ((first | refine And.intro DrawOk.go ?_ | refine And.intro rfl ?_ | refine And.intro (fun _ => ?_) (fun h => Bool.noConfusion h) | refine And.intro (fun h => Bool.noConfusion h) (fun _ => ?_)); conv => whnf))) | fail)
      all_goals (first | (refine Exists.intro [] (And.intro List.nodup_nil ?_); ((conv => whnf); repeat ((first | refine And.intro DrawOk.go ?_ | refine And.intro rfl ?_ | refine And.intro (fun _ => ?_) (fun h => Bool.noConfusion h) | refine And.intro (fun h => Bool.noConfusion h) (fun _ => ?_)); conv => whnf)); rw [srel_bad hs _ q2 (by omega)]; rfl) | skip)
      rw [srel_ok hs h3 _ q2 (by omega)]
      refine ⟨eSz es, ?_⟩
      (conv => whnf); repeat ((first | refine And.intro DrawOk.go ?_ | refine And.intro rfl ?_ | refine And.intro (fun _ => ?_) (fun h => Bool.noConfusion h) | refine And.intro (fun h => Bool.noConfusion h) (fun _ => ?_)); conv => whnf)
      refine ⟨bytes_le (by decide) (by simp [eR]; omega), ?_⟩
      (conv => whnf); repeat ((first | refine And.intro DrawOk.go ?_ | refine And.intro rfl ?_ | refine And.intro (fun _ => ?_) (fun h => Bool.noConfusion h) | refine And.intro (fun h => Bool.noConfusion h) (fun _ => ?_)); conv => whnf)
      refine ⟨_, _, sp, ?_⟩
      (conv => whnf); repeat ((first | refine And.intro DrawOk.go ?_ | refine And.intro rfl ?_ | refine And.intro (fun _ => ?_) (fun h => Bool.noConfusion h) | refine And.intro (fun h => Bool.noConfusion h) (fun _ => ?_)); conv => whnf)
      refine ⟨by omega, by simp [eR]; omega, ?_⟩
      (conv => whnf); repeat ((first | refine And.intro DrawOk.go ?_ | refine And.intro rfl ?_ | refine And.intro (fun _ => ?_) (fun h => Bool.noConfusion h) | refine And.intro (fun h => Bool.noConfusion h) (fun _ => ?_)); conv => whnf)
      refine ⟨_, eItem hlt, ?_⟩
      (conv => whnf); repeat ((first | refine And.intro DrawOk.go ?_ | refine And.intro rfl ?_ | refine And.intro (fun _ => ?_) (fun h => Bool.noConfusion h) | refine And.intro (fun h => Bool.noConfusion h) (fun _ => ?_)); conv => whnf)
      refine ⟨by omega, by simp [eR]; omega, ?_⟩
      (conv => whnf); repeat ((first | refine And.intro DrawOk.go ?_ | refine And.intro rfl ?_ | refine And.intro (fun _ => ?_) (fun h => Bool.noConfusion h) | refine And.intro (fun h => Bool.noConfusion h) (fun _ => ?_)); conv => whnf)
      refine ⟨_, eget2 hlt _, ?_⟩
      (conv => whnf); repeat ((first | refine And.intro DrawOk.go ?_ | refine And.intro rfl ?_ | refine And.intro (fun _ => ?_) (fun h => Bool.noConfusion h) | refine And.intro (fun h => Bool.noConfusion h) (fun _ => ?_)); conv => whnf)
      refine Exists.intro [] (And.intro List.nodup_nil ?_); ((conv => whnf); repeat ((first | refine And.intro DrawOk.go ?_ | refine And.intro rfl ?_ | refine And.intro (fun _ => ?_) (fun h => Bool.noConfusion h) | refine And.intro (fun h => Bool.noConfusion h) (fun _ => ?_)); conv => whnf))
      exact congrArg (fun l => AT.tup [slV l, bV true]) (eset2 es (splace es b) _ ⟨es[splace es b].b, es[splace es b].k, es[splace es b].v, m, tz, to⟩)
    · have h3 : shere es b = false := by simpa using h3
      rw [h3, sold_no h3] at sf
      rw [srel_miss hs h3]
      refine fun_of_vc tabOk mixOk Try.func27 rfl (by rfl) (rs := [.tmp 12, .tmp 13]) rfl rfl 81 ?_; rw [Try.ntmps27]
      (conv => whnf); repeat ((first | refine And.intro DrawOk.go ?_ | refine And.intro rfl ?_ | refine And.intro (fun _ => ?_) (fun h => Bool.noConfusion h) | refine And.intro (fun h => Bool.noConfusion h) (fun _ => ?_)); conv => whnf)
      refine ⟨_, _, hv, ?_⟩
      (conv => whnf); repeat ((first | refine And.intro DrawOk.go ?_ | refine And.intro rfl ?_ | refine And.intro (fun _ => ?_) (fun h => Bool.noConfusion h) | refine And.intro (fun h => Bool.noConfusion h) (fun _ => ?_)); conv => whnf)
      refine ⟨_, _, sf, ?_⟩
      (conv => whnf); repeat ((first | refine And.intro DrawOk.go ?_ | refine And.intro rfl ?_ | refine And.intro (fun _ => ?_) (fun h => Bool.noConfusion h) | refine And.intro (fun h => Bool.noConfusion h) (fun _ => ?_)); conv => whnf)
      refine Exists.intro [] (And.intro List.nodup_nil ?_); ((conv => whnf); repeat ((first | refine And.intro DrawOk.go ?_ | refine And.intro rfl ?_ | refine And.intro (fun _ => ?_) (fun h => Bool.noConfusion h) | refine And.intro (fun h => Bool.noConfusion h) (fun _ => ?_)); conv => whnf))
      rfl
  · have hs : svalid es = false := by simpa using hs
    rw [hs] at hv
    rw [srel_no hs]
    refine fun_of_vc tabOk mixOk Try.func27 rfl (by rfl) (rs := [.tmp 12, .tmp 13]) rfl rfl 81 ?_; rw [Try.ntmps27]
    (conv => whnf); repeat ((first | refine And.intro DrawOk.go ?_ | refine And.intro rfl ?_ | refine And.intro (fun _ => ?_) (fun h => Bool.noConfusion h) | refine And.intro (fun h => Bool.noConfusion h) (fun _ => ?_)); conv => whnf)
    refine ⟨_, _, hv, ?_⟩
    (conv => whnf); repeat ((first | refine And.intro DrawOk.go ?_ | refine And.intro rfl ?_ | refine And.intro (fun _ => ?_) (fun h => Bool.noConfusion h) | refine And.intro (fun h => Bool.noConfusion h) (fun _ => ?_)); conv => whnf)
    refine Exists.intro [] (And.intro List.nodup_nil ?_); ((conv => whnf); repeat ((first | refine And.intro DrawOk.go ?_ | refine And.intro rfl ?_ | refine And.intro (fun _ => ?_) (fun h => Bool.noConfusion h) | refine And.intro (fun h => Bool.noConfusion h) (fun _ => ?_)); conv => whnf))
    rfl
end Go.Proofs.Ytgjcljjgifnjdaa.Ab
