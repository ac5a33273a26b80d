/- Maps: a copy, which are valid, the shard of a block. No condition. -/
import Derived.Test.YtgjcljjgifnjdaaSg
namespace Go.Proofs.Ytgjcljjgifnjdaa.Ab
set_option linter.unusedVariables false
set_option linter.unusedSimpArgs false
open Go.RowKit

def mR (M : List (List Ety)) : List (List IV) := M.map fun l => [IV.sl (eR l)]
def mpV (M : List (List Ety)) : AV := .agg [.i (.sl (mR M))]
theorem mLen (M : List (List Ety)) : (mR M).length = M.length := by simp [mR]
theorem mItem {M : List (List Ety)} {k : Nat} (h : k < M.length) : (mR M)[((k : Int)).toNat]? = some [IV.sl (eR M[k])] := by simp [mR, h]
theorem mSz (M : List (List Ety)) : ∀ z ∈ mR M, z.length = (tab 28).size := by
  intro z hz
  obtain ⟨l, _, rfl⟩ := List.mem_map.1 hz
  rfl
theorem mSnoc (M : List (List Ety)) (l : List Ety) : mR M ++ [[IV.sl (eR l)]] = mR (M ++ [l]) := by simp [mR]
theorem mSet (M : List (List Ety)) (k : Nat) (l : List Ety) : (mR M).set ((k : Int)).toNat [IV.sl (eR l)] = mR (M.set k l) := by simp [mR, List.map_set]
/-- Not too large. -/
def mOk (M : List (List Ety)) : Prop := M.length ≤ 5864062014805 ∧ (∀ l ∈ M, l.length ≤ 2932031007402) ∧ (M.length ≤ 8 → ∀ l ∈ M, l.length ≤ 1000)
theorem bytes_leN (N : Nat) {n b : Nat} (h1 : N * b ≤ 140737488355328) (h2 : n ≤ N) : n * b ≤ 140737488355328 := Nat.le_trans (Nat.mul_le_mul_right b h2) h1
set_option maxRecDepth 100000 in
set_option maxHeartbeats 4000000 in
theorem vcloneF (es : List Ety) (hl : es.length ≤ 2932031007402) : Fun Try.prog 69 [slV (eR es)] [] (.v (slV (eR es))) := by
  cases es with
  | nil =>
    refine fun_of_vc tabOk mixOk Try.func69 rfl (by rfl) (rs := [.tmp 2]) rfl rfl 12 ?_; rw [Try.ntmps69]
    (conv => whnf); repeat ((first | refine And.intro DrawOk.go ?_ | refine And.intro rfl ?_ | refine And.intro (fun _ => ?_) (fun h => Bool.noConfusion h) | refine And.intro (fun h => Bool.noConfusion h) (fun _ => ?_)); conv => whnf)
    refine And.intro ?_ ?_
    · (conv => whnf); repeat ((first | refine And.intro DrawOk.go ?_ | refine And.intro rfl ?_ | refine And.intro (fun _ => ?_) (fun h => Bool.noConfusion h) | refine And.intro (fun h => Bool.noConfusion h) (fun _ => ?_)); conv => whnf)
      refine Exists.intro [] (And.intro List.nodup_nil ?_); ((conv => whnf); repeat ((first | refine And.intro DrawOk.go ?_ | refine And.intro rfl ?_ | refine And.intro (fun _ => ?_) (fun h => Bool.noConfusion h) | refine And.intro (fun h => Bool.noConfusion h) (fun _ => ?_)); conv => whnf))
      rfl
    · (conv => whnf); repeat ((first | refine And.intro DrawOk.go ?_ | refine And.intro rfl ?_ | refine And.intro (fun _ => ?_) (fun h => Bool.noConfusion h) | refine And.intro (fun h => Bool.noConfusion h) (fun _ => ?_)); conv => whnf)
      refine ⟨eSz [], ?_⟩
      (conv => whnf); repeat ((first | refine And.intro DrawOk.go ?_ | refine And.intro rfl ?_ | refine And.intro (fun _ => ?_) (fun h => Bool.noConfusion h) | refine And.intro (fun h => Bool.noConfusion h) (fun _ => ?_)); conv => whnf)
      refine ⟨bytes_le (by decide) (by simp [eR]), ?_⟩
      (conv => whnf); repeat ((first | refine And.intro DrawOk.go ?_ | refine And.intro rfl ?_ | refine And.intro (fun _ => ?_) (fun h => Bool.noConfusion h) | refine And.intro (fun h => Bool.noConfusion h) (fun _ => ?_)); conv => whnf)
      refine Exists.intro [] (And.intro List.nodup_nil ?_); ((conv => whnf); repeat ((first | refine And.intro DrawOk.go ?_ | refine And.intro rfl ?_ | refine And.intro (fun _ => ?_) (fun h => Bool.noConfusion h) | refine And.intro (fun h => Bool.noConfusion h) (fun _ => ?_)); conv => whnf))
      rfl
  | cons w ws =>
    refine fun_of_vc tabOk mixOk Try.func69 rfl (by rfl) (rs := [.tmp 2]) rfl rfl 12 ?_; rw [Try.ntmps69]
    (conv => whnf); repeat ((first | refine And.intro DrawOk.go ?_ | refine And.intro rfl ?_ | refine And.intro (fun _ => ?_) (fun h => Bool.noConfusion h) | refine And.intro (fun h => Bool.noConfusion h) (fun _ => ?_)); conv => whnf)
    refine ⟨eSz (w :: ws), ?_⟩
    (conv => whnf); repeat ((first | refine And.intro DrawOk.go ?_ | refine And.intro rfl ?_ | refine And.intro (fun _ => ?_) (fun h => Bool.noConfusion h) | refine And.intro (fun h => Bool.noConfusion h) (fun _ => ?_)); conv => whnf)
    refine ⟨bytes_leN 2932031007402 (by decide) (by simp [eR] at hl ⊢; omega), ?_⟩
    (conv => whnf); repeat ((first | refine And.intro DrawOk.go ?_ | refine And.intro rfl ?_ | refine And.intro (fun _ => ?_) (fun h => Bool.noConfusion h) | refine And.intro (fun h => Bool.noConfusion h) (fun _ => ?_)); conv => whnf)
    refine Exists.intro [] (And.intro List.nodup_nil ?_); ((conv => whnf); repeat ((first | refine And.intro DrawOk.go ?_ | refine And.intro rfl ?_ | refine And.intro (fun _ => ?_) (fun h => Bool.noConfusion h) | refine And.intro (fun h => Bool.noConfusion h) (fun _ => ?_)); conv => whnf))
    rfl
theorem wa_b {i : Nat} {M : List (List Ety)} (h : i < M.length) (hM : M.length ≤ 5864062014805) (l : List Ety) : (mR (M.take i)).length + (mR [l]).length ≤ 5864062014805 := by
  rw [mLen, mLen, List.length_take, List.length_singleton]
  omega
theorem wa_lt {i : Nat} {M : List (List Ety)} (h : decide ((i : Int) < ((mR M).length : Int)) = true) : i < M.length := by have := of_decide_eq_true h; rw [mLen] at this; omega
theorem wa_ge {i : Nat} {M : List (List Ety)} (h : decide ((i : Int) < ((mR M).length : Int)) = false) (hi : i ≤ M.length) : i = M.length := by have := of_decide_eq_false h; rw [mLen] at this; omega
theorem wa_i {i : Nat} {M : List (List Ety)} (h : i < M.length) (hM : M.length ≤ 5864062014805) : i ≤ 9223372036854775806 := by omega
set_option maxRecDepth 100000 in
set_option maxHeartbeats 16000000 in
theorem openF (M : List (List Ety)) (hM : mOk M) : Fun Try.prog 55 [mpV M] [] (.v (mpV M)) := by
  obtain ⟨hM1, hM2, _⟩ := hM
  refine fun_of_vc tabOk mixOk Try.func55 rfl (by rfl) (rs := [.cell 2 85]) rfl rfl 28 ?_; rw [Try.ntmps55]
  (conv => whnf); repeat ((first | refine And.intro DrawOk.go ?_ | refine And.intro rfl ?_ | refine And.intro (fun _ => ?_) (fun h => Bool.noConfusion h) | refine And.intro (fun h => Bool.noConfusion h) (fun _ => ?_)); conv => whnf)
  refine vc_loop [2, 3, 7, 8] [2] (X := Nat) (fun i gs => [(9, ATint i)]) (fun i gs => [(3, .var 1 [.own 19 (gs 19)]), (19, .row (gs 19) 28 1 (mR (M.take i)))]) (fun i => i ≤ M.length) (fun i => M.length - i) _ (Ghost.ownNilV 3 0 19 28 1 1 _ rfl rfl (Nat.le_of_ble_eq_true rfl) (by decide)) 0 (Nat.zero_le _) ?_ ?_
  · (refine And.intro rfl (And.intro rfl ?_)); (repeat' (first | exact trivial | exact rfl | apply And.intro | (refine congrArg (Value.int .i64) (w64_nat ?_); omega)))
  intro gs i hi
  (conv => whnf); repeat ((first | refine And.intro DrawOk.go ?_ | refine And.intro rfl ?_ | refine And.intro (fun _ => ?_) (fun h => Bool.noConfusion h) | refine And.intro (fun h => Bool.noConfusion h) (fun _ => ?_)); conv => whnf)
  refine And.intro (fun h => ?_) (fun h => ?_)
  · have hlt := wa_lt h
    have hc := vcloneF M[i] (hM2 _ (List.getElem_mem hlt))
    have hit := mItem hlt
    have hb := wa_b hlt hM1 M[i]
    have hsn : mR (M.take i) ++ mR [M[i]] = mR (M.take (i + 1)) := by rw [List.take_succ_eq_append_getElem hlt, ← mSnoc]; rfl
    have hib := wa_i hlt hM1
    have hsz := mSz [M[i]]
    generalize M[i] = l at hc hit hb hsn hsz
    (conv => whnf); repeat ((first | refine And.intro DrawOk.go ?_ | refine And.intro rfl ?_ | refine And.intro (fun _ => ?_) (fun h => Bool.noConfusion h) | refine And.intro (fun h => Bool.noConfusion h) (fun _ => ?_)); conv => whnf)
    refine ⟨Int.natCast_nonneg _, _, hit, rfl, ?_⟩
    (conv => whnf); repeat ((first | refine And.intro DrawOk.go ?_ | refine And.intro rfl ?_ | refine And.intro (fun _ => ?_) (fun h => Bool.noConfusion h) | refine And.intro (fun h => Bool.noConfusion h) (fun _ => ?_)); conv => whnf)
    refine ⟨_, _, hc, ?_⟩
    (conv => whnf); repeat ((first | refine And.intro DrawOk.go ?_ | refine And.intro rfl ?_ | refine And.intro (fun _ => ?_) (fun h => Bool.noConfusion h) | refine And.intro (fun h => Bool.noConfusion h) (fun _ => ?_)); conv => whnf)
    refine ⟨hsz, ?_⟩
    (conv => whnf); repeat ((first | refine And.intro DrawOk.go ?_ | refine And.intro rfl ?_ | refine And.intro (fun _ => ?_) (fun h => Bool.noConfusion h) | refine And.intro (fun h => Bool.noConfusion h) (fun _ => ?_)); conv => whnf)
    refine ⟨bytes_leN 5864062014805 (by decide) hb, ?_⟩
    (conv => whnf); repeat ((first | refine And.intro DrawOk.go ?_ | refine And.intro rfl ?_ | refine And.intro (fun _ => ?_) (fun h => Bool.noConfusion h) | refine And.intro (fun h => Bool.noConfusion h) (fun _ => ?_)); conv => whnf)
    refine again (i + 1) hlt (Nat.sub_lt_sub_left hlt (Nat.lt_succ_self i)) ?_
    (refine And.intro rfl (And.intro rfl ?_)); (repeat' (first | exact trivial | exact rfl | apply And.intro | (refine congrArg (Value.int .i64) (w64_nat ?_); omega)))
    all_goals first
      | exact congrArg (Blk.row _ _ _) hsn
      | exact congrArg (Value.int .i64) (w64_nat hib)
  · obtain rfl := wa_ge h hi
    rw [List.take_length]
    (conv => whnf); repeat ((first | refine And.intro DrawOk.go ?_ | refine And.intro rfl ?_ | refine And.intro (fun _ => ?_) (fun h => Bool.noConfusion h) | refine And.intro (fun h => Bool.noConfusion h) (fun _ => ?_)); conv => whnf)
    refine Exists.intro [] (And.intro List.nodup_nil ?_); ((conv => whnf); repeat ((first | refine And.intro DrawOk.go ?_ | refine And.intro rfl ?_ | refine And.intro (fun _ => ?_) (fun h => Bool.noConfusion h) | refine And.intro (fun h => Bool.noConfusion h) (fun _ => ?_)); conv => whnf))
    rfl
end Go.Proofs.Ytgjcljjgifnjdaa.Ab
