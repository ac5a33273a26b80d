/- Maps: what the functions answer. No condition. -/
import Derived.Test.YtgjcljjgifnjdaaWc
namespace Go.Proofs.Ytgjcljjgifnjdaa.Ab
set_option linter.unusedVariables false
set_option linter.unusedSimpArgs false
open Go.RowKit

def mAt (M : List (List Ety)) (b : Int) : Bool := decide (mstr M b ≥ 0) && mvalid M
theorem mstr_in {M : List (List Ety)} {b : Int} (h : mAt M b = true) : 0 ≤ b ∧ ∃ k : Nat, mstr M b = k ∧ k < M.length := by
  unfold mAt at h
  rw [Bool.and_eq_true] at h
  have h1 := of_decide_eq_true h.1
  unfold mstr at h1 ⊢
  split at h1
  · omega
  · rename_i h2
    rw [if_neg h2]
    have h3 := Int.tmod_lt_of_pos b (b := (M.length : Int)) (by omega)
    exact ⟨by omega, (Int.tmod b M.length).toNat, by omega, by omega⟩
theorem mAt_iff {M : List (List Ety)} {b : Int} : mAt M b = (mvalid M && decide (0 ≤ b)) := by
  unfold mAt
  cases hv : mvalid M with
  | false => rw [Bool.and_false, Bool.false_and]
  | true =>
    rw [Bool.and_true, Bool.true_and, decide_eq_decide]
    have hl := (mvalid_at hv).1
    unfold mstr
    constructor
    · intro h
      split at h <;> omega
    · intro h
      rw [if_neg (by omega)]
      exact Int.tmod_nonneg _ h
theorem mOk.val {M : List (List Ety)} (h : mOk M) (hv : mvalid M = true) : ∀ l ∈ M, l.length ≤ 1000 := h.2.2 (mvalid_at hv).1.2
theorem mAt_val {M : List (List Ety)} {b : Int} (h : mAt M b = true) : mvalid M = true := by unfold mAt at h; rw [Bool.and_eq_true] at h; exact h.2
/-- The shard of a block. -/
def shd (M : List (List Ety)) (b : Int) : List Ety := match M[(mstr M b).toNat]? with
  | some l => l
  | none => []
def mlook (M : List (List Ety)) (b : Int) : Ety × Bool := if mAt M b = true then sfind (shd M b) b else (e0, false)
def minst (M : List (List Ety)) (e : Ety) : List (List Ety) × Ety × Bool := if mAt M e.b = true then (M.set (mstr M e.b).toNat (sinst (shd M e.b) e).1, (sinst (shd M e.b) e).2) else (M, e0, false)
def mrel (M : List (List Ety)) (b v fz fo tz to m : Int) : List (List Ety) × Bool := if mAt M b = true then (M.set (mstr M b).toNat (srel (shd M b) b v fz fo tz to m).1, (srel (shd M b) b v fz fo tz to m).2) else (M, false)
def mdrop (M : List (List Ety)) (i c : Int) : List (List Ety) × List Ety := match M[i.toNat]? with
  | some l => if mvalid M = true ∧ 0 ≤ i then (M.set i.toNat (sdrop l c).1, (sdrop l c).2) else (M, [])
  | none => (M, [])
theorem shd_at {M : List (List Ety)} {b : Int} {k : Nat} (h : mstr M b = k) (hk : k < M.length) : shd M b = M[k] := by
  unfold shd
  rw [h, Int.toNat_natCast, List.getElem?_eq_getElem hk]
set_option maxRecDepth 100000 in
set_option maxHeartbeats 16000000 in
theorem atF (M : List (List Ety)) (b : Int) (hM : mOk M) : Fun Try.prog 56 [mpV M, i64V b] [] (.tup [i64V (mstr M b), bV (mAt M b)]) := by
  have h1 := stripeF M b
  have h2 := rightF M hM
  unfold mAt
  generalize mstr M b = i at h1 ⊢
  generalize mvalid M = v at h2 ⊢
  by_cases hi : i ≥ 0
  · rw [decide_eq_true hi, Bool.true_and]
    refine fun_of_vc tabOk mixOk Try.func56 rfl (by rfl) (rs := [.tmp 4, .tmp 5]) rfl rfl 23 ?_; rw [Try.ntmps56]
    (conv => whnf); repeat ((first | refine And.intro DrawOk.go ?_ | refine And.intro rfl ?_ | refine And.intro (fun _ => ?_) (fun h => Bool.noConfusion h) | refine And.intro (fun h => Bool.noConfusion h) (fun _ => ?_)); conv => whnf)
    repeat' (first | ((refine And.intro (fun h => ?_) (fun h => ?_)) <;> (try simp at h) <;> ((conv => whnf); repeat ((first | refine And.intro DrawOk.go ?_ | refine And.intro rfl ?_ | refine And.intro (fun _ => ?_) (fun h => Bool.noConfusion h) | refine And.intro (fun h => Bool.noConfusion h) (fun _ => ?_)); conv => whnf))) | (refine ⟨_, _, h1, ?_⟩; ((conv => whnf); repeat ((first | refine And.intro DrawOk.go ?_ | refine And.intro rfl ?_ | refine And.intro (fun _ => ?_) (fun h => Bool.noConfusion h) | refine And.intro (fun h => Bool.noConfusion h) (fun _ => ?_)); conv => whnf))) | (refine ⟨_, _, h2, ?_⟩; ((conv => whnf); repeat ((first | refine And.intro DrawOk.go ?_ | refine And.intro rfl ?_ | refine And.intro (fun _ => ?_) (fun h => Bool.noConfusion h) | refine And.intro (fun h => Bool.noConfusion h) (fun _ => ?_)); conv => whnf))) | fail)
    all_goals first
      | (exfalso; omega)
      | (refine Exists.intro [] (And.intro List.nodup_nil ?_); ((conv => whnf); repeat ((first | refine And.intro DrawOk.go ?_ | refine And.intro rfl ?_ | refine And.intro (fun _ => ?_) (fun h => Bool.noConfusion h) | refine And.intro (fun h => Bool.noConfusion h) (fun _ => ?_)); conv => whnf))
         rfl)
  · rw [decide_eq_false hi, Bool.false_and]
    refine fun_of_vc tabOk mixOk Try.func56 rfl (by rfl) (rs := [.tmp 4, .tmp 5]) rfl rfl 23 ?_; rw [Try.ntmps56]
    (conv => whnf); repeat ((first | refine And.intro DrawOk.go ?_ | refine And.intro rfl ?_ | refine And.intro (fun _ => ?_) (fun h => Bool.noConfusion h) | refine And.intro (fun h => Bool.noConfusion h) (fun _ => ?_)); conv => whnf)
    repeat' (first | ((refine And.intro (fun h => ?_) (fun h => ?_)) <;> (try simp at h) <;> ((conv => whnf); repeat ((first | refine And.intro DrawOk.go ?_ | refine And.intro rfl ?_ | refine And.intro (fun _ => ?_) (fun h => Bool.noConfusion h) | refine And.intro (fun h => Bool.noConfusion h) (fun _ => ?_)); conv => whnf))) | (refine ⟨_, _, h1, ?_⟩; ((conv => whnf); repeat ((first | refine And.intro DrawOk.go ?_ | refine And.intro rfl ?_ | refine And.intro (fun _ => ?_) (fun h => Bool.noConfusion h) | refine And.intro (fun h => Bool.noConfusion h) (fun _ => ?_)); conv => whnf))) | (refine ⟨_, _, h2, ?_⟩; ((conv => whnf); repeat ((first | refine And.intro DrawOk.go ?_ | refine And.intro rfl ?_ | refine And.intro (fun _ => ?_) (fun h => Bool.noConfusion h) | refine And.intro (fun h => Bool.noConfusion h) (fun _ => ?_)); conv => whnf))) | fail)
    all_goals first
      | (exfalso; omega)
      | (refine Exists.intro [] (And.intro List.nodup_nil ?_); ((conv => whnf); repeat ((first | refine And.intro DrawOk.go ?_ | refine And.intro rfl ?_ | refine And.intro (fun _ => ?_) (fun h => Bool.noConfusion h) | refine And.intro (fun h => Bool.noConfusion h) (fun _ => ?_)); conv => whnf))
         rfl)
set_option maxRecDepth 100000 in
set_option maxHeartbeats 4000000 in
theorem doneF (M : List (List Ety)) : Fun Try.prog 57 [mpV M] [] (.v (mpV M)) := by
  refine fun_of_vc tabOk mixOk Try.func57 rfl (by rfl) (rs := [.cell 2 52]) rfl rfl 11 ?_; rw [Try.ntmps57]
  (conv => whnf); repeat ((first | refine And.intro DrawOk.go ?_ | refine And.intro rfl ?_ | refine And.intro (fun _ => ?_) (fun h => Bool.noConfusion h) | refine And.intro (fun h => Bool.noConfusion h) (fun _ => ?_)); conv => whnf)
  refine Exists.intro [] (And.intro List.nodup_nil ?_); ((conv => whnf); repeat ((first | refine And.intro DrawOk.go ?_ | refine And.intro rfl ?_ | refine And.intro (fun _ => ?_) (fun h => Bool.noConfusion h) | refine And.intro (fun h => Bool.noConfusion h) (fun _ => ?_)); conv => whnf))
  rfl
set_option maxRecDepth 100000 in
set_option maxHeartbeats 4000000 in
theorem mvalF (M : List (List Ety)) (hM : mOk M) : Fun Try.prog 44 [mpV M] [] (ATbool (mvalid M)) := by
  have h1 := openF M hM
  have h2 := rightF M hM
  refine fun_of_vc tabOk mixOk Try.func44 rfl (by rfl) (rs := [.tmp 2]) rfl rfl 11 ?_; rw [Try.ntmps44]
  (conv => whnf); repeat ((first | refine And.intro DrawOk.go ?_ | refine And.intro rfl ?_ | refine And.intro (fun _ => ?_) (fun h => Bool.noConfusion h) | refine And.intro (fun h => Bool.noConfusion h) (fun _ => ?_)); conv => whnf)
  repeat' (first | ((refine And.intro (fun h => ?_) (fun h => ?_)) <;> (try simp at h) <;> ((conv => whnf); repeat ((first | refine And.intro DrawOk.go ?_ | refine And.intro rfl ?_ | refine And.intro (fun _ => ?_) (fun h => Bool.noConfusion h) | refine And.intro (fun h => Bool.noConfusion h) (fun _ => ?_)); conv => whnf))) | (refine ⟨_, _, h1, ?_⟩; ((conv => whnf); repeat ((first | refine And.intro DrawOk.go ?_ | refine And.intro rfl ?_ | refine And.intro (fun _ => ?_) (fun h => Bool.noConfusion h) | refine And.intro (fun h => Bool.noConfusion h) (fun _ => ?_)); conv => whnf))) | (refine ⟨_, _, h2, ?_⟩; ((conv => whnf); repeat ((first | refine And.intro DrawOk.go ?_ | refine And.intro rfl ?_ | refine And.intro (fun _ => ?_) (fun h => Bool.noConfusion h) | refine And.intro (fun h => Bool.noConfusion h) (fun _ => ?_)); conv => whnf))) | fail)
  all_goals
    (refine Exists.intro [] (And.intro List.nodup_nil ?_); ((conv => whnf); repeat ((first | refine And.intro DrawOk.go ?_ | refine And.intro rfl ?_ | refine And.intro (fun _ => ?_) (fun h => Bool.noConfusion h) | refine And.intro (fun h => Bool.noConfusion h) (fun _ => ?_)); conv => whnf))
     rfl)
set_option maxRecDepth 100000 in
set_option maxHeartbeats 4000000 in
theorem mstrF (M : List (List Ety)) (b : Int) (hM : mOk M) : Fun Try.prog 54 [mpV M, i64V b] [] (.v (i64V (mstr M b))) := by
  have h1 := openF M hM
  have h2 := stripeF M b
  refine fun_of_vc tabOk mixOk Try.func54 rfl (by rfl) (rs := [.tmp 4]) rfl rfl 14 ?_; rw [Try.ntmps54]
  (conv => whnf); repeat ((first | refine And.intro DrawOk.go ?_ | refine And.intro rfl ?_ | refine And.intro (fun _ => ?_) (fun h => Bool.noConfusion h) | refine And.intro (fun h => Bool.noConfusion h) (fun _ => ?_)); conv => whnf)
  repeat' (first | ((refine And.intro (fun h => ?_) (fun h => ?_)) <;> (try simp at h) <;> ((conv => whnf); repeat ((first | refine And.intro DrawOk.go ?_ | refine And.intro rfl ?_ | refine And.intro (fun _ => ?_) (fun h => Bool.noConfusion h) | refine And.intro (fun h => Bool.noConfusion h) (fun _ => ?_)); conv => whnf))) | (refine ⟨_, _, h1, ?_⟩; ((conv => whnf); repeat ((first | refine And.intro DrawOk.go ?_ | refine And.intro rfl ?_ | refine And.intro (fun _ => ?_) (fun h => Bool.noConfusion h) | refine And.intro (fun h => Bool.noConfusion h) (fun _ => ?_)); conv => whnf))) | (refine ⟨_, _, h2, ?_⟩; ((conv => whnf); repeat ((first | refine And.intro DrawOk.go ?_ | refine And.intro rfl ?_ | refine And.intro (fun _ => ?_) (fun h => Bool.noConfusion h) | refine And.intro (fun h => Bool.noConfusion h) (fun _ => ?_)); conv => whnf))) | fail)
  all_goals
    (refine Exists.intro [] (And.intro List.nodup_nil ?_); ((conv => whnf); repeat ((first | refine And.intro DrawOk.go ?_ | refine And.intro rfl ?_ | refine And.intro (fun _ => ?_) (fun h => Bool.noConfusion h) | refine And.intro (fun h => Bool.noConfusion h) (fun _ => ?_)); conv => whnf))
     rfl)
set_option maxRecDepth 100000 in
set_option maxHeartbeats 16000000 in
theorem mlookF (M : List (List Ety)) (b : Int) (hM : mOk M) : Fun Try.prog 33 [mpV M, i64V b] [] (.tup [eV (mlook M b).1, bV (mlook M b).2]) := by
  have h1 := openF M hM
  have h2 := atF M b hM
  unfold mlook
  cases ha : mAt M b with
  | false =>
    rw [if_neg (by decide)]
    rw [ha] at h2
    refine fun_of_vc tabOk mixOk Try.func33 rfl (by rfl) (rs := [.cell 4 34, .tmp 5]) rfl rfl 34 ?_; rw [Try.ntmps33]
    (conv => whnf); repeat ((first | refine And.intro DrawOk.go ?_ | refine And.intro rfl ?_ | refine And.intro (fun _ => ?_) (fun h => Bool.noConfusion h) | refine And.intro (fun h => Bool.noConfusion h) (fun _ => ?_)); conv => whnf)
    repeat' (first | ((refine And.intro (fun h => ?_) (fun h => ?_)) <;> (try simp at h) <;> ((conv => whnf); repeat ((first | refine And.intro DrawOk.go ?_ | refine And.intro rfl ?_ | refine And.intro (fun _ => ?_) (fun h => Bool.noConfusion h) | refine And.intro (fun h => Bool.noConfusion h) (fun _ => ?_)); conv => whnf))) | (refine ⟨_, _, h1, ?_⟩; ((conv => whnf); repeat ((first | refine And.intro DrawOk.go ?_ | refine And.intro rfl ?_ | refine And.intro (fun _ => ?_) (fun h => Bool.noConfusion h) | refine And.intro (fun h => Bool.noConfusion h) (fun _ => ?_)); conv => whnf))) | (refine ⟨_, _, h2, ?_⟩; ((conv => whnf); repeat ((first | refine And.intro DrawOk.go ?_ | refine And.intro rfl ?_ | refine And.intro (fun _ => ?_) (fun h => Bool.noConfusion h) | refine And.intro (fun h => Bool.noConfusion h) (fun _ => ?_)); conv => whnf))) | fail)
    all_goals
      (refine Exists.intro [] (And.intro List.nodup_nil ?_); ((conv => whnf); repeat ((first | refine And.intro DrawOk.go ?_ | refine And.intro rfl ?_ | refine And.intro (fun _ => ?_) (fun h => Bool.noConfusion h) | refine And.intro (fun h => Bool.noConfusion h) (fun _ => ?_)); conv => whnf))
       rfl)
  | true =>
    rw [if_pos rfl]
    obtain ⟨hb, k, hk, hkl⟩ := mstr_in ha
    rw [shd_at hk hkl]
    rw [ha, hk] at h2
    have h3 := sfindF M[k] b (Nat.le_trans (hM.val (mAt_val ha) _ (List.getElem_mem hkl)) (by decide))
    have hit := mItem hkl
    generalize M[k] = l at h3 hit ⊢
    generalize sfind l b = F at h3 ⊢
    obtain ⟨⟨eb, ek, ev, em, ez, eo⟩, ok⟩ := F
    refine fun_of_vc tabOk mixOk Try.func33 rfl (by rfl) (rs := [.cell 4 34, .tmp 5]) rfl rfl 34 ?_; rw [Try.ntmps33]
    (conv => whnf); repeat ((first | refine And.intro DrawOk.go ?_ | refine And.intro rfl ?_ | refine And.intro (fun _ => ?_) (fun h => Bool.noConfusion h) | refine And.intro (fun h => Bool.noConfusion h) (fun _ => ?_)); conv => whnf)
    repeat' (first | ((refine And.intro (fun h => ?_) (fun h => ?_)) <;> (try simp at h) <;> ((conv => whnf); repeat ((first | refine And.intro DrawOk.go ?_ | refine And.intro rfl ?_ | refine And.intro (fun _ => ?_) (fun h => Bool.noConfusion h) | refine And.intro (fun h => Bool.noConfusion h) (fun _ => ?_)); conv => whnf))) | (refine ⟨_, _, h1, ?_⟩; ((conv => whnf); repeat ((first | refine And.intro DrawOk.go ?_ | refine And.intro rfl ?_ | refine And.intro (fun _ => ?_) (fun h => Bool.noConfusion h) | refine And.intro (fun h => Bool.noConfusion h) (fun _ => ?_)); conv => whnf))) | (refine ⟨_, _, h2, ?_⟩; ((conv => whnf); repeat ((first | refine And.intro DrawOk.go ?_ | refine And.intro rfl ?_ | refine And.intro (fun _ => ?_) (fun h => Bool.noConfusion h) | refine And.intro (fun h => Bool.noConfusion h) (fun _ => ?_)); conv => whnf))) | (refine ⟨_, _, h3, ?_⟩; ((conv => whnf); repeat ((first | refine And.intro DrawOk.go ?_ | refine And.intro rfl ?_ | refine And.intro (fun _ => ?_) (fun h => Bool.noConfusion h) | refine And.intro (fun h => Bool.noConfusion h) (fun _ => ?_)); conv => whnf))) | (refine ⟨Int.natCast_nonneg _, _, hit, rfl, ?_⟩; ((conv => whnf); repeat ((first | refine And.intro DrawOk.go ?_ | refine And.intro rfl ?_ | refine And.intro (fun _ => ?_) (fun h => Bool.noConfusion h) | refine And.intro (fun h => Bool.noConfusion h) (fun _ => ?_)); conv => whnf))) | fail)
    all_goals
      (refine Exists.intro [] (And.intro List.nodup_nil ?_); ((conv => whnf); repeat ((first | refine And.intro DrawOk.go ?_ | refine And.intro rfl ?_ | refine And.intro (fun _ => ?_) (fun h => Bool.noConfusion h) | refine And.intro (fun h => Bool.noConfusion h) (fun _ => ?_)); conv => whnf))
       rfl)
set_option maxRecDepth 100000 in
set_option maxHeartbeats 16000000 in
theorem mlookF' (M : List (List Ety)) (b : Int) (hM : mOk M) : Fun Try.prog 39 [mpV M, i64V b] [] (.tup [eV (mlook M b).1, bV (mlook M b).2]) := by
  have h1 := rightF' M hM
  have h2 := stripeF' M b
  unfold mlook
  rw [mAt_iff]
  cases hv : mvalid M with
  | false =>
    rw [Bool.false_and, if_neg (by decide)]
    rw [hv] at h1
    refine fun_of_vc tabOk mixOk Try.func39 rfl (by rfl) (rs := [.cell 4 34, .tmp 5]) rfl rfl 29 ?_; rw [Try.ntmps39]
    (conv => whnf); repeat ((first | refine And.intro DrawOk.go ?_ | refine And.intro rfl ?_ | refine And.intro (fun _ => ?_) (fun h => Bool.noConfusion h) | refine And.intro (fun h => Bool.noConfusion h) (fun _ => ?_)); conv => whnf)
    repeat' (first | ((refine And.intro (fun h => ?_) (fun h => ?_)) <;> (try simp at h) <;> ((conv => whnf); repeat ((first | refine And.intro DrawOk.go ?_ | refine And.intro rfl ?_ | refine And.intro (fun _ => ?_) (fun h => Bool.noConfusion h) | refine And.intro (fun h => Bool.noConfusion h) (fun _ => ?_)); conv => whnf))) | (refine ⟨_, _, h1, ?_⟩; ((conv => whnf); repeat ((first | refine And.intro DrawOk.go ?_ | refine And.intro rfl ?_ | refine And.intro (fun _ => ?_) (fun h => Bool.noConfusion h) | refine And.intro (fun h => Bool.noConfusion h) (fun _ => ?_)); conv => whnf))) | fail)
    all_goals
      (refine Exists.intro [] (And.intro List.nodup_nil ?_); ((conv => whnf); repeat ((first | refine And.intro DrawOk.go ?_ | refine And.intro rfl ?_ | refine And.intro (fun _ => ?_) (fun h => Bool.noConfusion h) | refine And.intro (fun h => Bool.noConfusion h) (fun _ => ?_)); conv => whnf))
       rfl)
  | true =>
    rw [hv] at h1
    rw [Bool.true_and]
    by_cases hb : 0 ≤ b
    · rw [decide_eq_true hb, if_pos rfl]
      obtain ⟨_, k, hk, hkl⟩ := mstr_in (M := M) (b := b) (by rw [mAt_iff, hv, decide_eq_true hb]; rfl)
      rw [shd_at hk hkl]
      rw [hk] at h2
      have h3 := sfindF' M[k] b (Nat.le_trans (hM.val hv _ (List.getElem_mem hkl)) (by decide))
      have hit := mItem hkl
      generalize M[k] = l at h3 hit ⊢
      generalize sfind l b = F at h3 ⊢
      obtain ⟨⟨eb, ek, ev, em, ez, eo⟩, ok⟩ := F
      refine fun_of_vc tabOk mixOk Try.func39 rfl (by rfl) (rs := [.cell 4 34, .tmp 5]) rfl rfl 29 ?_; rw [Try.ntmps39]
      (conv => whnf); repeat ((first | refine And.intro DrawOk.go ?_ | refine And.intro rfl ?_ | refine And.intro (fun _ => ?_) (fun h => Bool.noConfusion h) | refine And.intro (fun h => Bool.noConfusion h) (fun _ => ?_)); conv => whnf)
      repeat' (first | ((refine And.intro (fun h => ?_) (fun h => ?_)) <;> (try simp at h) <;> ((conv => whnf); repeat ((first | refine And.intro DrawOk.go ?_ | refine And.intro rfl ?_ | refine And.intro (fun _ => ?_) (fun h => Bool.noConfusion h) | refine And.intro (fun h => Bool.noConfusion h) (fun _ => ?_)); conv => whnf))) | (refine ⟨_, _, h1, ?_⟩; ((conv => whnf); repeat ((first | refine And.intro DrawOk.go ?_ | refine And.intro rfl ?_ | refine And.intro (fun _ => ?_) (fun h => Bool.noConfusion h) | refine And.intro (fun h => Bool.noConfusion h) (fun _ => ?_)); conv => whnf))) | (refine ⟨_, _, h2, ?_⟩; ((conv => whnf); repeat ((first | refine And.intro DrawOk.go ?_ | refine And.intro rfl ?_ | refine And.intro (fun _ => ?_) (fun h => Bool.noConfusion h) | refine And.intro (fun h => Bool.noConfusion h) (fun _ => ?_)); conv => whnf))) | (refine ⟨_, _, h3, ?_⟩; ((conv => whnf); repeat ((first | refine And.intro DrawOk.go ?_ | refine And.intro rfl ?_ | refine And.intro (fun _ => ?_) (fun h => Bool.noConfusion h) | refine And.intro (fun h => Bool.noConfusion h) (fun _ => ?_)); conv => whnf))) | (refine ⟨Int.natCast_nonneg _, _, hit, rfl, ?_⟩; ((conv => whnf); repeat ((first | refine And.intro DrawOk.go ?_ | refine And.intro rfl ?_ | refine And.intro (fun _ => ?_) (fun h => Bool.noConfusion h) | refine And.intro (fun h => Bool.noConfusion h) (fun _ => ?_)); conv => whnf))) | fail)
      all_goals first
        | (exfalso; omega)
        | (refine Exists.intro [] (And.intro List.nodup_nil ?_); ((conv => whnf); repeat ((first | refine And.intro DrawOk.go ?_ | refine And.intro rfl ?_ | refine And.intro (fun _ => ?_) (fun h => Bool.noConfusion h) | refine And.intro (fun h => Bool.noConfusion h) (fun _ => ?_)); conv => whnf))
           rfl)
    · rw [decide_eq_false hb, if_neg (by decide)]
      refine fun_of_vc tabOk mixOk Try.func39 rfl (by rfl) (rs := [.cell 4 34, .tmp 5]) rfl rfl 29 ?_; rw [Try.ntmps39]
      (conv => whnf); repeat ((first | refine And.intro DrawOk.go ?_ | refine And.intro rfl ?_ | refine And.intro (fun _ => ?_) (fun h => Bool.noConfusion h) | refine And.intro (fun h => Bool.noConfusion h) (fun _ => ?_)); conv => whnf)
      repeat' (first | ((refine And.intro (fun h => ?_) (fun h => ?_)) <;> (try simp at h) <;> ((conv => whnf); repeat ((first | refine And.intro DrawOk.go ?_ | refine And.intro rfl ?_ | refine And.intro (fun _ => ?_) (fun h => Bool.noConfusion h) | refine And.intro (fun h => Bool.noConfusion h) (fun _ => ?_)); conv => whnf))) | (refine ⟨_, _, h1, ?_⟩; ((conv => whnf); repeat ((first | refine And.intro DrawOk.go ?_ | refine And.intro rfl ?_ | refine And.intro (fun _ => ?_) (fun h => Bool.noConfusion h) | refine And.intro (fun h => Bool.noConfusion h) (fun _ => ?_)); conv => whnf))) | fail)
      all_goals first
        | (exfalso; omega)
        | (refine Exists.intro [] (And.intro List.nodup_nil ?_); ((conv => whnf); repeat ((first | refine And.intro DrawOk.go ?_ | refine And.intro rfl ?_ | refine And.intro (fun _ => ?_) (fun h => Bool.noConfusion h) | refine And.intro (fun h => Bool.noConfusion h) (fun _ => ?_)); conv => whnf))
           rfl)
end Go.Proofs.Ytgjcljjgifnjdaa.Ab
