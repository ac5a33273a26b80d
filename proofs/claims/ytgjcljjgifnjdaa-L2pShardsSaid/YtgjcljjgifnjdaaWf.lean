/- Maps: drops; the specification's functions. No condition. -/
import Derived.Test.YtgjcljjgifnjdaaWe
namespace Go.Proofs.Ytgjcljjgifnjdaa.Ab
set_option linter.unusedVariables false
set_option linter.unusedSimpArgs false
open Go.RowKit

theorem mdrop_no {M : List (List Ety)} {i c : Int} (h : ¬ (mvalid M = true ∧ 0 ≤ i ∧ i < M.length)) : mdrop M i c = (M, []) := by
  unfold mdrop
  split
  · rename_i l hl
    rw [if_neg]
    rintro ⟨h1, h2⟩
    have := (List.getElem?_eq_some_iff.1 hl).1
    exact h ⟨h1, h2, by omega⟩
  · rfl
theorem mdrop_yes {M : List (List Ety)} {k : Nat} {c : Int} (h : mvalid M = true) (hk : k < M.length) : mdrop M (k : Int) c = (M.set k (sdrop M[k] c).1, (sdrop M[k] c).2) := by
  unfold mdrop
  rw [Int.toNat_natCast, List.getElem?_eq_getElem hk]
  dsimp only
  rw [if_pos ⟨h, Int.natCast_nonneg k⟩]
set_option maxRecDepth 100000 in
set_option maxHeartbeats 16000000 in
theorem mdropF (M : List (List Ety)) (i c : Int) (hM : mOk M) : Fun Try.prog 41 [mpV M, i64V i, i64V c] [] (.tup [mpV (mdrop M i c).1, slV (eR (mdrop M i c).2)]) := by
  have h1 := openO M hM
  have h2 := rightF M hM
  have h4 := doneF M
  have ml := mLen M
  by_cases h : mvalid M = true ∧ 0 ≤ i ∧ i < M.length
  rotate_left
  · rw [mdrop_no h]
    cases hv : mvalid M with
    | false =>
      rw [hv] at h2
      refine fun_of_vc tabOk mixOk Try.func41 rfl (by rfl) (rs := [.cell 6 52, .tmp 7]) rfl rfl 55 ?_; rw [Try.ntmps41]
      (conv => whnf); repeat ((first | refine And.intro DrawOk.go ?_ | refine And.intro rfl ?_ | refine And.intro (fun _ => ?_) (fun h => Bool.noConfusion h) | refine And.intro (fun h => Bool.noConfusion h) (fun _ => ?_)); conv => whnf)
      repeat' (first | ((refine And.intro (fun h => ?_) (fun h => ?_)) <;> (try simp at h) <;> ((conv => whnf); repeat ((first | refine And.intro DrawOk.go ?_ | refine And.intro rfl ?_ | refine And.intro (fun _ => ?_) (fun h => Bool.noConfusion h) | refine And.intro (fun h => Bool.noConfusion h) (fun _ => ?_)); conv => whnf))) | (refine ⟨_, _, h1, ?_⟩; ((conv => whnf); repeat ((first | refine And.intro DrawOk.go ?_ | refine And.intro rfl ?_ | refine And.intro (fun _ => ?_) (fun h => Bool.noConfusion h) | refine And.intro (fun h => Bool.noConfusion h) (fun _ => ?_)); conv => whnf))) | (refine ⟨_, _, h2, ?_⟩; ((conv => whnf); repeat ((first | refine And.intro DrawOk.go ?_ | refine And.intro rfl ?_ | refine And.intro (fun _ => ?_) (fun h => Bool.noConfusion h) | refine And.intro (fun h => Bool.noConfusion h) (fun _ => ?_)); conv => whnf))) | (refine ⟨_, _, h4, ?_⟩; ((conv => whnf); repeat ((first | refine And.intro DrawOk.go ?_ | refine And.intro rfl ?_ | refine And.intro (fun _ => ?_) (fun h => Bool.noConfusion h) | refine And.intro (fun h => Bool.noConfusion h) (fun _ => ?_)); conv => whnf))) | fail)
      all_goals
        (refine Exists.intro [] (And.intro List.nodup_nil ?_); ((conv => whnf); repeat ((first | refine And.intro DrawOk.go ?_ | refine And.intro rfl ?_ | refine And.intro (fun _ => ?_) (fun h => Bool.noConfusion h) | refine And.intro (fun h => Bool.noConfusion h) (fun _ => ?_)); conv => whnf))
         rfl)
    | true =>
      rw [hv] at h2 h
      have hno := h
      clear h
      refine fun_of_vc tabOk mixOk Try.func41 rfl (by rfl) (rs := [.cell 6 52, .tmp 7]) rfl rfl 55 ?_; rw [Try.ntmps41]
      (conv => whnf); repeat ((first | refine And.intro DrawOk.go ?_ | refine And.intro rfl ?_ | refine And.intro (fun _ => ?_) (fun h => Bool.noConfusion h) | refine And.intro (fun h => Bool.noConfusion h) (fun _ => ?_)); conv => whnf)
      repeat' (first | ((refine And.intro (fun h => ?_) (fun h => ?_)) <;> (try simp at h) <;> ((conv => whnf); repeat ((first | refine And.intro DrawOk.go ?_ | refine And.intro rfl ?_ | refine And.intro (fun _ => ?_) (fun h => Bool.noConfusion h) | refine And.intro (fun h => Bool.noConfusion h) (fun _ => ?_)); conv => whnf))) | (refine ⟨_, _, h1, ?_⟩; ((conv => whnf); repeat ((first | refine And.intro DrawOk.go ?_ | refine And.intro rfl ?_ | refine And.intro (fun _ => ?_) (fun h => Bool.noConfusion h) | refine And.intro (fun h => Bool.noConfusion h) (fun _ => ?_)); conv => whnf))) | (refine ⟨_, _, h2, ?_⟩; ((conv => whnf); repeat ((first | refine And.intro DrawOk.go ?_ | refine And.intro rfl ?_ | refine And.intro (fun _ => ?_) (fun h => Bool.noConfusion h) | refine And.intro (fun h => Bool.noConfusion h) (fun _ => ?_)); conv => whnf))) | (refine ⟨_, _, h4, ?_⟩; ((conv => whnf); repeat ((first | refine And.intro DrawOk.go ?_ | refine And.intro rfl ?_ | refine And.intro (fun _ => ?_) (fun h => Bool.noConfusion h) | refine And.intro (fun h => Bool.noConfusion h) (fun _ => ?_)); conv => whnf))) | fail)
      all_goals first
        | (exfalso; exact hno ⟨rfl, by omega, by omega⟩)
        | (refine Exists.intro [] (And.intro List.nodup_nil ?_); ((conv => whnf); repeat ((first | refine And.intro DrawOk.go ?_ | refine And.intro rfl ?_ | refine And.intro (fun _ => ?_) (fun h => Bool.noConfusion h) | refine And.intro (fun h => Bool.noConfusion h) (fun _ => ?_)); conv => whnf))
           rfl)
  obtain ⟨hv, h0, hl⟩ := h
  obtain ⟨k, rfl⟩ : ∃ k : Nat, i = k := ⟨i.toNat, by omega⟩
  have hkl : k < M.length := by omega
  rw [mdrop_yes hv hkl]
  rw [hv] at h2
  have h3 := sdropF M[k] c (Nat.le_trans (hM.val hv _ (List.getElem_mem hkl)) (by decide))
  have hit := mItem hkl
  have hlen : ((k : Int)).toNat < (mR M).length := by rw [Int.toNat_natCast, mLen]; exact hkl
  generalize M[k] = l at h3 hit ⊢
  generalize sdrop l c = F at h3 ⊢
  obtain ⟨ls, gn⟩ := F
  have h5 := done_set M k ls
  dsimp only at h3 ⊢
  refine fun_of_vc tabOk mixOk Try.func41 rfl (by rfl) (rs := [.cell 6 52, .tmp 7]) rfl rfl 55 ?_; rw [Try.ntmps41]
  (conv => whnf); repeat ((first | refine And.intro DrawOk.go ?_ | refine And.intro rfl ?_ | refine And.intro (fun _ => ?_) (fun h => Bool.noConfusion h) | refine And.intro (fun h => Bool.noConfusion h) (fun _ => ?_)); conv => whnf)
  repeat' (first | ((refine And.intro (fun h => ?_) (fun h => ?_)) <;> (try simp at h) <;> ((conv => whnf); repeat ((first | refine And.intro DrawOk.go ?_ | refine And.intro rfl ?_ | refine And.intro (fun _ => ?_) (fun h => Bool.noConfusion h) | refine And.intro (fun h => Bool.noConfusion h) (fun _ => ?_)); conv => whnf))) | (refine ⟨_, _, h1, ?_⟩; ((conv => whnf); repeat ((first | refine And.intro DrawOk.go ?_ | refine And.intro rfl ?_ | refine And.intro (fun _ => ?_) (fun h => Bool.noConfusion h) | refine And.intro (fun h => Bool.noConfusion h) (fun _ => ?_)); conv => whnf))) | (refine ⟨_, _, h2, ?_⟩; ((conv => whnf); repeat ((first | refine And.intro DrawOk.go ?_ | refine And.intro rfl ?_ | refine And.intro (fun _ => ?_) (fun h => Bool.noConfusion h) | refine And.intro (fun h => Bool.noConfusion h) (fun _ => ?_)); conv => whnf))) | (refine ⟨_, _, h3, ?_⟩; ((conv => whnf); repeat ((first | refine And.intro DrawOk.go ?_ | refine And.intro rfl ?_ | refine And.intro (fun _ => ?_) (fun h => Bool.noConfusion h) | refine And.intro (fun h => Bool.noConfusion h) (fun _ => ?_)); conv => whnf))) | (refine ⟨_, _, h5, ?_⟩; ((conv => whnf); repeat ((first | refine And.intro DrawOk.go ?_ | refine And.intro rfl ?_ | refine And.intro (fun _ => ?_) (fun h => Bool.noConfusion h) | refine And.intro (fun h => Bool.noConfusion h) (fun _ => ?_)); conv => whnf))) | (refine ⟨Int.natCast_nonneg _, hlen, ?_⟩; ((conv => whnf); repeat ((first | refine And.intro DrawOk.go ?_ | refine And.intro rfl ?_ | refine And.intro (fun _ => ?_) (fun h => Bool.noConfusion h) | refine And.intro (fun h => Bool.noConfusion h) (fun _ => ?_)); conv => whnf))) | (refine ⟨_, hit, ?_⟩; ((conv => whnf); repeat ((first | refine And.intro DrawOk.go ?_ | refine And.intro rfl ?_ | refine And.intro (fun _ => ?_) (fun h => Bool.noConfusion h) | refine And.intro (fun h => Bool.noConfusion h) (fun _ => ?_)); conv => whnf))) | fail)
  all_goals first
    | (exfalso; omega)
    | (refine Exists.intro [] (And.intro List.nodup_nil ?_); ((conv => whnf); repeat ((first | refine And.intro DrawOk.go ?_ | refine And.intro rfl ?_ | refine And.intro (fun _ => ?_) (fun h => Bool.noConfusion h) | refine And.intro (fun h => Bool.noConfusion h) (fun _ => ?_)); conv => whnf))
       rfl)
set_option maxRecDepth 100000 in
set_option maxHeartbeats 16000000 in
theorem mwithF (M : List (List Ety)) (k : Nat) (l : List Ety) (hM : mOk M) (hk : k < M.length) : Fun Try.prog 63 [mpV M, i64V k, slV (eR l)] [] (.v (mpV (M.set k l))) := by
  have hit := mItem hk
  have hlen : ((k : Int)).toNat < (mR M).length := by rw [Int.toNat_natCast, mLen]; exact hk
  have hb : ([] : List (List IV)).length + (mR M).length ≤ 5864062014805 := by have := hM.1; rw [mLen, List.length_nil]; omega
  have hset := mSet M k l
  unfold mpV
  rw [← hset]
  refine fun_of_vc tabOk mixOk Try.func63 rfl (by rfl) (rs := [.cell 6 52]) rfl rfl 22 ?_; rw [Try.ntmps63]
  (conv => whnf); repeat ((first | refine And.intro DrawOk.go ?_ | refine And.intro rfl ?_ | refine And.intro (fun _ => ?_) (fun h => Bool.noConfusion h) | refine And.intro (fun h => Bool.noConfusion h) (fun _ => ?_)); conv => whnf)
  refine ⟨mSz M, ?_⟩
  (conv => whnf); repeat ((first | refine And.intro DrawOk.go ?_ | refine And.intro rfl ?_ | refine And.intro (fun _ => ?_) (fun h => Bool.noConfusion h) | refine And.intro (fun h => Bool.noConfusion h) (fun _ => ?_)); conv => whnf)
  refine ⟨bytes_leN 5864062014805 (by decide) hb, ?_⟩
  (conv => whnf); repeat ((first | refine And.intro DrawOk.go ?_ | refine And.intro rfl ?_ | refine And.intro (fun _ => ?_) (fun h => Bool.noConfusion h) | refine And.intro (fun h => Bool.noConfusion h) (fun _ => ?_)); conv => whnf)
  rw [List.nil_append]
  refine ⟨Int.natCast_nonneg _, hlen, ?_⟩
  (conv => whnf); repeat ((first | refine And.intro DrawOk.go ?_ | refine And.intro rfl ?_ | refine And.intro (fun _ => ?_) (fun h => Bool.noConfusion h) | refine And.intro (fun h => Bool.noConfusion h) (fun _ => ?_)); conv => whnf)
  refine ⟨_, hit, ?_⟩
  (conv => whnf); repeat ((first | refine And.intro DrawOk.go ?_ | refine And.intro rfl ?_ | refine And.intro (fun _ => ?_) (fun h => Bool.noConfusion h) | refine And.intro (fun h => Bool.noConfusion h) (fun _ => ?_)); conv => whnf)
  refine Exists.intro [] (And.intro List.nodup_nil ?_); ((conv => whnf); repeat ((first | refine And.intro DrawOk.go ?_ | refine And.intro rfl ?_ | refine And.intro (fun _ => ?_) (fun h => Bool.noConfusion h) | refine And.intro (fun h => Bool.noConfusion h) (fun _ => ?_)); conv => whnf))
  rfl
theorem sinst_same {l : List Ety} {e : Ety} (hv : svalid l = true) (h : (sinst l e).2.2 = false) : (sinst l e).1 = l := by
  unfold sinst at h ⊢
  rw [if_neg (by rw [hv]; decide)] at h ⊢
  split at h
  · rename_i h1; rw [if_pos h1]
  · rename_i h1
    rw [if_neg h1]
    split at h
    · rename_i h2
      rw [if_pos h2]
      split at h
      · rename_i h3; rw [if_pos h3]
      · cases h
    · cases h
theorem srel_same {l : List Ety} {b v fz fo tz to m : Int} (hv : svalid l = true) (h : (srel l b v fz fo tz to m).2 = false) : (srel l b v fz fo tz to m).1 = l := by
  unfold srel at h ⊢
  rw [if_neg (by rw [hv]; decide)] at h ⊢
  split at h
  · cases h
  · rename_i h1; rw [if_neg h1]
theorem sdrop_same {l : List Ety} {c : Int} (hv : svalid l = true) (h : (sdrop l c).2 = []) : (sdrop l c).1 = l := by
  rw [sdrop_yes hv] at h ⊢
  rw [List.filter_eq_nil_iff] at h
  rw [List.filter_eq_self]
  intro e he
  simpa using h e he
theorem set_same {M : List (List Ety)} {k : Nat} (hk : k < M.length) : M.set k M[k] = M := List.set_getElem_self hk
end Go.Proofs.Ytgjcljjgifnjdaa.Ab
