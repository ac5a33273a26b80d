/- Maps: what is found in valid maps; plain laws. No condition. -/
import Derived.Test.YtgjcljjgifnjdaaWn
namespace Go.Proofs.Ytgjcljjgifnjdaa.Ab
set_option linter.unusedVariables false
set_option linter.unusedSimpArgs false
open Go.RowKit

theorem mGo_of {M : List (List Ety)} : ∀ (l : List (List Ety)) (i : Nat), (∀ k (h : k < l.length), shOk M ((i + k : Nat) : Int) l[k] = true) → mGo M i l = true := by
  intro l
  induction l with
  | nil => intro i _; rfl
  | cons x l ih =>
    intro i h
    rw [mGo, Bool.and_eq_true]
    refine ⟨h 0 (by simp), ih (i + 1) fun k hk => ?_⟩
    have := h (k + 1) (by simpa using hk)
    rw [show i + (k + 1) = i + 1 + k by omega] at this
    exact this
theorem mvalid_of {M : List (List Ety)} (h1 : 1 ≤ M.length ∧ M.length ≤ 8) (h2 : ∀ k (hk : k < M.length), svalid M[k] = true ∧ ∀ e ∈ M[k], mstr M e.b = (k : Int)) : mvalid M = true := by
  rw [mv_go h1, List.drop_zero]
  refine mGo_of M 0 fun k hk => ?_
  rw [Nat.zero_add]
  unfold shOk
  rw [Bool.and_eq_true, (h2 k hk).1, Bool.not_eq_true']
  refine ⟨rfl, ?_⟩
  rw [List.any_eq_false]
  intro e he
  unfold outM
  rw [(h2 k hk).2 e he]
  simp
theorem mstr_len {M N : List (List Ety)} (h : M.length = N.length) (b : Int) : mstr M b = mstr N b := by unfold mstr; rw [h]
/-- A valid map's shard of a block. -/
theorem mstr_at {M : List (List Ety)} (h : mvalid M = true) {b : Int} (hb : 0 ≤ b) : ∃ k : Nat, mstr M b = k ∧ k < M.length := by
  have := mstr_in (M := M) (b := b) (by rw [mAt_iff, h, decide_eq_true hb]; rfl)
  exact this.2
/-- The entry of a block. -/
def mlk (M : List (List Ety)) (b : Int) : Option Ety := if mAt M b = true then lk (shd M b) b else none
theorem mlk_at {M : List (List Ety)} (h : mvalid M = true) {b : Int} (hb : 0 ≤ b) {k : Nat} (hk : mstr M b = k) (hl : k < M.length) : mlk M b = lk M[k] b := by
  unfold mlk
  rw [if_pos (by rw [mAt_iff, h, decide_eq_true hb]; rfl), shd_at hk hl]
theorem mlk_neg {M : List (List Ety)} {b : Int} (hb : b < 0) : mlk M b = none := by
  unfold mlk
  rw [if_neg]
  rw [mAt_iff, decide_eq_false (by omega), Bool.and_false]
  decide
theorem mlook_lk {M : List (List Ety)} (h : mvalid M = true) (b : Int) : mlook M b = ((mlk M b).getD e0, (mlk M b).isSome) := by
  unfold mlook mlk
  by_cases hb : 0 ≤ b
  · have ha : mAt M b = true := by rw [mAt_iff, h, decide_eq_true hb]; rfl
    rw [if_pos ha, if_pos ha]
    obtain ⟨k, hk, hl⟩ := mstr_at h hb
    rw [shd_at hk hl]
    have hv := ((mvalid_at h).2 k hl).1
    unfold sfind
    rw [if_pos hv, sold_lk hv, shere_lk hv]
  · have ha : ¬ mAt M b = true := by rw [mAt_iff, decide_eq_false hb, Bool.and_false]; decide
    rw [if_neg ha, if_neg ha]
    rfl
theorem mlk_mem {M : List (List Ety)} (h : mvalid M = true) {e : Ety} : e ∈ M.flatten ↔ mlk M e.b = some e := by
  constructor
  · intro he
    have hr := of_decide_eq_true (mval_mem h he)
    obtain ⟨l, hl, he⟩ := List.mem_flatten.1 he
    obtain ⟨k, hk, rfl⟩ := List.getElem_of_mem hl
    have hv := (mvalid_at h).2 k hk
    rw [mlk_at h hr.2.2.2.2.2.1 (hv.2 e he) hk]
    exact (lk_iff hv.1).2 ⟨he, rfl⟩
  · intro hm
    by_cases hb : 0 ≤ e.b
    · obtain ⟨k, hk, hl⟩ := mstr_at h hb
      rw [mlk_at h hb hk hl] at hm
      exact List.mem_flatten.2 ⟨M[k], List.getElem_mem hl, ((lk_iff ((mvalid_at h).2 k hl).1).1 hm).1⟩
    · rw [mlk_neg (by omega)] at hm
      cases hm
theorem mall_ext {M N : List (List Ety)} (hM : mvalid M = true) (hN : mvalid N = true) (h : ∀ b, mlk M b = mlk N b) : mall M = mall N := by
  have h1 := mall_asc hM
  have h2 := mall_asc hN
  refine asc_ext h1.1 h2.1 fun e => ?_
  rw [h1.2, h2.2, mlk_mem hM, mlk_mem hN, h]
/-- A shard changed. -/
theorem set_valid {M : List (List Ety)} (h : mvalid M = true) {k : Nat} (hk : k < M.length) {l : List Ety} (hv : svalid l = true) (hs : ∀ e ∈ l, mstr M e.b = (k : Int)) : mvalid (M.set k l) = true := by
  have hm := mvalid_at h
  refine mvalid_of (by rw [List.length_set]; exact hm.1) fun i hi => ?_
  rw [List.length_set] at hi
  rw [List.getElem_set]
  split
  · rename_i he
    subst he
    exact ⟨hv, fun e he => (mstr_len (by rw [List.length_set]) _).trans (hs e he)⟩
  · exact ⟨(hm.2 i hi).1, fun e he => (mstr_len (by rw [List.length_set]) _).trans ((hm.2 i hi).2 e he)⟩
theorem set_lk {M : List (List Ety)} (h : mvalid M = true) {k : Nat} (hk : k < M.length) {l : List Ety} (hv : svalid l = true) (hs : ∀ e ∈ l, mstr M e.b = (k : Int)) {c : Int} (hc : 0 ≤ c) : mlk (M.set k l) c = if mstr M c = (k : Int) then lk l c else mlk M c := by
  have h' := set_valid h hk hv hs
  obtain ⟨i, hi, hil⟩ := mstr_at h hc
  rw [mlk_at h' hc (k := i) ((mstr_len (by rw [List.length_set]) _).trans hi) (by rw [List.length_set]; exact hil), mlk_at h hc hi hil, List.getElem_set, hi]
  by_cases e : k = i
  · rw [if_pos e, if_pos (by rw [e])]
  · rw [if_neg e, if_neg (by omega)]
theorem inst_at {M : List (List Ety)} (h : mvalid M = true) {e : Ety} (hr : rightE e = true) : ∃ k, ∃ hk : k < M.length, mstr M e.b = (k : Int) ∧ minst M e = (M.set k (sinst M[k] e).1, (sinst M[k] e).2) := by
  have hb : 0 ≤ e.b := (of_decide_eq_true hr).2.2.2.2.2.1
  obtain ⟨k, hk, hl⟩ := mstr_at h hb
  refine ⟨k, hl, hk, ?_⟩
  unfold minst
  rw [if_pos (by rw [mAt_iff, h, decide_eq_true hb]; rfl), shd_at hk hl, hk, Int.toNat_natCast]
theorem inst_valid {M : List (List Ety)} (h : mvalid M = true) {e : Ety} (hr : rightE e = true) : mvalid (minst M e).1 = true := by
  obtain ⟨k, hk, hs, he⟩ := inst_at h hr
  rw [he]
  have hm := (mvalid_at h).2 k hk
  refine set_valid h hk (svalid_inst hm.1) fun x hx => ?_
  rcases sinst_mem hx with hx | rfl
  · exact hm.2 x hx
  · exact hs
theorem inst_lk {M : List (List Ety)} (h : mvalid M = true) {e : Ety} (hr : rightE e = true) (c : Int) : mlk (minst M e).1 c = if c = e.b then some (newer (mlk M c) e) else mlk M c := by
  have hb : 0 ≤ e.b := (of_decide_eq_true hr).2.2.2.2.2.1
  by_cases hc : 0 ≤ c
  · obtain ⟨k, hk, hs, he⟩ := inst_at h hr
    rw [he]
    have hm := (mvalid_at h).2 k hk
    have hst : ∀ x ∈ (sinst M[k] e).1, mstr M x.b = (k : Int) := fun x hx => by
      rcases sinst_mem hx with hx | rfl
      · exact hm.2 x hx
      · exact hs
    rw [set_lk h hk (svalid_inst hm.1) hst hc]
    by_cases h1 : mstr M c = (k : Int)
    · rw [if_pos h1, lk_inst hm.1 hr, mlk_at h hc h1 hk]
    · rw [if_neg h1, if_neg]
      intro h2
      subst h2
      exact h1 hs
  · rw [mlk_neg (by omega), mlk_neg (by omega), if_neg (by omega)]
theorem sinst_2 {l : List Ety} {e : Ety} (h : svalid l = true) (hr : rightE e = true) : (sinst l e).2 = ((lk l e.b).getD e0, decide (e.v > ((lk l e.b).getD e0).v)) := by
  have hv : 1 ≤ e.v := (of_decide_eq_true hr).2.1
  rw [← sold_lk h]
  unfold sinst
  rw [if_neg (by rw [h]; decide), if_neg (by rw [hr]; decide)]
  split
  · split
    · rename_i h1 h2
      rw [decide_eq_false (by omega)]
    · rename_i h1 h2
      rw [decide_eq_true (by omega)]
  · rename_i h1
    rw [sold_no (by simpa using h1)]
    have h0 : e0.v = 0 := rfl
    rw [decide_eq_true (by omega)]
theorem inst_2 {M : List (List Ety)} (h : mvalid M = true) {e : Ety} (hr : rightE e = true) : (minst M e).2 = ((mlk M e.b).getD e0, decide (e.v > ((mlk M e.b).getD e0).v)) := by
  have hb : 0 ≤ e.b := (of_decide_eq_true hr).2.2.2.2.2.1
  obtain ⟨k, hk, hs, he⟩ := inst_at h hr
  rw [he, mlk_at h hb hs hk]
  exact sinst_2 ((mvalid_at h).2 k hk).1 hr
theorem mnew_valid {n : Nat} (h1 : 1 ≤ n) (h8 : n ≤ 8) : mvalid (mnew n) = true := by
  unfold mnew
  refine mvalid_of (by rw [List.length_replicate]; exact ⟨h1, h8⟩) fun k hk => ?_
  rw [List.getElem_replicate]
  exact ⟨rfl, fun e he => by cases he⟩
theorem mnew_lk (n : Nat) (b : Int) : mlk (mnew n) b = none := by
  unfold mlk
  split
  · unfold shd
    split
    · rename_i l hl
      have := List.mem_of_getElem? hl
      unfold mnew at this
      rw [List.eq_of_mem_replicate this]
      rfl
    · rfl
  · rfl
theorem mlk_b {M : List (List Ety)} {b : Int} {e : Ety} (h : mvalid M = true) (hl : mlk M b = some e) : e.b = b ∧ e ∈ M.flatten := by
  by_cases hb : 0 ≤ b
  · obtain ⟨k, hk, hkl⟩ := mstr_at h hb
    rw [mlk_at h hb hk hkl] at hl
    have := (lk_iff ((mvalid_at h).2 k hkl).1).1 hl
    exact ⟨this.2, List.mem_flatten.2 ⟨M[k], List.getElem_mem hkl, this.1⟩⟩
  · rw [mlk_neg (by omega)] at hl
    cases hl
end Go.Proofs.Ytgjcljjgifnjdaa.Ab
