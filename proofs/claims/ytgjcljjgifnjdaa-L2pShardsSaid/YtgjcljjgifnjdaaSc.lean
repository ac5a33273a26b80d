/- Shards: the search, Find. -/
import Derived.Test.YtgjcljjgifnjdaaSb
namespace Go.Proofs.Ytgjcljjgifnjdaa.Ab
set_option linter.unusedVariables false
set_option linter.unusedSimpArgs false
open Go.RowKit

set_option maxRecDepth 100000 in
set_option maxHeartbeats 8000000 in
theorem ssearchF (es : List Ety) (hs : svalid es = true) (b : Int) (hl : es.length ≤ 1000000) : Fun Try.prog 47 [slV (eR es), i64V b, fnV 48] [] (.tup [i64V (splace es b), bV (shere es b)]) := by
  refine fun_of_vc tabOk mixOk Try.func47 rfl (by rfl) (rs := [.tmp 6, .tmp 7]) rfl rfl 50 ?_; rw [Try.ntmps47]
  (conv => whnf); repeat ((first | refine And.intro DrawOk.go ?_ | refine And.intro rfl ?_ | refine And.intro (fun _ => ?_) (fun h => Bool.noConfusion h) | refine And.intro (fun h => Bool.noConfusion h) (fun _ => ?_)); conv => whnf)
  refine vc_loop [0, 1, 2, 6, 7] [] (X := Nat × Nat) (fun x gs => [(8, ATint x.1), (9, ATint x.2)]) (fun i gs => []) (fun x => x.1 ≤ x.2 ∧ x.2 ≤ es.length ∧ (∀ j (hj : j < es.length), j < x.1 → es[j].b < b) ∧ ∀ j (hj : j < es.length), x.2 ≤ j → b ≤ es[j].b) (fun x => x.2 - x.1) _ (Ghost.refl _) (0, (eR es).length) ⟨by omega, by simp [eR], fun j _ h => by simp at h, fun j hj h => by simp [eR] at h; omega⟩ ?_ ?_
  · (refine And.intro rfl (And.intro rfl ?_)); (repeat' (first | exact trivial | exact rfl | apply And.intro | (refine congrArg (Value.int .i64) (w64_nat ?_); omega)))
  rintro gs ⟨lo, hi⟩ ⟨h1, h2, h3, h4⟩
  dsimp only at h1 h2 h3 h4 ⊢
  (conv => whnf); repeat ((first | refine And.intro DrawOk.go ?_ | refine And.intro rfl ?_ | refine And.intro (fun _ => ?_) (fun h => Bool.noConfusion h) | refine And.intro (fun h => Bool.noConfusion h) (fun _ => ?_)); conv => whnf)
  refine And.intro (fun h => ?_) (fun h => ?_)
  · have hlt : lo < hi := by have := of_decide_eq_true h; omega
    have hw : iwrap .i64 (Int.tdiv (iwrap .i64 ((lo : Int) + (hi : Int))) 2) = (((lo + hi) / 2 : Nat) : Int) := by
      rw [show iwrap .i64 ((lo : Int) + (hi : Int)) = ((lo + hi : Nat) : Int) from (w64_in (by omega)).trans (by omega)]
      rw [Int.tdiv_eq_ediv_of_nonneg (by omega)]
      exact (w64_in (by omega)).trans (by omega)
    have hm : (lo + hi) / 2 < es.length := by omega
    (conv => whnf); repeat ((first | refine And.intro DrawOk.go ?_ | refine And.intro rfl ?_ | refine And.intro (fun _ => ?_) (fun h => Bool.noConfusion h) | refine And.intro (fun h => Bool.noConfusion h) (fun _ => ?_)); conv => whnf)
    refine ⟨by decide, ?_⟩
    (conv => whnf); repeat ((first | refine And.intro DrawOk.go ?_ | refine And.intro rfl ?_ | refine And.intro (fun _ => ?_) (fun h => Bool.noConfusion h) | refine And.intro (fun h => Bool.noConfusion h) (fun _ => ?_)); conv => whnf)
    rw [hw]
    refine ⟨by omega, _, eItem hm, rfl, ?_⟩
    (conv => whnf); repeat ((first | refine And.intro DrawOk.go ?_ | refine And.intro rfl ?_ | refine And.intro (fun _ => ?_) (fun h => Bool.noConfusion h) | refine And.intro (fun h => Bool.noConfusion h) (fun _ => ?_)); conv => whnf)
    refine ⟨_, _, sblockF _ _ _ _ _ _, ?_⟩
    (conv => whnf); repeat ((first | refine And.intro DrawOk.go ?_ | refine And.intro rfl ?_ | refine And.intro (fun _ => ?_) (fun h => Bool.noConfusion h) | refine And.intro (fun h => Bool.noConfusion h) (fun _ => ?_)); conv => whnf)
    refine And.intro (fun h5 => ?_) (fun h5 => ?_)
    · have h5' := of_decide_eq_true h5
      have hw2 : iwrap .i64 ((((lo + hi) / 2 : Nat) : Int) + 1) = (((lo + hi) / 2 + 1 : Nat) : Int) := (w64_in (by omega)).trans (by omega)
      (conv => whnf); repeat ((first | refine And.intro DrawOk.go ?_ | refine And.intro rfl ?_ | refine And.intro (fun _ => ?_) (fun h => Bool.noConfusion h) | refine And.intro (fun h => Bool.noConfusion h) (fun _ => ?_)); conv => whnf)
      refine again ((lo + hi) / 2 + 1, hi) ⟨by omega, h2, fun j hj h => ?_, h4⟩ (by dsimp only; omega) ?_
      · by_cases e : j = (lo + hi) / 2
        · subst e; exact h5'
        · have := asc_get hs (i := j) (j := (lo + hi) / 2) (by omega) hm
          omega
      (refine And.intro rfl (And.intro rfl ?_)); (repeat' (first | exact trivial | exact rfl | apply And.intro | (refine congrArg (Value.int .i64) (w64_nat ?_); omega)))
    · have h5' := of_decide_eq_false h5
      (conv => whnf); repeat ((first | refine And.intro DrawOk.go ?_ | refine And.intro rfl ?_ | refine And.intro (fun _ => ?_) (fun h => Bool.noConfusion h) | refine And.intro (fun h => Bool.noConfusion h) (fun _ => ?_)); conv => whnf)
      refine again (lo, (lo + hi) / 2) ⟨by omega, by omega, h3, fun j hj h => ?_⟩ (by dsimp only; omega) ?_
      · by_cases e : j = (lo + hi) / 2
        · subst e; omega
        · have := asc_get hs (i := (lo + hi) / 2) (j := j) (by omega) hj
          omega
      (refine And.intro rfl (And.intro rfl ?_)); (repeat' (first | exact trivial | exact rfl | apply And.intro | (refine congrArg (Value.int .i64) (w64_nat ?_); omega)))
  · have hge : lo = hi := by have := of_decide_eq_false h; omega
    subst hge
    have e := splace_uniq h2 h3 (fun h => h4 lo h (Nat.le_refl _))
    (conv => whnf); repeat ((first | refine And.intro DrawOk.go ?_ | refine And.intro rfl ?_ | refine And.intro (fun _ => ?_) (fun h => Bool.noConfusion h) | refine And.intro (fun h => Bool.noConfusion h) (fun _ => ?_)); conv => whnf)
    refine And.intro (fun h5 => ?_) (fun h5 => ?_)
    · have hlt : lo < es.length := by have := of_decide_eq_true h5; simp [eR] at this; omega
      have e2 : shere es b = (es[lo].b == b) := by unfold shere; rw [e, List.getElem?_eq_getElem hlt]; rw [Bool.eq_iff_iff]; simp
      (conv => whnf); repeat ((first | refine And.intro DrawOk.go ?_ | refine And.intro rfl ?_ | refine And.intro (fun _ => ?_) (fun h => Bool.noConfusion h) | refine And.intro (fun h => Bool.noConfusion h) (fun _ => ?_)); conv => whnf)
      refine ⟨by omega, _, eItem hlt, rfl, ?_⟩
      (conv => whnf); repeat ((first | refine And.intro DrawOk.go ?_ | refine And.intro rfl ?_ | refine And.intro (fun _ => ?_) (fun h => Bool.noConfusion h) | refine And.intro (fun h => Bool.noConfusion h) (fun _ => ?_)); conv => whnf)
      refine ⟨_, _, sblockF _ _ _ _ _ _, ?_⟩
      (conv => whnf); repeat ((first | refine And.intro DrawOk.go ?_ | refine And.intro rfl ?_ | refine And.intro (fun _ => ?_) (fun h => Bool.noConfusion h) | refine And.intro (fun h => Bool.noConfusion h) (fun _ => ?_)); conv => whnf)
      refine Exists.intro [] (And.intro List.nodup_nil ?_); ((conv => whnf); repeat ((first | refine And.intro DrawOk.go ?_ | refine And.intro rfl ?_ | refine And.intro (fun _ => ?_) (fun h => Bool.noConfusion h) | refine And.intro (fun h => Bool.noConfusion h) (fun _ => ?_)); conv => whnf))
      rw [e, e2]; rfl
    · have hge : ¬ lo < es.length := by have := of_decide_eq_false h5; simp [eR] at this; omega
      have e2 : shere es b = false := by unfold shere; rw [e, List.getElem?_eq_none (by omega)]
      (conv => whnf); repeat ((first | refine And.intro DrawOk.go ?_ | refine And.intro rfl ?_ | refine And.intro (fun _ => ?_) (fun h => Bool.noConfusion h) | refine And.intro (fun h => Bool.noConfusion h) (fun _ => ?_)); conv => whnf)
      refine Exists.intro [] (And.intro List.nodup_nil ?_); ((conv => whnf); repeat ((first | refine And.intro DrawOk.go ?_ | refine And.intro rfl ?_ | refine And.intro (fun _ => ?_) (fun h => Bool.noConfusion h) | refine And.intro (fun h => Bool.noConfusion h) (fun _ => ?_)); conv => whnf))
      rw [e, e2]; rfl

theorem sfind_no {es : List Ety} {b : Int} (h : svalid es = false) : sfind es b = (e0, false) := by unfold sfind; rw [h]; rfl
theorem sfind_yes {es : List Ety} {b : Int} (h : svalid es = true) : sfind es b = (sold es b, shere es b) := by unfold sfind; rw [h]; rfl
set_option maxRecDepth 100000 in
set_option maxHeartbeats 8000000 in
theorem sfindF (es : List Ety) (b : Int) (hl : es.length ≤ 1000000) : Fun Try.prog 18 [slV (eR es), i64V b] [] (.tup [eV (sfind es b).1, bV (sfind es b).2]) := by
  have hv := svalidF es hl
  by_cases hs : svalid es = true
  · rw [hs] at hv
    rw [sfind_yes hs]
    have sf := ssearchF es hs b hl
    by_cases hh : shere es b = true
    · obtain ⟨hlt, q1, q2⟩ := shere_lt hh
      rw [q2]
      rw [hh] at sf ⊢
      refine fun_of_vc tabOk mixOk Try.func18 rfl (by rfl) (rs := [.cell 4 34, .tmp 5]) rfl rfl 29 ?_; rw [Try.ntmps18]
      (conv => whnf); repeat ((first | refine And.intro DrawOk.go ?_ | refine And.intro rfl ?_ | refine And.intro (fun _ => ?_) (fun h => Bool.noConfusion h) | refine And.intro (fun h => Bool.noConfusion h) (fun _ => ?_)); conv => whnf)
      refine ⟨_, _, hv, ?_⟩
      (conv => whnf); repeat ((first | refine And.intro DrawOk.go ?_ | refine And.intro rfl ?_ | refine And.intro (fun _ => ?_) (fun h => Bool.noConfusion h) | refine And.intro (fun h => Bool.noConfusion h) (fun _ => ?_)); conv => whnf)
      refine ⟨_, _, sf, ?_⟩
      (conv => whnf); repeat ((first | refine And.intro DrawOk.go ?_ | refine And.intro rfl ?_ | refine And.intro (fun _ => ?_) (fun h => Bool.noConfusion h) | refine And.intro (fun h => Bool.noConfusion h) (fun _ => ?_)); conv => whnf)
      refine ⟨by omega, _, eItem hlt, rfl, ?_⟩
      (conv => whnf); repeat ((first | refine And.intro DrawOk.go ?_ | refine And.intro rfl ?_ | refine And.intro (fun _ => ?_) (fun h => Bool.noConfusion h) | refine And.intro (fun h => Bool.noConfusion h) (fun _ => ?_)); conv => whnf)
      refine Exists.intro [] (And.intro List.nodup_nil ?_); ((conv => whnf); repeat ((first | refine And.intro DrawOk.go ?_ | refine And.intro rfl ?_ | refine And.intro (fun _ => ?_) (fun h => Bool.noConfusion h) | refine And.intro (fun h => Bool.noConfusion h) (fun _ => ?_)); conv => whnf))
      rfl
    · have hh : shere es b = false := by simpa using hh
      rw [sold_no hh]
      rw [hh] at sf ⊢
      refine fun_of_vc tabOk mixOk Try.func18 rfl (by rfl) (rs := [.cell 4 34, .tmp 5]) rfl rfl 29 ?_; rw [Try.ntmps18]
      (conv => whnf); repeat ((first | refine And.intro DrawOk.go ?_ | refine And.intro rfl ?_ | refine And.intro (fun _ => ?_) (fun h => Bool.noConfusion h) | refine And.intro (fun h => Bool.noConfusion h) (fun _ => ?_)); conv => whnf)
      refine ⟨_, _, hv, ?_⟩
      (conv => whnf); repeat ((first | refine And.intro DrawOk.go ?_ | refine And.intro rfl ?_ | refine And.intro (fun _ => ?_) (fun h => Bool.noConfusion h) | refine And.intro (fun h => Bool.noConfusion h) (fun _ => ?_)); conv => whnf)
      refine ⟨_, _, sf, ?_⟩
      (conv => whnf); repeat ((first | refine And.intro DrawOk.go ?_ | refine And.intro rfl ?_ | refine And.intro (fun _ => ?_) (fun h => Bool.noConfusion h) | refine And.intro (fun h => Bool.noConfusion h) (fun _ => ?_)); conv => whnf)
      refine Exists.intro [] (And.intro List.nodup_nil ?_); ((conv => whnf); repeat ((first | refine And.intro DrawOk.go ?_ | refine And.intro rfl ?_ | refine And.intro (fun _ => ?_) (fun h => Bool.noConfusion h) | refine And.intro (fun h => Bool.noConfusion h) (fun _ => ?_)); conv => whnf))
      rfl
  · have hs : svalid es = false := by simpa using hs
    rw [hs] at hv
    rw [sfind_no hs]
    refine fun_of_vc tabOk mixOk Try.func18 rfl (by rfl) (rs := [.cell 4 34, .tmp 5]) rfl rfl 29 ?_; rw [Try.ntmps18]
    (conv => whnf); repeat ((first | refine And.intro DrawOk.go ?_ | refine And.intro rfl ?_ | refine And.intro (fun _ => ?_) (fun h => Bool.noConfusion h) | refine And.intro (fun h => Bool.noConfusion h) (fun _ => ?_)); conv => whnf)
    refine ⟨_, _, hv, ?_⟩
    (conv => whnf); repeat ((first | refine And.intro DrawOk.go ?_ | refine And.intro rfl ?_ | refine And.intro (fun _ => ?_) (fun h => Bool.noConfusion h) | refine And.intro (fun h => Bool.noConfusion h) (fun _ => ?_)); conv => whnf)
    refine Exists.intro [] (And.intro List.nodup_nil ?_); ((conv => whnf); repeat ((first | refine And.intro DrawOk.go ?_ | refine And.intro rfl ?_ | refine And.intro (fun _ => ?_) (fun h => Bool.noConfusion h) | refine And.intro (fun h => Bool.noConfusion h) (fun _ => ?_)); conv => whnf))
    rfl
set_option maxRecDepth 100000 in
set_option maxHeartbeats 8000000 in
theorem sfindF' (es : List Ety) (b : Int) (hl : es.length ≤ 1000000) : Fun Try.prog 25 [slV (eR es), i64V b] [] (.tup [eV (sfind es b).1, bV (sfind es b).2]) := by
  have hv := svalidF' es hl
  by_cases hs : svalid es = true
  · rw [hs] at hv
    rw [sfind_yes hs]
    have sf := splaceF es b hl
    by_cases hlt : splace es b < es.length
    · by_cases hb : (es[splace es b]).b = b
      · have hh : shere es b = true := by unfold shere; rw [List.getElem?_eq_getElem hlt]; exact decide_eq_true hb
        obtain ⟨hlt', q1, q2⟩ := shere_lt hh
        rw [q2, hh]
        refine fun_of_vc tabOk mixOk Try.func25 rfl (by rfl) (rs := [.cell 4 34, .tmp 5]) rfl rfl 36 ?_; rw [Try.ntmps25]
        (conv => whnf); repeat ((first | refine And.intro DrawOk.go ?_ | refine And.intro rfl ?_ | refine And.intro (fun _ => ?_) (fun h => Bool.noConfusion h) | refine And.intro (fun h => Bool.noConfusion h) (fun _ => ?_)); conv => whnf)
        refine ⟨_, _, hv, ?_⟩
        (conv => whnf); repeat ((first | refine And.intro DrawOk.go ?_ | refine And.intro rfl ?_ | refine And.intro (fun _ => ?_) (fun h => Bool.noConfusion h) | refine And.intro (fun h => Bool.noConfusion h) (fun _ => ?_)); conv => whnf)
        refine ⟨_, _, sf, ?_⟩
        (conv => whnf); repeat ((first | refine And.intro DrawOk.go ?_ | refine And.intro rfl ?_ | refine And.intro (fun _ => ?_) (fun h => Bool.noConfusion h) | refine And.intro (fun h => Bool.noConfusion h) (fun _ => ?_)); conv => whnf)
        refine And.intro (fun h => by simp [eR] at h; omega) (fun _ => ?_)
        (conv => whnf); repeat ((first | refine And.intro DrawOk.go ?_ | refine And.intro rfl ?_ | refine And.intro (fun _ => ?_) (fun h => Bool.noConfusion h) | refine And.intro (fun h => Bool.noConfusion h) (fun _ => ?_)); conv => whnf)
        refine ⟨by omega, _, eItem hlt, rfl, ?_⟩
        (conv => whnf); repeat ((first | refine And.intro DrawOk.go ?_ | refine And.intro rfl ?_ | refine And.intro (fun _ => ?_) (fun h => Bool.noConfusion h) | refine And.intro (fun h => Bool.noConfusion h) (fun _ => ?_)); conv => whnf)
        refine And.intro (fun h => by simp [hb] at h) (fun _ => ?_)
        (conv => whnf); repeat ((first | refine And.intro DrawOk.go ?_ | refine And.intro rfl ?_ | refine And.intro (fun _ => ?_) (fun h => Bool.noConfusion h) | refine And.intro (fun h => Bool.noConfusion h) (fun _ => ?_)); conv => whnf)
        refine ⟨by omega, _, eItem hlt, rfl, ?_⟩
        (conv => whnf); repeat ((first | refine And.intro DrawOk.go ?_ | refine And.intro rfl ?_ | refine And.intro (fun _ => ?_) (fun h => Bool.noConfusion h) | refine And.intro (fun h => Bool.noConfusion h) (fun _ => ?_)); conv => whnf)
        refine Exists.intro [] (And.intro List.nodup_nil ?_); ((conv => whnf); repeat ((first | refine And.intro DrawOk.go ?_ | refine And.intro rfl ?_ | refine And.intro (fun _ => ?_) (fun h => Bool.noConfusion h) | refine And.intro (fun h => Bool.noConfusion h) (fun _ => ?_)); conv => whnf))
        rfl
      · have hh : shere es b = false := by unfold shere; rw [List.getElem?_eq_getElem hlt]; exact decide_eq_false hb
        rw [sold_no hh, hh]
        refine fun_of_vc tabOk mixOk Try.func25 rfl (by rfl) (rs := [.cell 4 34, .tmp 5]) rfl rfl 36 ?_; rw [Try.ntmps25]
        (conv => whnf); repeat ((first | refine And.intro DrawOk.go ?_ | refine And.intro rfl ?_ | refine And.intro (fun _ => ?_) (fun h => Bool.noConfusion h) | refine And.intro (fun h => Bool.noConfusion h) (fun _ => ?_)); conv => whnf)
        refine ⟨_, _, hv, ?_⟩
        (conv => whnf); repeat ((first | refine And.intro DrawOk.go ?_ | refine And.intro rfl ?_ | refine And.intro (fun _ => ?_) (fun h => Bool.noConfusion h) | refine And.intro (fun h => Bool.noConfusion h) (fun _ => ?_)); conv => whnf)
        refine ⟨_, _, sf, ?_⟩
        (conv => whnf); repeat ((first | refine And.intro DrawOk.go ?_ | refine And.intro rfl ?_ | refine And.intro (fun _ => ?_) (fun h => Bool.noConfusion h) | refine And.intro (fun h => Bool.noConfusion h) (fun _ => ?_)); conv => whnf)
        refine And.intro (fun h => by simp [eR] at h; omega) (fun _ => ?_)
        (conv => whnf); repeat ((first | refine And.intro DrawOk.go ?_ | refine And.intro rfl ?_ | refine And.intro (fun _ => ?_) (fun h => Bool.noConfusion h) | refine And.intro (fun h => Bool.noConfusion h) (fun _ => ?_)); conv => whnf)
        refine ⟨by omega, _, eItem hlt, rfl, ?_⟩
        (conv => whnf); repeat ((first | refine And.intro DrawOk.go ?_ | refine And.intro rfl ?_ | refine And.intro (fun _ => ?_) (fun h => Bool.noConfusion h) | refine And.intro (fun h => Bool.noConfusion h) (fun _ => ?_)); conv => whnf)
        refine And.intro (fun _ => ?_) (fun h => by simp [hb] at h)
        (conv => whnf); repeat ((first | refine And.intro DrawOk.go ?_ | refine And.intro rfl ?_ | refine And.intro (fun _ => ?_) (fun h => Bool.noConfusion h) | refine And.intro (fun h => Bool.noConfusion h) (fun _ => ?_)); conv => whnf)
        refine Exists.intro [] (And.intro List.nodup_nil ?_); ((conv => whnf); repeat ((first | refine And.intro DrawOk.go ?_ | refine And.intro rfl ?_ | refine And.intro (fun _ => ?_) (fun h => Bool.noConfusion h) | refine And.intro (fun h => Bool.noConfusion h) (fun _ => ?_)); conv => whnf))
        rfl
    · have hh : shere es b = false := by unfold shere; rw [List.getElem?_eq_none (by omega)]
      have hle := splace_le es b
      rw [sold_no hh, hh]
      refine fun_of_vc tabOk mixOk Try.func25 rfl (by rfl) (rs := [.cell 4 34, .tmp 5]) rfl rfl 36 ?_; rw [Try.ntmps25]
      (conv => whnf); repeat ((first | refine And.intro DrawOk.go ?_ | refine And.intro rfl ?_ | refine And.intro (fun _ => ?_) (fun h => Bool.noConfusion h) | refine And.intro (fun h => Bool.noConfusion h) (fun _ => ?_)); conv => whnf)
      refine ⟨_, _, hv, ?_⟩
      (conv => whnf); repeat ((first | refine And.intro DrawOk.go ?_ | refine And.intro rfl ?_ | refine And.intro (fun _ => ?_) (fun h => Bool.noConfusion h) | refine And.intro (fun h => Bool.noConfusion h) (fun _ => ?_)); conv => whnf)
      refine ⟨_, _, sf, ?_⟩
      (conv => whnf); repeat ((first | refine And.intro DrawOk.go ?_ | refine And.intro rfl ?_ | refine And.intro (fun _ => ?_) (fun h => Bool.noConfusion h) | refine And.intro (fun h => Bool.noConfusion h) (fun _ => ?_)); conv => whnf)
      refine And.intro (fun _ => ?_) (fun h => by simp [eR] at h; omega)
      (conv => whnf); repeat ((first | refine And.intro DrawOk.go ?_ | refine And.intro rfl ?_ | refine And.intro (fun _ => ?_) (fun h => Bool.noConfusion h) | refine And.intro (fun h => Bool.noConfusion h) (fun _ => ?_)); conv => whnf)
      refine Exists.intro [] (And.intro List.nodup_nil ?_); ((conv => whnf); repeat ((first | refine And.intro DrawOk.go ?_ | refine And.intro rfl ?_ | refine And.intro (fun _ => ?_) (fun h => Bool.noConfusion h) | refine And.intro (fun h => Bool.noConfusion h) (fun _ => ?_)); conv => whnf))
      rfl
  · have hs : svalid es = false := by simpa using hs
    rw [hs] at hv
    rw [sfind_no hs]
    refine fun_of_vc tabOk mixOk Try.func25 rfl (by rfl) (rs := [.cell 4 34, .tmp 5]) rfl rfl 36 ?_; rw [Try.ntmps25]
    (conv => whnf); repeat ((first | refine And.intro DrawOk.go ?_ | refine And.intro rfl ?_ | refine And.intro (fun _ => ?_) (fun h => Bool.noConfusion h) | refine And.intro (fun h => Bool.noConfusion h) (fun _ => ?_)); conv => whnf)
    refine ⟨_, _, hv, ?_⟩
    (conv => whnf); repeat ((first | refine And.intro DrawOk.go ?_ | refine And.intro rfl ?_ | refine And.intro (fun _ => ?_) (fun h => Bool.noConfusion h) | refine And.intro (fun h => Bool.noConfusion h) (fun _ => ?_)); conv => whnf)
    refine Exists.intro [] (And.intro List.nodup_nil ?_); ((conv => whnf); repeat ((first | refine And.intro DrawOk.go ?_ | refine And.intro rfl ?_ | refine And.intro (fun _ => ?_) (fun h => Bool.noConfusion h) | refine And.intro (fun h => Bool.noConfusion h) (fun _ => ?_)); conv => whnf))
    rfl
end Go.Proofs.Ytgjcljjgifnjdaa.Ab
