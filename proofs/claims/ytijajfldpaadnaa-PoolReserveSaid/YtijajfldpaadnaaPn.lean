/- The pool: the plain law of its reserve. -/
import Derived.Test.YtijajfldpaadnaaPl
namespace Go.Proofs.Ytijajfldpaadnaa.Ab
set_option linter.unusedVariables false
set_option linter.unusedSimpArgs false
open Go.RowKit

theorem small_facts {c : Cf} (hs : smallP c) : cfChk c = 0 ∧ 0 ≤ lyFirst c ∧ lyFirst c ≤ 20 ∧ 6 ≤ lyData c ∧ lyData c ≤ 8 ∧ c.z = lyFirst c + lyData c := by
  obtain ⟨z, s, b, q, d, h⟩ := c
  obtain ⟨⟨s1, s2⟩, ⟨b1, b2⟩, ⟨q1, q2⟩, ⟨d1, d2⟩, ⟨h1, h2⟩, v, v1, v2, hz⟩ := hs
  dsimp only at s1 s2 b1 b2 q1 q2 d1 d2 h1 h2 hz ⊢
  have hs' : s = 3 ∨ s = 4 ∨ s = 5 ∨ s = 6 := by omega
  have hQ : ∃ Q, Int.tdiv (b + 2 + s - 1) s = Q ∧ 1 ≤ Q ∧ Q ≤ 3 := by
    refine ⟨_, rfl, ?_⟩
    rw [Int.tdiv_eq_ediv_of_nonneg (by omega)]
    rcases hs' with rfl | rfl | rfl | rfl <;> omega
  obtain ⟨Q, hQ, Q1, Q2⟩ := hQ
  rw [hQ] at hz
  have e1 : lySlot ⟨z, s, b, q, d, h⟩ = Q := by
    unfold lySlot
    dsimp only
    rw [show iwrap .i64 (b + 2) = b + 2 from w64_in (by omega), show iwrap .i64 (b + 2 + s) = b + 2 + s from w64_in (by omega), show iwrap .i64 (b + 2 + s - 1) = b + 2 + s - 1 from w64_in (by omega), hQ]
    exact w64_in (by omega)
  have e2 : lyFirst ⟨z, s, b, q, d, h⟩ = 2 * Q := by
    unfold lyFirst
    rw [e1]
    exact w64_in (by omega)
  have e3 : lyData ⟨z, s, b, q, d, h⟩ = 6 + v := by
    unfold lyData
    rw [e2]
    dsimp only
    exact (w64_in (by omega)).trans (by omega)
  have hm : ∃ M, (3 + v) * (s - 1) = M ∧ 6 ≤ M ∧ M ≤ 25 := by
    refine ⟨_, rfl, ?_⟩
    rcases hs' with rfl | rfl | rfl | rfl <;> omega
  obtain ⟨M, hM, M1, M2⟩ := hm
  have e4 : lyCap ⟨z, s, b, q, d, h⟩ = M - q - 1 := by
    unfold lyCap
    rw [e3]
    dsimp only
    rw [show iwrap .i64 (6 + v - 3) = 3 + v from (w64_in (by omega)).trans (by omega), show iwrap .i64 (s - 1) = s - 1 from w64_in (by omega), hM, show iwrap .i64 M = M from w64_in (by omega), show iwrap .i64 (M - q) = M - q from w64_in (by omega)]
    exact w64_in (by omega)
  refine ⟨?_, by omega, by omega, by omega, by omega, by omega⟩
  unfold cfChk
  rw [if_pos (cfOk_iff.2 ⟨by dsimp only; omega, by dsimp only; omega, by dsimp only; omega, by dsimp only; omega, by dsimp only; omega, by dsimp only; omega⟩), if_neg (by rw [e3, e4]; omega)]
theorem frGo_of (c : Cf) : ∀ (l : List Int) (pr : Option Int), l.Pairwise (· < ·) → (∀ x ∈ l, isData c x = true) → (∀ y, pr = some y → ∀ x ∈ l, y < x) → frGo c pr l = true := by
  intro l
  induction l with
  | nil => intro pr _ _ _; rfl
  | cons x l ih =>
    intro pr h1 h2 h3
    unfold frGo
    rw [Bool.and_eq_true, Bool.and_eq_true]
    obtain ⟨g1, g2⟩ := List.pairwise_cons.1 h1
    refine ⟨⟨h2 x List.mem_cons_self, ?_⟩, ih (some x) g2 (fun y hy => h2 y (List.mem_cons_of_mem _ hy)) (fun y hy z hz => by cases hy; exact g1 z hz)⟩
    cases pr with
    | none => rfl
    | some y => exact decide_eq_true (h3 y rfl x List.mem_cons_self)
/-- What a valid pool is. -/
theorem pvalid_iff {p : Po} {c : Cf} (hc : cfChk c = 0) : pvalid p c = true ↔ (p.f.Pairwise (· < ·) ∧ (∀ x ∈ p.f, isData c x = true)) ∧ (p.h = -1 ∨ isData c p.h = true ∧ p.h ∉ p.f) ∧ (p.c = -1 ∨ isData c p.c = true ∧ p.c ∉ p.f) ∧ (p.h ≠ p.c ∨ p.h = -1) := by
  rw [pvalid_yes hc]
  unfold laneB
  simp only [Bool.and_eq_true, Bool.or_eq_true, decide_eq_true_iff, Bool.not_eq_true', ← Bool.not_eq_true, hasB_iff]
  constructor
  · rintro ⟨h1, ⟨h2, h3⟩, h4⟩
    obtain ⟨g1, g2, _⟩ := frGo_pw c p.f none h1
    exact ⟨⟨g1, g2⟩, h2, h3, h4⟩
  · rintro ⟨⟨g1, g2⟩, h2, h3, h4⟩
    exact ⟨frGo_of c p.f none g1 g2 (by intro y hy; cases hy), ⟨h2, h3⟩, h4⟩
def pcnt (p : Po) : Int := (p.f.length : Int) + (if p.h = -1 then 0 else 1) + (if p.c = -1 then 0 else 1)
theorem isData_ge {c : Cf} {n : Int} (h0 : 0 ≤ lyFirst c) (h : isData c n = true) : 0 ≤ n := by
  unfold isData at h
  have := of_decide_eq_true h
  omega
theorem host_step {p : Po} {c : Cf} (hc : cfChk c = 0) (h0 : 0 ≤ lyFirst c) (hv : pvalid p c = true) : pvalid (phost p c).1 c = true ∧ pcnt (phost p c).1 = pcnt p ∧ (phost p c).2 = (decide (p.h = -1) && decide ((p.f.length : Int) > 2)) := by
  have hv' := (pvalid_iff hc).1 hv
  obtain ⟨f, h, cl⟩ := p
  unfold phost
  dsimp only at hv' ⊢
  obtain ⟨⟨g1, g2⟩, g3, g4, g5⟩ := hv'
  by_cases hh : pvalid ⟨f, h, cl⟩ c = true ∧ h = -1 ∧ 2 < f.length
  · rw [if_pos hh]
    obtain ⟨_, rfl, hl⟩ := hh
    cases f with
    | nil => simp at hl
    | cons x f =>
      obtain ⟨q1, q2⟩ := List.pairwise_cons.1 g1
      have hx := g2 x List.mem_cons_self
      have hx0 := isData_ge h0 hx
      refine ⟨(pvalid_iff hc).2 ⟨⟨q2, fun y hy => g2 y (List.mem_cons_of_mem _ hy)⟩, Or.inr ⟨hx, fun hm => ?_⟩, ?_, Or.inl ?_⟩, ?_, ?_⟩
      · have := q1 x hm; exact absurd this (Int.lt_irrefl x)
      · rcases g4 with g | ⟨g, gn⟩
        · exact Or.inl g
        · exact Or.inr ⟨g, fun hm => gn (List.mem_cons_of_mem _ hm)⟩
      · show x ≠ cl
        intro e
        subst e
        rcases g4 with g | ⟨g, gn⟩
        · omega
        · exact gn List.mem_cons_self
      · show pcnt ⟨f, x, cl⟩ = pcnt ⟨x :: f, -1, cl⟩
        unfold pcnt
        dsimp only
        rw [if_neg (show ¬ x = -1 by omega), if_pos rfl, List.length_cons]
        omega
      · rw [decide_eq_true rfl, decide_eq_true (by simp only [List.length_cons] at hl ⊢; omega)]; rfl
  · rw [if_neg hh]
    refine ⟨hv, rfl, ?_⟩
    by_cases h1 : h = -1
    · rw [decide_eq_true h1, decide_eq_false (fun h2 => hh ⟨hv, h1, by omega⟩)]; rfl
    · rw [decide_eq_false h1]; rfl
theorem clean_step {p : Po} {c : Cf} (hc : cfChk c = 0) (h0 : 0 ≤ lyFirst c) (hv : pvalid p c = true) : pvalid (pclean p c).1 c = true ∧ pcnt (pclean p c).1 = pcnt p ∧ (pclean p c).2 = (decide (p.c = -1) && decide ((p.f.length : Int) > 0)) := by
  have hv' := (pvalid_iff hc).1 hv
  obtain ⟨f, h, cl⟩ := p
  unfold pclean
  dsimp only at hv' ⊢
  obtain ⟨⟨g1, g2⟩, g3, g4, g5⟩ := hv'
  by_cases hh : pvalid ⟨f, h, cl⟩ c = true ∧ cl = -1 ∧ 0 < f.length
  · rw [if_pos hh]
    obtain ⟨_, rfl, hl⟩ := hh
    cases f with
    | nil => simp at hl
    | cons x f =>
      obtain ⟨q1, q2⟩ := List.pairwise_cons.1 g1
      have hx := g2 x List.mem_cons_self
      have hx0 := isData_ge h0 hx
      refine ⟨(pvalid_iff hc).2 ⟨⟨q2, fun y hy => g2 y (List.mem_cons_of_mem _ hy)⟩, ?_, Or.inr ⟨hx, fun hm => ?_⟩, ?_⟩, ?_, ?_⟩
      · rcases g3 with g | ⟨g, gn⟩
        · exact Or.inl g
        · exact Or.inr ⟨g, fun hm => gn (List.mem_cons_of_mem _ hm)⟩
      · have := q1 x hm; exact absurd this (Int.lt_irrefl x)
      · show h ≠ x ∨ h = -1
        rcases g3 with g | ⟨g, gn⟩
        · exact Or.inr g
        · exact Or.inl (fun e => gn (e ▸ List.mem_cons_self))
      · show pcnt ⟨f, h, x⟩ = pcnt ⟨x :: f, h, -1⟩
        unfold pcnt
        dsimp only
        rw [if_neg (show ¬ x = -1 by omega), if_pos rfl, List.length_cons]
        omega
      · rw [decide_eq_true rfl, decide_eq_true (by simp only [List.length_cons] at hl ⊢; omega)]; rfl
  · rw [if_neg hh]
    refine ⟨hv, rfl, ?_⟩
    by_cases h1 : cl = -1
    · rw [decide_eq_true h1, decide_eq_false (fun h2 => hh ⟨hv, h1, by omega⟩)]; rfl
    · rw [decide_eq_false h1]; rfl
theorem leave_step {p : Po} {c : Cf} (hc : cfChk c = 0) (hv : pvalid p c = true) (b : Bool) : pvalid (pleave p c b).1 c = true ∧ pcnt (pleave p c b).1 + (if (pleave p c b).2 = true then 1 else 0) = pcnt p ∧ (pleave p c b).2 = (match b with | true => decide (p.h ≠ -1) | false => decide (p.c ≠ -1)) := by
  have hv' := (pvalid_iff hc).1 hv
  obtain ⟨f, h, cl⟩ := p
  dsimp only at hv' ⊢
  obtain ⟨⟨g1, g2⟩, g3, g4, g5⟩ := hv'
  cases b
  · unfold pleave
    dsimp only
    by_cases hh : cl = -1
    · rw [if_neg (by simp [hh])]
      exact ⟨hv, by dsimp only; simp, by simp [hh]⟩
    · rw [if_pos ⟨hv, hh⟩]
      refine ⟨(pvalid_iff hc).2 ⟨⟨g1, g2⟩, g3, Or.inl rfl, ?_⟩, ?_, by simp [hh]⟩
      · dsimp only; omega
      · unfold pcnt
        dsimp only
        rw [if_neg hh, if_pos rfl, if_pos rfl]
        omega
  · unfold pleave
    dsimp only
    by_cases hh : h = -1
    · rw [if_neg (by simp [hh])]
      exact ⟨hv, by dsimp only; simp, by simp [hh]⟩
    · rw [if_pos ⟨hv, hh⟩]
      refine ⟨(pvalid_iff hc).2 ⟨⟨g1, g2⟩, Or.inl rfl, g4, Or.inr rfl⟩, ?_, by simp [hh]⟩
      unfold pcnt
      dsimp only
      rw [if_neg hh, if_pos rfl, if_pos rfl]
      omega
/-- The first zones, put one after the other. -/
def fl (F : Int) (k : Nat) : List Int := (List.range k).map (fun (a : Nat) => F + (a : Int))
theorem fl_len (F : Int) (k : Nat) : (fl F k).length = k := by simp [fl]
theorem fl_get (F : Int) (k : Nat) (a : Nat) (h : a < (fl F k).length) : (fl F k)[a] = F + (a : Int) := by simp [fl]
theorem fl_succ (F : Int) (k : Nat) : fl F (k + 1) = fl F k ++ [F + (k : Int)] := by simp [fl, List.range_succ]
theorem fl_pw (F : Int) (k : Nat) : (fl F k).Pairwise (· < ·) := by
  rw [List.pairwise_iff_getElem]
  intro i j hi hj hij
  rw [fl_get, fl_get]
  omega
theorem fl_mem {F : Int} {k : Nat} {x : Int} (h : x ∈ fl F k) : F ≤ x ∧ x < F + (k : Int) := by
  obtain ⟨a, ha, rfl⟩ := List.mem_iff_getElem.1 h
  rw [fl_get]
  rw [fl_len] at ha
  omega
theorem fl_valid {c : Cf} (hc : cfChk c = 0) (hz : c.z = lyFirst c + lyData c) {k : Nat} (hk : (k : Int) ≤ lyData c) : pvalid ⟨fl (lyFirst c) k, -1, -1⟩ c = true := by
  refine (pvalid_iff hc).2 ⟨⟨fl_pw _ _, fun x hx => ?_⟩, Or.inl rfl, Or.inl rfl, Or.inr rfl⟩
  have := fl_mem hx
  unfold isData
  exact decide_eq_true ⟨hc, by omega, by omega⟩
theorem put_fl {c : Cf} (hc : cfChk c = 0) (h0 : 0 ≤ lyFirst c) (hz : c.z = lyFirst c + lyData c) {k : Nat} (hk : (k : Int) < lyData c) : pput ⟨fl (lyFirst c) k, -1, -1⟩ c (lyFirst c + (k : Int)) = (⟨fl (lyFirst c) (k + 1), -1, -1⟩, true) := by
  have hn : lyFirst c + (k : Int) ∉ fl (lyFirst c) k := by
    intro hm
    have := fl_mem hm
    omega
  have hb : bsI (fl (lyFirst c) k) (lyFirst c + (k : Int)) = k := by
    refine bsI_is (fl_pw _ _) (by rw [fl_len]; exact Nat.le_refl _) (fun a ha hak => ?_) (fun h => ?_)
    · rw [fl_get]; omega
    · rw [fl_len] at h; omega
  unfold pput
  rw [if_pos ⟨fl_valid hc hz (by omega), by unfold isData; exact decide_eq_true ⟨hc, by omega, by omega⟩, by rw [← Bool.not_eq_true, hasB_iff]; exact hn, by dsimp only; omega, by dsimp only; omega⟩]
  dsimp only [ins]
  rw [hb, List.take_of_length_le (by rw [fl_len]; exact Nat.le_refl _), List.drop_of_length_le (by rw [fl_len]; exact Nat.le_refl _), fl_succ]
theorem fl_cnt (F : Int) (k : Nat) : pcnt ⟨fl F k, -1, -1⟩ = k := by
  unfold pcnt
  dsimp only
  rw [fl_len, if_pos rfl]
  omega
end Go.Proofs.Ytijajfldpaadnaa.Ab
