/- The layers' layout: what the program's functions and the reference's compute, for configurations of any numbers. -/
import Derived.Test.YtopdpfbkdgncaaaMem
namespace Go.Proofs.Ytopdpfbkdgncaaa
set_option linter.unusedVariables false
set_option linter.unusedSimpArgs false
open Go.RowKit

namespace Lay
def okR (z s b q d h : Int) : Bool := decide (3 ≤ s ∧ s ≤ 64 ∧ 1 ≤ z ∧ z ≤ 32 ∧ 1 ≤ b ∧ b ≤ 128 ∧ 1 ≤ q ∧ q ≤ 4 ∧ 1 ≤ d ∧ d ≤ 8 ∧ 1 ≤ h ∧ h ≤ 8)
def slot (s b : Int) : Int := (b + 2 + s - 1) / s
def data (z s b : Int) : Int := z - 2 * slot s b
def cap (z s b q : Int) : Int := (data z s b - 3) * (s - 1) - q - 1
def chk (z s b q d h : Int) : Int := if okR z s b q d h = true then (if data z s b < 6 ∨ cap z s b q < 1 then 11 else 0) else 1

theorem okR_iff {z s b q d h : Int} : okR z s b q d h = true ↔ (3 ≤ s ∧ s ≤ 64 ∧ 1 ≤ z ∧ z ≤ 32 ∧ 1 ≤ b ∧ b ≤ 128 ∧ 1 ≤ q ∧ q ≤ 4 ∧ 1 ≤ d ∧ d ≤ 8 ∧ 1 ≤ h ∧ h ≤ 8) := by
  unfold okR; exact decide_eq_true_iff
theorem chk_ok {z s b q d h : Int} (hk : okR z s b q d h = true) : chk z s b q d h = (if data z s b < 6 ∨ cap z s b q < 1 then 11 else 0) := by unfold chk; rw [if_pos hk]
theorem chk_no {z s b q d h : Int} (hk : ¬ okR z s b q d h = true) : chk z s b q d h = 1 := by unfold chk; rw [if_neg hk]
theorem slot_bd {s b : Int} (h1 : 3 ≤ s) (h2 : s ≤ 64) (h3 : 1 ≤ b) (h4 : b ≤ 128) : 1 ≤ slot s b ∧ slot s b ≤ 64 ∧ b + 2 ≤ slot s b * s := by
  unfold slot
  have hs : (0 : Int) < s := by omega
  have e1 : b + 2 + s - 1 = (b + 1) + 1 * s := by omega
  rw [e1, Int.add_mul_ediv_right _ _ (by omega)]
  have h0 : 0 ≤ (b + 1) / s := Int.ediv_nonneg (by omega) (by omega)
  have h5 : (b + 1) / s ≤ 43 := by
    apply Int.ediv_le_of_le_mul hs
    have : 43 * 3 ≤ 43 * s := by omega
    omega
  have h6 : b + 1 < ((b + 1) / s + 1) * s := Int.lt_ediv_add_one_mul_self _ hs
  exact ⟨by omega, by omega, by omega⟩
theorem prod_bd {x y : Int} (h1 : -200 ≤ x) (h2 : x ≤ 200) (h3 : 0 ≤ y) (h4 : y ≤ 63) : -12600 ≤ x * y ∧ x * y ≤ 12600 := by
  have a := Int.mul_le_mul_of_nonneg_right h2 h3
  have b := Int.mul_le_mul_of_nonneg_right h1 h3
  constructor <;> omega
end Lay

/-- A configuration as a value. -/
abbrev cfgV (z s b q d h : Int) : Value := .agg #[.int .i64 z, .int .i64 s, .int .i64 b, .int .i64 q, .int .i64 d, .int .i64 h]

set_option maxHeartbeats 400000 in
theorem shape_any (z s b q d h : Int) (w : World) (hok : Lay.okR z s b q d h = true) :
    Calls Try.prog 44 #[cfgV z s b q d h] w fun e w' => e = .returned (.agg #[.int .i64 (Lay.slot s b), .int .i64 (2 * Lay.slot s b), .int .i64 (Lay.data z s b), .int .i64 (Lay.cap z s b q)]) ∧ Below w.heap.size w w' := by
  obtain ⟨h1, h2, h3, h4, h5, h6, h7, h8, h9, h10, h11, h12⟩ := Lay.okR_iff.1 hok
  clear hok
  have hsl := Lay.slot_bd h1 h2 h5 h6
  have hpr := Lay.prod_bd (x := Lay.data z s b - 3) (y := s - 1) (by unfold Lay.data; omega) (by unfold Lay.data; omega) (by omega) (by omega)
  unfold Lay.data at hpr
  unfold Lay.slot at hsl hpr
  go_enter Try.func44, Try.ntmps44
  go_wp2
  exact bodyPost_ret (v := .agg #[.int .i64 (Lay.slot s b), .int .i64 (2 * Lay.slot s b), .int .i64 (Lay.data z s b), .int .i64 (Lay.cap z s b q)])
    (by simp [results, Try.results44, go_sem, Lay.slot, Lay.data, Lay.cap]) rfl ⟨rfl, (by repeat (first | assumption | exact Below.refl _ _ | refine Below.drew ?_ | refine Below.alloc ?_ (by first | omega | (simp; done) | (simp; omega)) _ | refine Below.setCell ?_ (by first | omega | (simp; done) | (simp; omega)) _))⟩

set_option maxHeartbeats 400000 in
theorem refof_any (z s b q d h : Int) (w : World) (hok : Lay.okR z s b q d h = true) :
    Calls Try.prog 45 #[cfgV z s b q d h] w fun e w' => e = .returned (.agg #[.int .i64 (Lay.slot s b), .int .i64 (2 * Lay.slot s b), .int .i64 (Lay.data z s b), .int .i64 (Lay.cap z s b q)]) ∧ Below w.heap.size w w' := by
  obtain ⟨h1, h2, h3, h4, h5, h6, h7, h8, h9, h10, h11, h12⟩ := Lay.okR_iff.1 hok
  clear hok
  have hsl := Lay.slot_bd h1 h2 h5 h6
  have hpr := Lay.prod_bd (x := Lay.data z s b - 3) (y := s - 1) (by unfold Lay.data; omega) (by unfold Lay.data; omega) (by omega) (by omega)
  unfold Lay.data at hpr
  unfold Lay.slot at hsl hpr
  go_enter Try.func45, Try.ntmps45
  go_wp2
  exact bodyPost_ret (v := .agg #[.int .i64 (Lay.slot s b), .int .i64 (2 * Lay.slot s b), .int .i64 (Lay.data z s b), .int .i64 (Lay.cap z s b q)])
    (by simp [results, Try.results45, go_sem, Lay.slot, Lay.data, Lay.cap]) rfl ⟨rfl, (by repeat (first | assumption | exact Below.refl _ _ | refine Below.drew ?_ | refine Below.alloc ?_ (by first | omega | (simp; done) | (simp; omega)) _ | refine Below.setCell ?_ (by first | omega | (simp; done) | (simp; omega)) _))⟩

end Go.Proofs.Ytopdpfbkdgncaaa
