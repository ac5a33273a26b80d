/- The layers' layout: the check of a configuration, the program's and the reference's. -/
import Derived.Test.YtopdpfbkdgncaaaLay
namespace Go.Proofs.Ytopdpfbkdgncaaa
set_option linter.unusedVariables false
set_option linter.unusedSimpArgs false
open Go.RowKit

set_option maxRecDepth 100000 in
set_option maxHeartbeats 1000000 in
theorem refcheck_yes (z s b q d h : Int) (w : World) (hok : Lay.okR z s b q d h = true) :
    Calls Try.prog 19 #[cfgV z s b q d h] w fun e w' => e = .returned (.int .i64 (Lay.chk z s b q d h)) ∧ Below w.heap.size w w' := by
  obtain ⟨h1, h2, h3, h4, h5, h6, h7, h8, h9, h10, h11, h12⟩ := Lay.okR_iff.1 hok
  have hok' := Lib.hid hok
  clear hok
  go_enter Try.func19, Try.ntmps19
  go_wp2_with fail
  refine (refof_any z s b q d h _ hok'.out).mono ?_; rintro e w1 ⟨rfl, hb1⟩
  replace hb1 := bt (a := w) (by repeat (first | assumption | exact Below.refl _ _ | refine Below.drew ?_ | refine Below.alloc ?_ (by first | omega | (simp; done) | (simp; omega)) _ | refine Below.setCell ?_ (by first | omega | (simp; done) | (simp; omega)) _)) hb1
  have hs1 := hb1.size
  have hc := Lay.chk_ok (z := z) (s := s) (b := b) (q := q) (d := d) (h := h) hok'.out
  generalize Lay.data z s b = D at *
  generalize Lay.cap z s b q = C at *
  generalize Lay.slot s b = S at *
  have HC := Lib.hid hc; clear hc
  by_cases hD : D < 6
  · go_wp2
    go_ret
    exact ⟨ret_i64 (by rw [HC.out, if_pos (Or.inl hD)]), (by repeat (first | assumption | exact Below.refl _ _ | refine Below.drew ?_ | refine Below.alloc ?_ (by first | omega | (simp; done) | (simp; omega)) _ | refine Below.setCell ?_ (by first | omega | (simp; done) | (simp; omega)) _))⟩
  · by_cases hC : C < 1
    · go_wp2
      go_ret
      exact ⟨ret_i64 (by rw [HC.out, if_pos (Or.inr hC)]), (by repeat (first | assumption | exact Below.refl _ _ | refine Below.drew ?_ | refine Below.alloc ?_ (by first | omega | (simp; done) | (simp; omega)) _ | refine Below.setCell ?_ (by first | omega | (simp; done) | (simp; omega)) _))⟩
    · go_wp2
      go_ret
      exact ⟨ret_i64 (by rw [HC.out, if_neg (by omega)]), (by repeat (first | assumption | exact Below.refl _ _ | refine Below.drew ?_ | refine Below.alloc ?_ (by first | omega | (simp; done) | (simp; omega)) _ | refine Below.setCell ?_ (by first | omega | (simp; done) | (simp; omega)) _))⟩

set_option maxRecDepth 100000 in
set_option maxHeartbeats 1000000 in
theorem refcheck_no (z s b q d h : Int) (w : World) (hok : ¬ Lay.okR z s b q d h = true) :
    Calls Try.prog 19 #[cfgV z s b q d h] w fun e w' => e = .returned (.int .i64 (Lay.chk z s b q d h)) ∧ Below w.heap.size w w' := by
  have HC := Lib.hid (Lay.chk_no (z := z) (s := s) (b := b) (q := q) (d := d) (h := h) hok)
  have HN := Lib.hid hok
  clear hok
  go_enter Try.func19, Try.ntmps19
  go_wp2_with fail
  all_goals first
    | (go_ret; exact ⟨ret_i64 HC.out.symm, (by repeat (first | assumption | exact Below.refl _ _ | refine Below.drew ?_ | refine Below.alloc ?_ (by first | omega | (simp; done) | (simp; omega)) _ | refine Below.setCell ?_ (by first | omega | (simp; done) | (simp; omega)) _))⟩)
    | exact (HN.out (Lay.okR_iff.2 (by omega))).elim

theorem refcheck_any (z s b q d h : Int) (w : World) :
    Calls Try.prog 19 #[cfgV z s b q d h] w fun e w' => e = .returned (.int .i64 (Lay.chk z s b q d h)) ∧ Below w.heap.size w w' := by
  by_cases hok : Lay.okR z s b q d h = true
  · exact refcheck_yes z s b q d h w hok
  · exact refcheck_no z s b q d h w hok

end Go.Proofs.Ytopdpfbkdgncaaa
