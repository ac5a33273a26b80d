/- The layers' layout: the layout, the zones of a slot, and which zones hold data; the program's and the reference's. -/
import Derived.Test.YtopdpfbkdgncaaaLayChk
namespace Go.Proofs.Ytopdpfbkdgncaaa
set_option linter.unusedVariables false
set_option linter.unusedSimpArgs false
open Go.RowKit

/-- What 'Of' returns. -/
def layV (z s b q d h : Int) : Value := if Lay.chk z s b q d h = 0 then .agg #[.int .i64 (Lay.slot s b), .int .i64 (2 * Lay.slot s b), .int .i64 (Lay.data z s b), .int .i64 (Lay.cap z s b q)] else .agg #[.int .i64 0, .int .i64 0, .int .i64 0, .int .i64 0]
theorem okR_of_chk {z s b q d h : Int} (hc : Lay.chk z s b q d h = 0) : Lay.okR z s b q d h = true := by
  unfold Lay.chk at hc
  by_cases hk : Lay.okR z s b q d h = true
  · exact hk
  · rw [if_neg hk] at hc; omega

set_option maxRecDepth 100000 in
set_option maxHeartbeats 400000 in
theorem of_any (z s b q d h : Int) (w : World) :
    Calls Try.prog 16 #[cfgV z s b q d h] w fun e w' => e = .returned (.tuple #[layV z s b q d h, .int .i64 (Lay.chk z s b q d h)]) ∧ Below w.heap.size w w' := by
  by_cases hc : Lay.chk z s b q d h = 0
  · have hv : layV z s b q d h = .agg #[.int .i64 (Lay.slot s b), .int .i64 (2 * Lay.slot s b), .int .i64 (Lay.data z s b), .int .i64 (Lay.cap z s b q)] := by unfold layV; rw [if_pos hc]
    have hok' := Lib.hid (okR_of_chk hc)
    rw [hv]
    clear hv
    have HC := Lib.hid hc
    clear hc
    go_enter Try.func16, Try.ntmps16
    go_wp2_with fail
    refine (check_any z s b q d h _).mono ?_; rintro e w1 ⟨rfl, hb1⟩
    obtain ⟨hc1, hf1⟩ := bcell hb1
    have hs1 := hb1.size
    simp at hs1
    have hz1 : w.heap.size + 1 < w1.heap.size := by omega
    have hz1' : w.heap.size < w1.heap.size := by omega
    replace hb1 := bt (a := w) (by repeat (first | assumption | exact Below.refl _ _ | refine Below.drew ?_ | refine Below.alloc ?_ (by first | omega | (simp; done) | (simp; omega)) _ | refine Below.setCell ?_ (by first | omega | (simp; done) | (simp; omega)) _)) hb1
    rw [HC.out]
    go_wp2_with fail
    refine (shape_any z s b q d h _ hok'.out).mono ?_; rintro e w2 ⟨rfl, hb2⟩
    obtain ⟨hc2, hf2⟩ := bcell hb2
    have hs2 := hb2.size
    replace hb2 := bt hb1 hb2
    go_wp2
    exact bodyPost_ret (v := .tuple #[.agg #[.int .i64 (Lay.slot s b), .int .i64 (2 * Lay.slot s b), .int .i64 (Lay.data z s b), .int .i64 (Lay.cap z s b q)], .int .i64 0]) (by simp [results, Try.results16, go_sem, hc1, hc2, hz1]) rfl ⟨by rw [HC.out], (by repeat (first | assumption | exact Below.refl _ _ | refine Below.drew ?_ | refine Below.alloc ?_ (by first | omega | (simp; done) | (simp; omega)) _ | refine Below.setCell ?_ (by first | omega | (simp; done) | (simp; omega)) _))⟩
  · have hv : layV z s b q d h = .agg #[.int .i64 0, .int .i64 0, .int .i64 0, .int .i64 0] := by unfold layV; rw [if_neg hc]
    rw [hv]
    clear hv
    have hne : (Lay.chk z s b q d h != 0) = true := by rw [bne_iff_ne]; exact hc
    clear hc
    go_enter Try.func16, Try.ntmps16
    go_wp2_with fail
    refine (check_any z s b q d h _).mono ?_; rintro e w1 ⟨rfl, hb1⟩
    obtain ⟨hc1, hf1⟩ := bcell hb1
    have hs1 := hb1.size
    simp at hs1
    have hz1 : w.heap.size + 1 < w1.heap.size := by omega
    have hz1' : w.heap.size < w1.heap.size := by omega
    replace hb1 := bt (a := w) (by repeat (first | assumption | exact Below.refl _ _ | refine Below.drew ?_ | refine Below.alloc ?_ (by first | omega | (simp; done) | (simp; omega)) _ | refine Below.setCell ?_ (by first | omega | (simp; done) | (simp; omega)) _)) hb1
    go_wp2
    exact bodyPost_ret (v := .tuple #[.agg #[.int .i64 0, .int .i64 0, .int .i64 0, .int .i64 0], .int .i64 (Lay.chk z s b q d h)]) (by simp [results, Try.results16, go_sem, hc1, hz1]) rfl ⟨rfl, (by repeat (first | assumption | exact Below.refl _ _ | refine Below.drew ?_ | refine Below.alloc ?_ (by first | omega | (simp; done) | (simp; omega)) _ | refine Below.setCell ?_ (by first | omega | (simp; done) | (simp; omega)) _))⟩

set_option maxRecDepth 100000 in
set_option maxHeartbeats 400000 in
theorem refOf_any (z s b q d h : Int) (w : World) :
    Calls Try.prog 17 #[cfgV z s b q d h] w fun e w' => e = .returned (.tuple #[layV z s b q d h, .int .i64 (Lay.chk z s b q d h)]) ∧ Below w.heap.size w w' := by
  by_cases hc : Lay.chk z s b q d h = 0
  · have hv : layV z s b q d h = .agg #[.int .i64 (Lay.slot s b), .int .i64 (2 * Lay.slot s b), .int .i64 (Lay.data z s b), .int .i64 (Lay.cap z s b q)] := by unfold layV; rw [if_pos hc]
    have hok' := Lib.hid (okR_of_chk hc)
    rw [hv]
    clear hv
    have HC := Lib.hid hc
    clear hc
    go_enter Try.func17, Try.ntmps17
    go_wp2_with fail
    refine (refcheck_any z s b q d h _).mono ?_; rintro e w1 ⟨rfl, hb1⟩
    obtain ⟨hc1, hf1⟩ := bcell hb1
    have hs1 := hb1.size
    simp at hs1
    have hz1 : w.heap.size + 1 < w1.heap.size := by omega
    have hz1' : w.heap.size < w1.heap.size := by omega
    replace hb1 := bt (a := w) (by repeat (first | assumption | exact Below.refl _ _ | refine Below.drew ?_ | refine Below.alloc ?_ (by first | omega | (simp; done) | (simp; omega)) _ | refine Below.setCell ?_ (by first | omega | (simp; done) | (simp; omega)) _)) hb1
    rw [HC.out]
    go_wp2_with fail
    refine (refof_any z s b q d h _ hok'.out).mono ?_; rintro e w2 ⟨rfl, hb2⟩
    obtain ⟨hc2, hf2⟩ := bcell hb2
    have hs2 := hb2.size
    replace hb2 := bt hb1 hb2
    go_wp2
    exact bodyPost_ret (v := .tuple #[.agg #[.int .i64 (Lay.slot s b), .int .i64 (2 * Lay.slot s b), .int .i64 (Lay.data z s b), .int .i64 (Lay.cap z s b q)], .int .i64 0]) (by simp [results, Try.results17, go_sem, hc1, hc2, hz1]) rfl ⟨by rw [HC.out], (by repeat (first | assumption | exact Below.refl _ _ | refine Below.drew ?_ | refine Below.alloc ?_ (by first | omega | (simp; done) | (simp; omega)) _ | refine Below.setCell ?_ (by first | omega | (simp; done) | (simp; omega)) _))⟩
  · have hv : layV z s b q d h = .agg #[.int .i64 0, .int .i64 0, .int .i64 0, .int .i64 0] := by unfold layV; rw [if_neg hc]
    rw [hv]
    clear hv
    have hne : (Lay.chk z s b q d h != 0) = true := by rw [bne_iff_ne]; exact hc
    clear hc
    go_enter Try.func17, Try.ntmps17
    go_wp2_with fail
    refine (refcheck_any z s b q d h _).mono ?_; rintro e w1 ⟨rfl, hb1⟩
    obtain ⟨hc1, hf1⟩ := bcell hb1
    have hs1 := hb1.size
    simp at hs1
    have hz1 : w.heap.size + 1 < w1.heap.size := by omega
    have hz1' : w.heap.size < w1.heap.size := by omega
    replace hb1 := bt (a := w) (by repeat (first | assumption | exact Below.refl _ _ | refine Below.drew ?_ | refine Below.alloc ?_ (by first | omega | (simp; done) | (simp; omega)) _ | refine Below.setCell ?_ (by first | omega | (simp; done) | (simp; omega)) _)) hb1
    go_wp2
    exact bodyPost_ret (v := .tuple #[.agg #[.int .i64 0, .int .i64 0, .int .i64 0, .int .i64 0], .int .i64 (Lay.chk z s b q d h)]) (by simp [results, Try.results17, go_sem, hc1, hz1]) rfl ⟨rfl, (by repeat (first | assumption | exact Below.refl _ _ | refine Below.drew ?_ | refine Below.alloc ?_ (by first | omega | (simp; done) | (simp; omega)) _ | refine Below.setCell ?_ (by first | omega | (simp; done) | (simp; omega)) _))⟩

theorem lay_field (a b c d : Int) (w : World) :
    (Instr.field 31 (.agg #[.int .i64 a, .int .i64 b, .int .i64 c, .int .i64 d]) 0).run Try.prog w = .ok (.int .i64 a) w ∧ (Instr.field 31 (.agg #[.int .i64 a, .int .i64 b, .int .i64 c, .int .i64 d]) 1).run Try.prog w = .ok (.int .i64 b) w := ⟨by kernel_rfl, by kernel_rfl⟩

/-- Whether a zone holds data. -/
def isData (z s b q d h zone : Int) : Bool := decide (Lay.chk z s b q d h = 0 ∧ 2 * Lay.slot s b ≤ zone ∧ zone < z)

set_option maxRecDepth 100000 in
set_option maxHeartbeats 400000 in
theorem isdata_any (z s b q d h zone : Int) (w : World) :
    Calls Try.prog 23 #[cfgV z s b q d h, .int .i64 zone] w fun e w' => e = .returned (.bool (isData z s b q d h zone)) ∧ Below w.heap.size w w' := by
  by_cases hc : Lay.chk z s b q d h = 0
  · have hv : layV z s b q d h = .agg #[.int .i64 (Lay.slot s b), .int .i64 (2 * Lay.slot s b), .int .i64 (Lay.data z s b), .int .i64 (Lay.cap z s b q)] := by unfold layV; rw [if_pos hc]
    have hd : isData z s b q d h zone = decide (2 * Lay.slot s b ≤ zone ∧ zone < z) := by unfold isData; simp [hc]
    have HV := Lib.hid hv
    have HC := Lib.hid hc
    have HD := Lib.hid hd
    clear hc hv hd
    go_enter Try.func23, Try.ntmps23
    go_wp2_with fail
    refine (of_any z s b q d h _).mono ?_; rintro e w1 ⟨rfl, hb1⟩
    rw [HV.out, HC.out]
    obtain ⟨hc1, hf1⟩ := bcell hb1
    have hs1 := hb1.size
    simp at hs1
    have hz1 : w.heap.size < w1.heap.size := by omega
    replace hb1 := bt (a := w) (by repeat (first | assumption | exact Below.refl _ _ | refine Below.drew ?_ | refine Below.alloc ?_ (by first | omega | (simp; done) | (simp; omega)) _ | refine Below.setCell ?_ (by first | omega | (simp; done) | (simp; omega)) _)) hb1
    by_cases k1 : 2 * Lay.slot s b ≤ zone
    · by_cases k2 : zone < z
      · go_wp2
        go_ret
        exact ⟨ret_bool (by rw [HD.out]; first | (simp; done) | (simp; omega)), (by repeat (first | assumption | exact Below.refl _ _ | refine Below.drew ?_ | refine Below.alloc ?_ (by first | omega | (simp; done) | (simp; omega)) _ | refine Below.setCell ?_ (by first | omega | (simp; done) | (simp; omega)) _))⟩
      · go_wp2
        go_ret
        exact ⟨ret_bool (by rw [HD.out]; first | (simp; done) | (simp; omega)), (by repeat (first | assumption | exact Below.refl _ _ | refine Below.drew ?_ | refine Below.alloc ?_ (by first | omega | (simp; done) | (simp; omega)) _ | refine Below.setCell ?_ (by first | omega | (simp; done) | (simp; omega)) _))⟩
    · go_wp2
      go_ret
      exact ⟨ret_bool (by rw [HD.out]; first | (simp; done) | (simp; omega)), (by repeat (first | assumption | exact Below.refl _ _ | refine Below.drew ?_ | refine Below.alloc ?_ (by first | omega | (simp; done) | (simp; omega)) _ | refine Below.setCell ?_ (by first | omega | (simp; done) | (simp; omega)) _))⟩
  · have hne : (Lay.chk z s b q d h == 0) = false := by rw [beq_eq_false_iff_ne]; exact hc
    have hv : layV z s b q d h = .agg #[.int .i64 0, .int .i64 0, .int .i64 0, .int .i64 0] := by unfold layV; rw [if_neg hc]
    have hd : isData z s b q d h zone = false := by unfold isData; simp [hc]
    have HV := Lib.hid hv
    have HD := Lib.hid hd
    clear hc hv hd
    go_enter Try.func23, Try.ntmps23
    go_wp2_with fail
    refine (of_any z s b q d h _).mono ?_; rintro e w1 ⟨rfl, hb1⟩
    rw [HV.out]
    obtain ⟨hc1, hf1⟩ := bcell hb1
    have hs1 := hb1.size
    simp at hs1
    have hz1 : w.heap.size < w1.heap.size := by omega
    replace hb1 := bt (a := w) (by repeat (first | assumption | exact Below.refl _ _ | refine Below.drew ?_ | refine Below.alloc ?_ (by first | omega | (simp; done) | (simp; omega)) _ | refine Below.setCell ?_ (by first | omega | (simp; done) | (simp; omega)) _)) hb1
    go_wp2
    go_ret
    exact ⟨ret_bool (by rw [HD.out]), (by repeat (first | assumption | exact Below.refl _ _ | refine Below.drew ?_ | refine Below.alloc ?_ (by first | omega | (simp; done) | (simp; omega)) _ | refine Below.setCell ?_ (by first | omega | (simp; done) | (simp; omega)) _))⟩

set_option maxRecDepth 100000 in
set_option maxHeartbeats 400000 in
theorem refisdata_any (z s b q d h zone : Int) (w : World) :
    Calls Try.prog 24 #[cfgV z s b q d h, .int .i64 zone] w fun e w' => e = .returned (.bool (isData z s b q d h zone)) ∧ Below w.heap.size w w' := by
  by_cases hc : Lay.chk z s b q d h = 0
  · have hd : isData z s b q d h zone = decide (2 * Lay.slot s b ≤ zone ∧ zone < z) := by unfold isData; simp [hc]
    have HC := Lib.hid hc
    have HD := Lib.hid hd
    have HK := Lib.hid (okR_of_chk hc)
    clear hc hd
    have hfl := fun a b c d w => (lay_field a b c d w).2
    go_enter Try.func24, Try.ntmps24
    go_wp2_with fail
    refine (refcheck_any z s b q d h _).mono ?_; rintro e w1 ⟨rfl, hb1⟩
    obtain ⟨hc1, hf1⟩ := bcell hb1
    have hs1 := hb1.size
    try simp at hs1
    have hz1w0 : w.heap.size < w1.heap.size := by omega
    replace hb1 := bt (a := w) (by repeat (first | assumption | exact Below.refl _ _ | refine Below.drew ?_ | refine Below.alloc ?_ (by first | omega | (simp; done) | (simp; omega)) _ | refine Below.setCell ?_ (by first | omega | (simp; done) | (simp; omega)) _)) hb1
    rw [HC.out]
    go_wp2_with fail
    refine (refof_any z s b q d h _ HK.out).mono ?_; rintro e w2 ⟨rfl, hb2⟩
    obtain ⟨hc2, hf2⟩ := bcell hb2
    have hs2 := hb2.size
    try simp at hs2
    have hz2w0 : w.heap.size < w2.heap.size := by omega
    replace hb2 := bt (a := w) (by repeat (first | assumption | exact Below.refl _ _ | refine Below.drew ?_ | refine Below.alloc ?_ (by first | omega | (simp; done) | (simp; omega)) _ | refine Below.setCell ?_ (by first | omega | (simp; done) | (simp; omega)) _)) hb2
    by_cases k1 : 2 * Lay.slot s b ≤ zone
    · by_cases k2 : zone < z
      · go_wp2
        go_ret
        exact ⟨ret_bool (by rw [HD.out]; first | (simp; done) | (simp; omega)), (by repeat (first | assumption | exact Below.refl _ _ | refine Below.drew ?_ | refine Below.alloc ?_ (by first | omega | (simp; done) | (simp; omega)) _ | refine Below.setCell ?_ (by first | omega | (simp; done) | (simp; omega)) _))⟩
      · go_wp2
        go_ret
        exact ⟨ret_bool (by rw [HD.out]; first | (simp; done) | (simp; omega)), (by repeat (first | assumption | exact Below.refl _ _ | refine Below.drew ?_ | refine Below.alloc ?_ (by first | omega | (simp; done) | (simp; omega)) _ | refine Below.setCell ?_ (by first | omega | (simp; done) | (simp; omega)) _))⟩
    · go_wp2
      go_ret
      exact ⟨ret_bool (by rw [HD.out]; first | (simp; done) | (simp; omega)), (by repeat (first | assumption | exact Below.refl _ _ | refine Below.drew ?_ | refine Below.alloc ?_ (by first | omega | (simp; done) | (simp; omega)) _ | refine Below.setCell ?_ (by first | omega | (simp; done) | (simp; omega)) _))⟩
  · have hne : (Lay.chk z s b q d h == 0) = false := by rw [beq_eq_false_iff_ne]; exact hc
    have hd : isData z s b q d h zone = false := by unfold isData; simp [hc]
    have HD := Lib.hid hd
    clear hc hd
    go_enter Try.func24, Try.ntmps24
    go_wp2_with fail
    refine (refcheck_any z s b q d h _).mono ?_; rintro e w1 ⟨rfl, hb1⟩
    obtain ⟨hc1, hf1⟩ := bcell hb1
    have hs1 := hb1.size
    try simp at hs1
    have hz1w0 : w.heap.size < w1.heap.size := by omega
    replace hb1 := bt (a := w) (by repeat (first | assumption | exact Below.refl _ _ | refine Below.drew ?_ | refine Below.alloc ?_ (by first | omega | (simp; done) | (simp; omega)) _ | refine Below.setCell ?_ (by first | omega | (simp; done) | (simp; omega)) _)) hb1
    go_wp2
    go_ret
    exact ⟨ret_bool (by rw [HD.out]), (by repeat (first | assumption | exact Below.refl _ _ | refine Below.drew ?_ | refine Below.alloc ?_ (by first | omega | (simp; done) | (simp; omega)) _ | refine Below.setCell ?_ (by first | omega | (simp; done) | (simp; omega)) _))⟩
end Go.Proofs.Ytopdpfbkdgncaaa
