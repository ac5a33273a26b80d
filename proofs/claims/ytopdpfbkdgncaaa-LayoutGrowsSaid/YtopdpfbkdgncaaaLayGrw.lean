/- The law LayoutGrows: what its call does. -/
import Derived.Test.YtopdpfbkdgncaaaLayDiv
namespace Go.Proofs.Ytopdpfbkdgncaaa
set_option linter.unusedVariables false
set_option linter.unusedSimpArgs false
open Go.ChangeShapes Go.WideShapes Go.RowKit Go.Deep Go.Joins

/-- A small configuration with more zones and queues is possible. -/
theorem grown_ok {z s b q d h S zz qq : Int} (s1 : 3 ≤ s ∧ s ≤ 6) (b1 : 1 ≤ b ∧ b ≤ 6) (q1 : 1 ≤ q ∧ q ≤ 3) (d1 : 1 ≤ d ∧ d ≤ 3) (h1 : 1 ≤ h ∧ h ≤ 3) (hS : Lay.slot s b = S) (l1 : 1 ≤ S ∧ S ≤ 4)
    (hx : 2 * S + 6 ≤ z) (hz : z ≤ zz ∧ zz ≤ 32) (hq : q ≤ qq ∧ qq ≤ 4) : Lay.chk zz s b qq d h = 0 := by
  have hok : Lay.okR zz s b qq d h = true := Lay.okR_iff.2 (by omega)
  rw [Lay.chk_ok hok, if_neg]
  have hd : 6 ≤ Lay.data zz s b := by unfold Lay.data; omega
  have hc : Lay.cap zz s b qq = (Lay.data zz s b - 3) * (s - 1) - qq - 1 := rfl
  have h2 : (Lay.data zz s b - 3) * 2 ≤ (Lay.data zz s b - 3) * (s - 1) := Int.mul_le_mul_of_nonneg_left (by omega) (by omega)
  omega

theorem diff_mul (z zz S t : Int) : (zz - 2 * S - 3) * t = (zz - z) * t + (z - 2 * S - 3) * t := by
  rw [← Int.add_mul]; congr 1; omega

set_option maxRecDepth 100000 in
set_option maxHeartbeats 1000000 in
theorem grows_any (A : Option Addr) (c : Nat) (xs : List Int) (u v : Nat) (w : World) (hl : xs.length ≤ 300) (hr : Reads w w.heap.size 1 A xs.length (ints xs)) (hx : ∀ x ∈ xs, -9223372036854775808 ≤ x ∧ x ≤ 9223372036854775807)
    (hu : u < 256) (hv' : v < 256) :
    Calls Try.prog 3 #[.slice A xs.length c, .int .u8 (u : Int), .int .u8 (v : Int)] w (True1 w) := by
  have HX := Lib.hid hx
  clear hx
  have hd3 : decide (xs.length ≤ 300) = true := decide_eq_true hl
  go_enter Try.func3, Try.ntmps3
  go_wp2_with fail
  refine (light_any A xs.length c w (by omega)).mono ?_; rintro e w' ⟨rfl, rfl⟩
  rw [hd3]
  go_wp2_with fail
  refine (roll_any A c xs w (by omega) hr HX.out).mono ?_; rintro e w1 ⟨g, rfl, hg, hd1, hb1⟩
  go_wp2_with fail
  refine (small_any g xs w1 hd1).mono ?_; rintro e w2 ⟨rfl, hd2, hg2⟩
  have hb2 : Below w.heap.size w w2 := hb1.grown hg2 hb1.size (by intro k hk; simp at hk; omega)
  have hs2 := hb2.size
  obtain ⟨s1, b1, q1, d1, h1, l1, l2, x, hx0, hx2, hz⟩ := small_facts xs
  have hzb : 2 * Lay.slot (smS xs) (smB xs) + 6 ≤ smZ xs ∧ smZ xs ≤ 2 * Lay.slot (smS xs) (smB xs) + 8 := by omega
  have hok := small_ok xs
  clear hz hx0 hx2 hd1 hd2 hb1 hg2 hg hr l2
  generalize smZ xs = z at *
  generalize smS xs = s at *
  generalize smB xs = b at *
  generalize smQ xs = q at *
  generalize smD xs = d at *
  generalize smH xs = hh at *
  have hv : ∀ z q : Int, Lay.chk z s b q d hh = 0 → layV z s b q d hh = .agg #[.int .i64 (Lay.slot s b), .int .i64 (2 * Lay.slot s b), .int .i64 (Lay.data z s b), .int .i64 (Lay.cap z s b q)] := by intro z q hq0; unfold layV; rw [if_pos hq0]
  have hdat : ∀ z : Int, Lay.data z s b = z - 2 * Lay.slot s b := fun _ => rfl
  have hcap : ∀ z q : Int, Lay.cap z s b q = (z - 2 * Lay.slot s b - 3) * (s - 1) - q - 1 := fun _ _ => rfl
  have hgr : ∀ zz qq : Int, z ≤ zz ∧ zz ≤ 32 → q ≤ qq ∧ qq ≤ 4 → Lay.chk zz s b qq d hh = 0 := fun zz qq a1 a2 => grown_ok s1 b1 q1 d1 h1 rfl l1 hzb.1 a1 a2
  generalize hS : Lay.slot s b = S at *
  have HV := Lib.hid hv
  have HD := Lib.hid hdat
  have HC := Lib.hid hcap
  have HG := Lib.hid hgr
  have HOK := Lib.hid hok
  clear hS hv hdat hcap hgr hok
  go_wp2_with fail
  · have hzz : z ≤ ((z + (u : Int) % 20) : Int) ∧ ((z + (u : Int) % 20) : Int) ≤ 32 := by omega
    have hqq : q ≤ ((q + (v : Int) % 3) : Int) ∧ ((q + (v : Int) % 3) : Int) ≤ 4 := by omega
    have HG2 := Lib.hid (HG.out (z + (u : Int) % 20) (q + (v : Int) % 3) hzz hqq)
    have hp1 := Lay.prod_bd (x := z - 2 * S - 3) (y := s - 1) (by omega) (by omega) (by omega) (by omega)
    have hp2 := Lay.prod_bd (x := (z + (u : Int) % 20) - 2 * S - 3) (y := s - 1) (by omega) (by omega) (by omega) (by omega)
    have hp3 := Lay.prod_bd (x := (z + (u : Int) % 20) - z) (y := s - 1) (by omega) (by omega) (by omega) (by omega)
    have t1 : (((z + (u : Int) % 20) : Int) - 2 * S - (z - 2 * S) == (z + (u : Int) % 20) - z) = true := by rw [beq_iff_eq]; omega
    have t2 : ((((z + (u : Int) % 20) : Int) - 2 * S - 3) * (s - 1) - (q + (v : Int) % 3) - 1 - ((z - 2 * S - 3) * (s - 1) - q - 1) == ((z + (u : Int) % 20) - z) * (s - 1) - ((q + (v : Int) % 3) - q)) = true := by
      rw [beq_iff_eq, diff_mul z (z + (u : Int) % 20) S (s - 1)]; omega
    have T1 := Lib.hid t1
    have T2 := Lib.hid t2
    clear t1 t2
    go_wp2_with fail
    refine (of_any z s b q d hh _).mono ?_; rintro e w3 ⟨rfl, hb3⟩
    obtain ⟨hc3, hf3⟩ := bcell hb3
    have hs3 := hb3.size
    try simp at hs3
    have hz3w20 : w2.heap.size < w3.heap.size := by omega
    have hz3w21 : w2.heap.size + 1 < w3.heap.size := by omega
    replace hb3 := bt (a := w) (by repeat (first | assumption | exact Below.refl _ _ | refine Below.drew ?_ | refine Below.alloc ?_ (by first | omega | (simp; done) | (simp; omega)) _ | refine Below.setCell ?_ (by first | omega | (simp; done) | (simp; omega)) _)) hb3
    rw [HV.out _ _ HOK.out, HOK.out, HD.out, HC.out]
    go_wp2_with fail
    refine (of_any (z + (u : Int) % 20) s b (q + (v : Int) % 3) d hh _).mono ?_; rintro e w4 ⟨rfl, hb4⟩
    obtain ⟨hc4, hf4⟩ := bcell hb4
    have hs4 := hb4.size
    try simp at hs4
    have hz4w20 : w2.heap.size < w4.heap.size := by omega
    have hz4w21 : w2.heap.size + 1 < w4.heap.size := by omega
    have hz4w30 : w3.heap.size < w4.heap.size := by omega
    replace hb4 := bt (a := w) (by repeat (first | assumption | exact Below.refl _ _ | refine Below.drew ?_ | refine Below.alloc ?_ (by first | omega | (simp; done) | (simp; omega)) _ | refine Below.setCell ?_ (by first | omega | (simp; done) | (simp; omega)) _)) hb4
    rw [HV.out _ _ HG2.out, HG2.out, HD.out, HC.out]
    have t1 := T1.out
    have t2 := T2.out
    go_wp2_with fail
    refine (layawake_any _).mono ?_; rintro e w5 ⟨rfl, hb5⟩
    have hs5 := hb5.size
    replace hb5 := bt (a := w) (by repeat (first | assumption | exact Below.refl _ _ | refine Below.drew ?_ | refine Below.alloc ?_ (by first | omega | (simp; done) | (simp; omega)) _ | refine Below.setCell ?_ (by first | omega | (simp; done) | (simp; omega)) _)) hb5
    go_wp2
    go_ret
    exact ⟨rfl, hb5⟩
  · have hzz : z ≤ ((z + (u : Int) % 20) : Int) ∧ ((z + (u : Int) % 20) : Int) ≤ 32 := by omega
    have hqq : q ≤ (4 : Int) ∧ (4 : Int) ≤ 4 := by omega
    have HG2 := Lib.hid (HG.out (z + (u : Int) % 20) 4 hzz hqq)
    have hp1 := Lay.prod_bd (x := z - 2 * S - 3) (y := s - 1) (by omega) (by omega) (by omega) (by omega)
    have hp2 := Lay.prod_bd (x := (z + (u : Int) % 20) - 2 * S - 3) (y := s - 1) (by omega) (by omega) (by omega) (by omega)
    have hp3 := Lay.prod_bd (x := (z + (u : Int) % 20) - z) (y := s - 1) (by omega) (by omega) (by omega) (by omega)
    have t1 : (((z + (u : Int) % 20) : Int) - 2 * S - (z - 2 * S) == (z + (u : Int) % 20) - z) = true := by rw [beq_iff_eq]; omega
    have t2 : ((((z + (u : Int) % 20) : Int) - 2 * S - 3) * (s - 1) - 4 - 1 - ((z - 2 * S - 3) * (s - 1) - q - 1) == ((z + (u : Int) % 20) - z) * (s - 1) - (4 - q)) = true := by
      rw [beq_iff_eq, diff_mul z (z + (u : Int) % 20) S (s - 1)]; omega
    have T1 := Lib.hid t1
    have T2 := Lib.hid t2
    clear t1 t2
    go_wp2_with fail
    refine (of_any z s b q d hh _).mono ?_; rintro e w3 ⟨rfl, hb3⟩
    obtain ⟨hc3, hf3⟩ := bcell hb3
    have hs3 := hb3.size
    try simp at hs3
    have hz3w20 : w2.heap.size < w3.heap.size := by omega
    have hz3w21 : w2.heap.size + 1 < w3.heap.size := by omega
    replace hb3 := bt (a := w) (by repeat (first | assumption | exact Below.refl _ _ | refine Below.drew ?_ | refine Below.alloc ?_ (by first | omega | (simp; done) | (simp; omega)) _ | refine Below.setCell ?_ (by first | omega | (simp; done) | (simp; omega)) _)) hb3
    rw [HV.out _ _ HOK.out, HOK.out, HD.out, HC.out]
    go_wp2_with fail
    refine (of_any (z + (u : Int) % 20) s b 4 d hh _).mono ?_; rintro e w4 ⟨rfl, hb4⟩
    obtain ⟨hc4, hf4⟩ := bcell hb4
    have hs4 := hb4.size
    try simp at hs4
    have hz4w20 : w2.heap.size < w4.heap.size := by omega
    have hz4w21 : w2.heap.size + 1 < w4.heap.size := by omega
    have hz4w30 : w3.heap.size < w4.heap.size := by omega
    replace hb4 := bt (a := w) (by repeat (first | assumption | exact Below.refl _ _ | refine Below.drew ?_ | refine Below.alloc ?_ (by first | omega | (simp; done) | (simp; omega)) _ | refine Below.setCell ?_ (by first | omega | (simp; done) | (simp; omega)) _)) hb4
    rw [HV.out _ _ HG2.out, HG2.out, HD.out, HC.out]
    have t1 := T1.out
    have t2 := T2.out
    go_wp2_with fail
    refine (layawake_any _).mono ?_; rintro e w5 ⟨rfl, hb5⟩
    have hs5 := hb5.size
    replace hb5 := bt (a := w) (by repeat (first | assumption | exact Below.refl _ _ | refine Below.drew ?_ | refine Below.alloc ?_ (by first | omega | (simp; done) | (simp; omega)) _ | refine Below.setCell ?_ (by first | omega | (simp; done) | (simp; omega)) _)) hb5
    go_wp2
    go_ret
    exact ⟨rfl, hb5⟩
  · have hzz : z ≤ (32 : Int) ∧ (32 : Int) ≤ 32 := by omega
    have hqq : q ≤ ((q + (v : Int) % 3) : Int) ∧ ((q + (v : Int) % 3) : Int) ≤ 4 := by omega
    have HG2 := Lib.hid (HG.out 32 (q + (v : Int) % 3) hzz hqq)
    have hp1 := Lay.prod_bd (x := z - 2 * S - 3) (y := s - 1) (by omega) (by omega) (by omega) (by omega)
    have hp2 := Lay.prod_bd (x := 32 - 2 * S - 3) (y := s - 1) (by omega) (by omega) (by omega) (by omega)
    have hp3 := Lay.prod_bd (x := 32 - z) (y := s - 1) (by omega) (by omega) (by omega) (by omega)
    have t1 : ((32 : Int) - 2 * S - (z - 2 * S) == 32 - z) = true := by rw [beq_iff_eq]; omega
    have t2 : (((32 : Int) - 2 * S - 3) * (s - 1) - (q + (v : Int) % 3) - 1 - ((z - 2 * S - 3) * (s - 1) - q - 1) == (32 - z) * (s - 1) - ((q + (v : Int) % 3) - q)) = true := by
      rw [beq_iff_eq, diff_mul z 32 S (s - 1)]; omega
    have T1 := Lib.hid t1
    have T2 := Lib.hid t2
    clear t1 t2
    go_wp2_with fail
    refine (of_any z s b q d hh _).mono ?_; rintro e w3 ⟨rfl, hb3⟩
    obtain ⟨hc3, hf3⟩ := bcell hb3
    have hs3 := hb3.size
    try simp at hs3
    have hz3w20 : w2.heap.size < w3.heap.size := by omega
    have hz3w21 : w2.heap.size + 1 < w3.heap.size := by omega
    replace hb3 := bt (a := w) (by repeat (first | assumption | exact Below.refl _ _ | refine Below.drew ?_ | refine Below.alloc ?_ (by first | omega | (simp; done) | (simp; omega)) _ | refine Below.setCell ?_ (by first | omega | (simp; done) | (simp; omega)) _)) hb3
    rw [HV.out _ _ HOK.out, HOK.out, HD.out, HC.out]
    go_wp2_with fail
    refine (of_any 32 s b (q + (v : Int) % 3) d hh _).mono ?_; rintro e w4 ⟨rfl, hb4⟩
    obtain ⟨hc4, hf4⟩ := bcell hb4
    have hs4 := hb4.size
    try simp at hs4
    have hz4w20 : w2.heap.size < w4.heap.size := by omega
    have hz4w21 : w2.heap.size + 1 < w4.heap.size := by omega
    have hz4w30 : w3.heap.size < w4.heap.size := by omega
    replace hb4 := bt (a := w) (by repeat (first | assumption | exact Below.refl _ _ | refine Below.drew ?_ | refine Below.alloc ?_ (by first | omega | (simp; done) | (simp; omega)) _ | refine Below.setCell ?_ (by first | omega | (simp; done) | (simp; omega)) _)) hb4
    rw [HV.out _ _ HG2.out, HG2.out, HD.out, HC.out]
    have t1 := T1.out
    have t2 := T2.out
    go_wp2_with fail
    refine (layawake_any _).mono ?_; rintro e w5 ⟨rfl, hb5⟩
    have hs5 := hb5.size
    replace hb5 := bt (a := w) (by repeat (first | assumption | exact Below.refl _ _ | refine Below.drew ?_ | refine Below.alloc ?_ (by first | omega | (simp; done) | (simp; omega)) _ | refine Below.setCell ?_ (by first | omega | (simp; done) | (simp; omega)) _)) hb5
    go_wp2
    go_ret
    exact ⟨rfl, hb5⟩
  · have hzz : z ≤ (32 : Int) ∧ (32 : Int) ≤ 32 := by omega
    have hqq : q ≤ (4 : Int) ∧ (4 : Int) ≤ 4 := by omega
    have HG2 := Lib.hid (HG.out 32 4 hzz hqq)
    have hp1 := Lay.prod_bd (x := z - 2 * S - 3) (y := s - 1) (by omega) (by omega) (by omega) (by omega)
    have hp2 := Lay.prod_bd (x := 32 - 2 * S - 3) (y := s - 1) (by omega) (by omega) (by omega) (by omega)
    have hp3 := Lay.prod_bd (x := 32 - z) (y := s - 1) (by omega) (by omega) (by omega) (by omega)
    have t1 : ((32 : Int) - 2 * S - (z - 2 * S) == 32 - z) = true := by rw [beq_iff_eq]; omega
    have t2 : (((32 : Int) - 2 * S - 3) * (s - 1) - 4 - 1 - ((z - 2 * S - 3) * (s - 1) - q - 1) == (32 - z) * (s - 1) - (4 - q)) = true := by
      rw [beq_iff_eq, diff_mul z 32 S (s - 1)]; omega
    have T1 := Lib.hid t1
    have T2 := Lib.hid t2
    clear t1 t2
    go_wp2_with fail
    refine (of_any z s b q d hh _).mono ?_; rintro e w3 ⟨rfl, hb3⟩
    obtain ⟨hc3, hf3⟩ := bcell hb3
    have hs3 := hb3.size
    try simp at hs3
    have hz3w20 : w2.heap.size < w3.heap.size := by omega
    have hz3w21 : w2.heap.size + 1 < w3.heap.size := by omega
    replace hb3 := bt (a := w) (by repeat (first | assumption | exact Below.refl _ _ | refine Below.drew ?_ | refine Below.alloc ?_ (by first | omega | (simp; done) | (simp; omega)) _ | refine Below.setCell ?_ (by first | omega | (simp; done) | (simp; omega)) _)) hb3
    rw [HV.out _ _ HOK.out, HOK.out, HD.out, HC.out]
    go_wp2_with fail
    refine (of_any 32 s b 4 d hh _).mono ?_; rintro e w4 ⟨rfl, hb4⟩
    obtain ⟨hc4, hf4⟩ := bcell hb4
    have hs4 := hb4.size
    try simp at hs4
    have hz4w20 : w2.heap.size < w4.heap.size := by omega
    have hz4w21 : w2.heap.size + 1 < w4.heap.size := by omega
    have hz4w30 : w3.heap.size < w4.heap.size := by omega
    replace hb4 := bt (a := w) (by repeat (first | assumption | exact Below.refl _ _ | refine Below.drew ?_ | refine Below.alloc ?_ (by first | omega | (simp; done) | (simp; omega)) _ | refine Below.setCell ?_ (by first | omega | (simp; done) | (simp; omega)) _)) hb4
    rw [HV.out _ _ HG2.out, HG2.out, HD.out, HC.out]
    have t1 := T1.out
    have t2 := T2.out
    go_wp2_with fail
    refine (layawake_any _).mono ?_; rintro e w5 ⟨rfl, hb5⟩
    have hs5 := hb5.size
    replace hb5 := bt (a := w) (by repeat (first | assumption | exact Below.refl _ _ | refine Below.drew ?_ | refine Below.alloc ?_ (by first | omega | (simp; done) | (simp; omega)) _ | refine Below.setCell ?_ (by first | omega | (simp; done) | (simp; omega)) _)) hb5
    go_wp2
    go_ret
    exact ⟨rfl, hb5⟩

theorem layoutGrows.walk {H : Type} {enc : TypeId × Value → H} {W0 : World} {base : Nat} (v : Value) (d : DataW H) (p : List MemPlace) (hv : Value.okWide Try.prog W0 .any base 22 v)
    (h : DataW.Trod enc Try.prog W0 0 (fun _ => true) true 22 v d p) (hw : ∀ n ∈ d.weights Try.prog 22, n ≤ 140737488351232)
    (a1 : Int) (w1 : (Lit.int .u8 a1).wf = true) (a2 : Int) (w2 : (Lit.int .u8 a2).wf = true) (_W : World) : Calls Try.prog 3 #[v, .int .u8 a1, .int .u8 a2] W0 (True1 W0) := by
  obtain ⟨A, c, xs, rfl, _, hlen, hr, hx⟩ := open_isl Try.underlying22 Try.underlying3 (by kernel_rfl) hv h (by decide +kernel) hw
  obtain ⟨k1, rfl, hk1⟩ := bd_u8 w1
  obtain ⟨k2, rfl, hk2⟩ := bd_u8 w2
  have hlen' : xs.length ≤ 140737488351232 := by
    have : Try.prog.bytesOf 3 = 8 := by kernel_rfl
    rw [this] at hlen; omega
  by_cases hl : xs.length ≤ 300
  · exact grows_any A c xs k1 k2 W0 hl hr (fun x hx' => bd_i64 (hx x hx')) hk1 hk2
  · have hd3 : decide (xs.length ≤ 300) = false := decide_eq_false hl
    clear hv h
    go_enter Try.func3, Try.ntmps3
    go_wp2_with fail
    refine (light_any A xs.length c W0 hlen').mono ?_; rintro e w' ⟨rfl, rfl⟩
    rw [hd3]
    go_wp2_with fail
    refine (layawake_any W0).mono ?_; rintro e w7 ⟨rfl, hb7⟩
    go_wp2
    go_ret
    exact ⟨rfl, hb7⟩
end Go.Proofs.Ytopdpfbkdgncaaa
