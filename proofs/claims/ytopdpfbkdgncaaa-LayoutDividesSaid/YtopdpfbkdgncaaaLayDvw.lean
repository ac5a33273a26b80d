/- The law LayoutDivides: what its call does. -/
import Derived.Test.YtopdpfbkdgncaaaLayDiv
namespace Go.Proofs.Ytopdpfbkdgncaaa
set_option linter.unusedVariables false
set_option linter.unusedSimpArgs false
open Go.ChangeShapes Go.WideShapes Go.RowKit Go.Deep Go.Joins

set_option maxRecDepth 100000 in
set_option maxHeartbeats 1000000 in
theorem divides_any (A : Option Addr) (c : Nat) (xs : List Int) (w : World) (hl : xs.length ≤ 300) (hr : Reads w w.heap.size 1 A xs.length (ints xs)) (hx : ∀ x ∈ xs, -9223372036854775808 ≤ x ∧ x ≤ 9223372036854775807) :
    Calls Try.prog 6 #[.slice A xs.length c] w (True1 w) := by
  have HX := Lib.hid hx
  clear hx
  have hd3 : decide (xs.length ≤ 300) = true := decide_eq_true hl
  go_enter Try.func6, Try.ntmps6
  go_wp2_with fail
  refine (light_any A xs.length c w (by omega)).mono ?_; rintro e w' ⟨rfl, rfl⟩
  rw [hd3]
  go_wp2_with fail
  refine (roll_any A c xs w (by omega) hr HX.out).mono ?_; rintro e w1 ⟨g, rfl, hg, hd1, hb1⟩
  go_wp2_with fail
  refine (small_any g xs w1 hd1).mono ?_; rintro e w2 ⟨rfl, hd2, hg2⟩
  have hb2 : Below w.heap.size w w2 := hb1.grown hg2 hb1.size (by intro k hk; simp at hk; omega)
  have hs2 := hb2.size
  obtain ⟨s1, b1, q1, d1, h1, l1, l2, x, hx0, hx2, hz⟩ := small_facts xs
  have hok := small_ok xs
  have hv : layV (smZ xs) (smS xs) (smB xs) (smQ xs) (smD xs) (smH xs) = .agg #[.int .i64 (Lay.slot (smS xs) (smB xs)), .int .i64 (2 * Lay.slot (smS xs) (smB xs)), .int .i64 (Lay.data (smZ xs) (smS xs) (smB xs)), .int .i64 (Lay.cap (smZ xs) (smS xs) (smB xs) (smQ xs))] := by unfold layV; rw [if_pos hok]
  have hdat : Lay.data (smZ xs) (smS xs) (smB xs) = smZ xs - 2 * Lay.slot (smS xs) (smB xs) := rfl
  have hcap : Lay.cap (smZ xs) (smS xs) (smB xs) (smQ xs) = (Lay.data (smZ xs) (smS xs) (smB xs) - 3) * (smS xs - 1) - smQ xs - 1 := rfl
  have hisd : ∀ i : Int, isData (smZ xs) (smS xs) (smB xs) (smQ xs) (smD xs) (smH xs) i = decide (2 * Lay.slot (smS xs) (smB xs) ≤ i ∧ i < smZ xs) := by intro i; unfold isData; simp [hok]
  obtain ⟨N, hN⟩ := Int.eq_ofNat_of_zero_le (show 0 ≤ Lay.slot (smS xs) (smB xs) by omega)
  have hpr := Lay.prod_bd (x := smZ xs - 2 * (N : Int) - 3) (y := smS xs - 1) (by omega) (by omega) (by omega) (by omega)
  have hpr2 : 0 ≤ (N : Int) * smS xs ∧ (N : Int) * smS xs ≤ 24 := by
    rw [hN] at l1 l2
    have : (N : Int) * smS xs ≤ 4 * 6 := Int.mul_le_mul (by omega) (by omega) (by omega) (by omega)
    exact ⟨by omega, by omega⟩
  have hsm := fun sl W (hh : sl = 0 ∨ sl = 1) => slots_small (smZ xs) (smS xs) (smB xs) (smQ xs) (smD xs) (smH xs) sl N W hok hh hN
  rw [hN] at hv hdat l1 l2 hz
  simp only [hN] at hisd
  rw [hdat] at hcap hv
  rw [hcap] at hv
  have hzb : 2 * (N : Int) + 6 ≤ smZ xs ∧ smZ xs ≤ 2 * (N : Int) + 8 := by omega
  clear hz hx0 hx2
  have HV := Lib.hid hv
  have HOK := Lib.hid hok
  have HIS := Lib.hid hisd
  have HSM := Lib.hid hsm
  clear hv hok hdat hcap hisd hN hsm hd1 hd2 hb1 hg2 hg hr
  generalize smZ xs = z at *
  generalize smS xs = s at *
  generalize smB xs = b at *
  generalize smQ xs = q at *
  generalize smD xs = d at *
  generalize smH xs = h at *
  go_wp2_with fail
  refine (of_any z s b q d h _).mono ?_; rintro e w3 ⟨rfl, hb3⟩
  obtain ⟨hc3, hf3⟩ := bcell hb3
  have hs3 := hb3.size
  try simp at hs3
  have hz3w20 : w2.heap.size < w3.heap.size := by omega
  replace hb3 := bt (a := w) (by repeat (first | assumption | exact Below.refl _ _ | refine Below.drew ?_ | refine Below.alloc ?_ (by first | omega | (simp; done) | (simp; omega)) _ | refine Below.setCell ?_ (by first | omega | (simp; done) | (simp; omega)) _)) hb3
  rw [HV.out, HOK.out]
  go_wp2_with fail
  obtain ⟨w4, hw4⟩ : ∃ w4, w4 = (w3.alloc (Obj.cells #[.int .i64 (N : Int), .int .i64 (2 * (N : Int)), .int .i64 (z - 2 * (N : Int)), .int .i64 ((z - 2 * (N : Int) - 3) * (s - 1) - q - 1)] 31)) := ⟨_, rfl⟩
  have hb4 : Below w.heap.size w w4 := by rw [hw4]; exact (by repeat (first | assumption | exact Below.refl _ _ | refine Below.drew ?_ | refine Below.alloc ?_ (by first | omega | (simp; done) | (simp; omega)) _ | refine Below.setCell ?_ (by first | omega | (simp; done) | (simp; omega)) _))
  have hsz : w4.heap.size = w3.heap.size + 1 := by rw [hw4]; simp
  have y0 : w2.heap.size < w4.heap.size := by omega
  have y1 : w3.heap.size < w4.heap.size := by omega
  have b0 : w4.cell? ⟨w2.heap.size, 0, none⟩ = some (.int .i64 z) := by rw [hw4]; go_simp
  have b1' : w4.cell? ⟨w2.heap.size, 1, none⟩ = some (.int .i64 s) := by rw [hw4]; go_simp
  have b2 : w4.cell? ⟨w2.heap.size, 2, none⟩ = some (.int .i64 b) := by rw [hw4]; go_simp
  have b3 : w4.cell? ⟨w2.heap.size, 3, none⟩ = some (.int .i64 q) := by rw [hw4]; go_simp
  have b4 : w4.cell? ⟨w2.heap.size, 4, none⟩ = some (.int .i64 d) := by rw [hw4]; go_simp
  have b5 : w4.cell? ⟨w2.heap.size, 5, none⟩ = some (.int .i64 h) := by rw [hw4]; go_simp
  have c0 : w4.cell? ⟨w3.heap.size, 0, none⟩ = some (.int .i64 (N : Int)) := by rw [hw4]; go_simp
  have c1 : w4.cell? ⟨w3.heap.size, 1, none⟩ = some (.int .i64 (2 * (N : Int))) := by rw [hw4]; go_simp
  have c2 : w4.cell? ⟨w3.heap.size, 2, none⟩ = some (.int .i64 (z - 2 * (N : Int))) := by rw [hw4]; go_simp
  have c3 : w4.cell? ⟨w3.heap.size, 3, none⟩ = some (.int .i64 ((z - 2 * (N : Int) - 3) * (s - 1) - q - 1)) := by rw [hw4]; go_simp
  rw [← hw4]
  clear hw4 hsz hc3 hf3 hs3 hz3w20 hb3 hb2 hs2
  go_region_held3 (fun w' => (∀ b o, b < w4.heap.size → w'.cell? ⟨b, o, none⟩ = w4.cell? ⟨b, o, none⟩) ∧ Below w4.heap.size w4 w')
    (first | assumption | exact held_start _ | (refine held_next ?_ (by assumption); assumption))
    (first
      | (go_at_call 21; (with_reducible refine (HSM.out 0 _ (Or.inl rfl)).mono ?_); rintro e w5 ⟨A1, cp1, rfl, hr1, hbq⟩)
      | (go_at_call 21; (with_reducible refine (HSM.out 1 _ (Or.inr rfl)).mono ?_); rintro e w6 ⟨A2, cp2, rfl, hr2, hbq⟩; have hr3 := (hr1.below hbq).more hbq.size))
  have hH6 : Held w4 w6 := by assumption
  clear hr1
  have hb6 : Below w.heap.size w w6 := bt hb4 hH6.2
  have z6 : w4.heap.size ≤ w6.heap.size := hH6.2.size
  have hc6 := hH6.1
  have hne : ((z - 2 * (N : Int) - 3) * (s - 1) - q - 1 + q + 1 != (z - 2 * (N : Int) - 3) * (s - 1)) = false := by rw [bne_eq_false_iff_eq]; omega
  have y6 : w2.heap.size < w6.heap.size := by omega
  have y7 : w3.heap.size < w6.heap.size := by omega
  go_wp2_with fail
  obtain ⟨Z, hZ⟩ := Int.eq_ofNat_of_zero_le (show 0 ≤ z by omega)
  have HZ := Lib.hid hZ
  clear hZ
  go_loopw [8] (fun i wr => ∃ k : Nat, (k : Int) ≤ z ∧ i = .int .i64 k ∧ Below w6.heap.size w6 wr) (fun i _ => Z - (intOf i).toNat)
  case atStart => exact ⟨0, by omega, rfl, Below.refl _ _⟩
  case round =>
    obtain ⟨i, hi, rfl, hB⟩ := hrel
    have hBs := hB.size
    obtain ⟨hcr, hfr⟩ := bcell hB
    by_cases hlt : (i : Int) < z
    · go_wp2_with fail
      go_loopw [9, 10] (fun n kk wq => ∃ k : Nat, k ≤ N ∧ kk = .int .i64 k ∧ n = .int .i64 (cnt N i k) ∧ wq = wr) (fun _ kk _ => N - (intOf kk).toNat)
      case atStart => exact ⟨0, by omega, rfl, val_i64 (cnt_zero _ _ (by omega)).symm, rfl⟩
      case round =>
        obtain ⟨k, hk, rfl, rfl, rfl⟩ := hrel
        by_cases hk2 : k < N
        · have hcs := cnt_succ N i k (by omega) (by omega)
          have hcb := cnt_bd N i k
          have HCS := Lib.hid hcs
          clear hcs
          obtain ⟨ad, rfl, had, hca⟩ := Reads.int_at (xs := slotsOf (N : Int) 0 N) (k := k) (by rw [slotsOf_len]; exact hr3) (by rw [slotsOf_len]; exact hk2)
          obtain ⟨bd, rfl, hbd, hcb2⟩ := Reads.int_at (xs := slotsOf (N : Int) 1 N) (k := k) (by rw [slotsOf_len]; exact hr2) (by rw [slotsOf_len]; exact hk2)
          rw [slotsOf_get] at hca hcb2
          have ka : wr.cell? (ad.add k) = some (.int .i64 (k : Int)) := by rw [hB.cell (by rw [block_of_add]; exact had), hca]; simp
          have kb : wr.cell? (bd.add k) = some (.int .i64 ((N : Int) + (k : Int))) := by rw [hB.cell (by rw [block_of_add]; exact hbd), hcb2]; simp
          clear hca hcb2
          by_cases m1 : (k : Int) = i
          · have m1' : ((k : Int) == (i : Int)) = true := by rw [beq_iff_eq]; exact m1
            have M1 := Lib.hid m1
            clear m1
            go_wp2
            go_roundw
            case rel => exact ⟨k + 1, by omega, by go_num, val_i64 (by rw [HCS.out, if_pos (Or.inl M1.out)]), by trivial⟩
            case measure => simp [intOf]; omega
          · have m1' : ((k : Int) == (i : Int)) = false := by rw [beq_eq_false_iff_ne]; exact m1
            by_cases m2 : (N : Int) + (k : Int) = i
            · have m2' : ((N : Int) + (k : Int) == (i : Int)) = true := by rw [beq_iff_eq]; exact m2
              have M2 := Lib.hid m2
              clear m2
              go_wp2
              go_roundw
              case rel => exact ⟨k + 1, by omega, by go_num, val_i64 (by rw [HCS.out, if_pos (Or.inr M2.out)]), by trivial⟩
              case measure => simp [intOf]; omega
            · have m2' : ((N : Int) + (k : Int) == (i : Int)) = false := by rw [beq_eq_false_iff_ne]; exact m2
              have M1 := Lib.hid m1
              have M2 := Lib.hid m2
              clear m1 m2
              go_wp2
              go_roundw
              case rel => exact ⟨k + 1, by omega, by go_num, val_i64 (by rw [HCS.out, if_neg (fun e => e.elim M1.out M2.out)]; omega), by trivial⟩
              case measure => simp [intOf]; omega
        · obtain rfl : k = N := by omega
          have hce := cnt_end k i k rfl (by omega)
          by_cases h2 : (i : Int) < 2 * (k : Int)
          · rw [if_pos h2] at hce
            rw [hce]
            have hisf : isData z s b q d h i = false := by rw [HIS.out]; exact decide_eq_false (by omega)
            clear hce
            go_wp2_with fail
            refine (isdata_any z s b q d h i wr).mono ?_; rintro e w7 ⟨rfl, hb7⟩
            rw [hisf]
            go_wp2
            go_roundw
            case rel => exact ⟨i + 1, by omega, by go_num, bt hB hb7⟩
            case measure => have := HZ.out; simp [intOf]; omega
          · rw [if_neg h2] at hce
            rw [hce]
            have hisf : isData z s b q d h i = true := by rw [HIS.out]; exact decide_eq_true (by omega)
            clear hce
            go_wp2_with fail
            refine (isdata_any z s b q d h i wr).mono ?_; rintro e w7 ⟨rfl, hb7⟩
            rw [hisf]
            go_wp2
            go_roundw
            case rel => exact ⟨i + 1, by omega, by go_num, bt hB hb7⟩
            case measure => have := HZ.out; simp [intOf]; omega
    · go_wp2_with fail
      refine (layawake_any wr).mono ?_; rintro e w7 ⟨rfl, hb7⟩
      go_wp2
      go_ret
      exact ⟨rfl, bt (bt hb6 hB) hb7⟩

theorem layoutDivides.walk {H : Type} {enc : TypeId × Value → H} {W0 : World} {base : Nat} (v : Value) (d : DataW H) (p : List MemPlace) (hv : Value.okWide Try.prog W0 .any base 22 v)
    (h : DataW.Trod enc Try.prog W0 0 (fun _ => true) true 22 v d p) (hw : ∀ n ∈ d.weights Try.prog 22, n ≤ 140737488351232) (_W : World) : Calls Try.prog 6 #[v] W0 (True1 W0) := by
  obtain ⟨A, c, xs, rfl, _, hlen, hr, hx⟩ := open_isl Try.underlying22 Try.underlying3 (by kernel_rfl) hv h (by decide +kernel) hw
  have hlen' : xs.length ≤ 140737488351232 := by
    have : Try.prog.bytesOf 3 = 8 := by kernel_rfl
    rw [this] at hlen; omega
  by_cases hl : xs.length ≤ 300
  · exact divides_any A c xs W0 hl hr (fun x hx' => bd_i64 (hx x hx'))
  · have hd3 : decide (xs.length ≤ 300) = false := decide_eq_false hl
    clear hv h
    go_enter Try.func6, Try.ntmps6
    go_wp2_with fail
    refine (light_any A xs.length c W0 hlen').mono ?_; rintro e w' ⟨rfl, rfl⟩
    rw [hd3]
    go_wp2_with fail
    refine (layawake_any W0).mono ?_; rintro e w7 ⟨rfl, hb7⟩
    go_wp2
    go_ret
    exact ⟨rfl, hb7⟩
end Go.Proofs.Ytopdpfbkdgncaaa
