/- The law LayoutMade: what its call does. -/
import Derived.Test.YtopdpfbkdgncaaaLayLaw
import Derived.Test.YtopdpfbkdgncaaaMake
import Derived.Deep.CutRange
namespace Go.Proofs.Ytopdpfbkdgncaaa
set_option linter.unusedVariables false
set_option linter.unusedSimpArgs false
open Go.ChangeShapes Go.WideShapes Go.RowKit Go.Deep Go.Joins

set_option maxRecDepth 100000 in
set_option maxHeartbeats 1000000 in
theorem made_any (n0 n1 n2 n3 n4 n5 slot zone : Int) (w : World)
    (h0 : -9223372036854775808 ≤ n0 ∧ n0 ≤ 9223372036854775807) (h1 : -9223372036854775808 ≤ n1 ∧ n1 ≤ 9223372036854775807) (h2 : -9223372036854775808 ≤ n2 ∧ n2 ≤ 9223372036854775807)
    (h3 : -9223372036854775808 ≤ n3 ∧ n3 ≤ 9223372036854775807) (h4 : -9223372036854775808 ≤ n4 ∧ n4 ≤ 9223372036854775807) (h5 : -9223372036854775808 ≤ n5 ∧ n5 ≤ 9223372036854775807)
    (hs : -9223372036854775808 ≤ slot ∧ slot ≤ 9223372036854775807) (hz : -9223372036854775808 ≤ zone ∧ zone ≤ 9223372036854775807) :
    Calls Try.prog 5 #[cfgV n0 n1 n2 n3 n4 n5, .int .i64 slot, .int .i64 zone] w (True1 w) := by
  go_enter Try.func5, Try.ntmps5
  go_upto_region 1 with (fail)
  obtain ⟨u, hu⟩ : ∃ u, u = (w.alloc (Obj.cells #[.int .i64 n0, .int .i64 n1, .int .i64 n2, .int .i64 n3, .int .i64 n4, .int .i64 n5] 41)) := ⟨_, rfl⟩
  have hbu : Below w.heap.size w u := by rw [hu]; exact (by repeat (first | assumption | exact Below.refl _ _ | refine Below.drew ?_ | refine Below.alloc ?_ (by first | omega | (simp; done) | (simp; omega)) _ | refine Below.setCell ?_ (by first | omega | (simp; done) | (simp; omega)) _))
  have bu : Blk u w.heap.size 41 #[.int .i64 n0, .int .i64 n1, .int .i64 n2, .int .i64 n3, .int .i64 n4, .int .i64 n5] := by rw [hu]; exact Blk.new w _ _
  have k0 := bu.cell 0
  have k1 := bu.cell 1
  have k2 := bu.cell 2
  have k3 := bu.cell 3
  have k4 := bu.cell 4
  have k5 := bu.cell 5
  have hus : w.heap.size < u.heap.size := bu.lt
  simp at k0 k1 k2 k3 k4 k5
  rw [← hu]
  clear hu bu
  go_cut [7] from 14 to 32 (fun s7 wc => s7 = .pointer (some ⟨u.heap.size, 0, none⟩) ∧ Blk wc u.heap.size 26 #[.int .i64 (n0 % 35), .int .i64 (n1 % 67), .int .i64 (n2 % 131), .int .i64 (n3 % 6), .int .i64 (n4 % 10), .int .i64 (n5 % 10)] ∧ Below u.heap.size u wc)
  case first =>
    go_region_held3 (fun w' => (∀ b o, b < u.heap.size → w'.cell? ⟨b, o, none⟩ = u.cell? ⟨b, o, none⟩) ∧ Below u.heap.size u w')
      (first | assumption | exact held_start _ | exact held_next (held_start _) ((Below.refl _ _).alloc (Nat.le_refl _) _))
      (first | (go_at_call 25; refine (mod_any _ _ _ (by omega) (by omega)).mono ?_; rintro e w' ⟨rfl, rfl⟩))
    all_goals
      go_wp2_with fail
      go_meet
      exact ⟨rfl, Blk.new _ _ _, held_two (by assumption)⟩
  case rest =>
    obtain ⟨rfl, hB, hbc⟩ := hcut
    have hbc' : Below w.heap.size w wc := bt hbu hbc
    have hgl := hB.lt
    generalize u.heap.size = g at *
    clear hbc hbu k0 k1 k2 k3 k4 k5
    generalize n0 % 35 = z at *
    generalize n1 % 67 = s at *
    generalize n2 % 131 = b at *
    generalize n3 % 6 = q at *
    generalize n4 % 10 = d at *
    generalize n5 % 10 = h at *
    have k0 := hB.cell 0
    have k1 := hB.cell 1
    have k2 := hB.cell 2
    have k3 := hB.cell 3
    have k4 := hB.cell 4
    have k5 := hB.cell 5
    simp at k0 k1 k2 k3 k4 k5
    obtain ⟨v1, v2, v3, v4, hv⟩ := layV_cells z s b q d h
    have HV := Lib.hid hv
    have HB := Lib.hid hB
    clear hv hB
    go_wp2_with fail
    refine (of_any z s b q d h _).mono ?_; rintro e w1 ⟨rfl, hb1⟩
    obtain ⟨hc1, hf1⟩ := bcell hb1
    have hs1 := hb1.size
    try simp at hs1
    replace hb1 := bt (a := w) (by repeat (first | assumption | exact Below.refl _ _ | refine Below.drew ?_ | refine Below.alloc ?_ (by first | omega | (simp; done) | (simp; omega)) _ | refine Below.setCell ?_ (by first | omega | (simp; done) | (simp; omega)) _)) hb1
    have hg1 : g < w1.heap.size := by omega
    rw [HV.out]
    go_wp2_with fail
    refine (refOf_any z s b q d h _).mono ?_; rintro e w2 ⟨rfl, hb2⟩
    obtain ⟨hc2, hf2⟩ := bcell hb2
    have hs2 := hb2.size
    try simp at hs2
    have hz2w10 : w1.heap.size < w2.heap.size := by omega
    replace hb2 := bt (a := w) (by repeat (first | assumption | exact Below.refl _ _ | refine Below.drew ?_ | refine Below.alloc ?_ (by first | omega | (simp; done) | (simp; omega)) _ | refine Below.setCell ?_ (by first | omega | (simp; done) | (simp; omega)) _)) hb2
    have hg2 : g < w2.heap.size := by omega
    rw [HV.out]
    generalize hE : Lay.chk z s b q d h = E at *
    have HE := Lib.hid hE
    clear hE
    have mb1 := Int.emod_nonneg slot (show (4 : Int) ≠ 0 by omega)
    have mb2 := Int.emod_lt_of_pos slot (show (0 : Int) < 4 by omega)
    have mb3 := Int.emod_nonneg zone (show (36 : Int) ≠ 0 by omega)
    have mb4 := Int.emod_lt_of_pos zone (show (0 : Int) < 36 by omega)
    go_wp2_with fail
    refine (mod_any _ _ _ (by omega) (by omega)).mono ?_; rintro e w' ⟨rfl, rfl⟩
    go_wp2_with fail
    refine (mod_any _ _ _ (by omega) (by omega)).mono ?_; rintro e w' ⟨rfl, rfl⟩
    go_wp2_with fail
    obtain ⟨w3, hw3⟩ : ∃ w3, w3 = (w2.alloc (Obj.cells #[.int .i64 v1, .int .i64 v2, .int .i64 v3, .int .i64 v4] 31)) := ⟨_, rfl⟩
    have hb3 : Below w.heap.size w w3 := by rw [hw3]; exact (by repeat (first | assumption | exact Below.refl _ _ | refine Below.drew ?_ | refine Below.alloc ?_ (by first | omega | (simp; done) | (simp; omega)) _ | refine Below.setCell ?_ (by first | omega | (simp; done) | (simp; omega)) _))
    have hsz : w3.heap.size = w2.heap.size + 1 := by rw [hw3]; simp
    have y0 : g < w3.heap.size := by omega
    have y1 : w1.heap.size < w3.heap.size := by omega
    have y2 : w2.heap.size < w3.heap.size := by omega
    have b0 : w3.cell? ⟨g, 0, none⟩ = some (.int .i64 z) := by rw [hw3]; go_simp
    have b1 : w3.cell? ⟨g, 1, none⟩ = some (.int .i64 s) := by rw [hw3]; go_simp
    have b2 : w3.cell? ⟨g, 2, none⟩ = some (.int .i64 b) := by rw [hw3]; go_simp
    have b3 : w3.cell? ⟨g, 3, none⟩ = some (.int .i64 q) := by rw [hw3]; go_simp
    have b4 : w3.cell? ⟨g, 4, none⟩ = some (.int .i64 d) := by rw [hw3]; go_simp
    have b5 : w3.cell? ⟨g, 5, none⟩ = some (.int .i64 h) := by rw [hw3]; go_simp
    have c0 : w3.cell? ⟨w1.heap.size, 0, none⟩ = some (.int .i64 v1) := by rw [hw3]; go_simp
    have c1 : w3.cell? ⟨w1.heap.size, 1, none⟩ = some (.int .i64 v2) := by rw [hw3]; go_simp
    have c2 : w3.cell? ⟨w1.heap.size, 2, none⟩ = some (.int .i64 v3) := by rw [hw3]; go_simp
    have c3 : w3.cell? ⟨w1.heap.size, 3, none⟩ = some (.int .i64 v4) := by rw [hw3]; go_simp
    have d0 : w3.cell? ⟨w2.heap.size, 0, none⟩ = some (.int .i64 v1) := by rw [hw3]; go_simp
    have d1 : w3.cell? ⟨w2.heap.size, 1, none⟩ = some (.int .i64 v2) := by rw [hw3]; go_simp
    have d2 : w3.cell? ⟨w2.heap.size, 2, none⟩ = some (.int .i64 v3) := by rw [hw3]; go_simp
    have d3 : w3.cell? ⟨w2.heap.size, 3, none⟩ = some (.int .i64 v4) := by rw [hw3]; go_simp
    rw [← hw3]
    generalize slot % 4 - 1 = sl at *
    generalize zone % 36 - 1 = zn at *
    clear hw3 hsz hc1 hf1 hc2 hf2 hs1 hs2 hz2w10 hb1 hb2 k0 k1 k2 k3 k4 k5
    go_region_held3 (fun w' => (∀ b o, b < w3.heap.size → w'.cell? ⟨b, o, none⟩ = w3.cell? ⟨b, o, none⟩) ∧ Below w3.heap.size w3 w')
      (first | assumption | exact held_start _ | (refine held_next ?_ (by assumption); assumption))
      (first
        | (go_at_call 13; refine (layawake_any _).mono ?_; rintro e w' ⟨rfl, hbq⟩)
        | (go_at_call 18; refine (check_any z s b q d h _).mono ?_; rintro e w' ⟨rfl, hbq⟩; rw [HE.out])
        | (go_at_call 19; refine (refcheck_any z s b q d h _).mono ?_; rintro e w' ⟨rfl, hbq⟩; rw [HE.out])
        | (go_at_call 21; refine (slots_any z s b q d h _ _).mono ?_; rintro e w' ⟨vs1, rfl, ⟨A1, cp1, rfl, hr1⟩, hbq⟩)
        | (go_at_call 22; refine (refslots_any z s b q d h _ _).mono ?_; rintro e w' ⟨vs2, rfl, ⟨A2, cp2, rfl, hr2⟩, hbq⟩; have hr3 := (hr1.below hbq).more hbq.size)
        | (go_at_call 20; refine (same_yes _ _ _ _ _ _ (slotsL_len z s b q d h _) hr3 hr2).mono ?_; rintro e w' ⟨rfl, hbq⟩)
        | (go_at_call 23; refine (isdata_any z s b q d h _ _).mono ?_; rintro e w' ⟨rfl, hbq⟩)
        | (go_at_call 24; refine (refisdata_any z s b q d h _ _).mono ?_; rintro e w' ⟨rfl, hbq⟩))
    go_wp2
    go_ret
    exact ⟨rfl, bt hb3 (held_two (by assumption))⟩
end Go.Proofs.Ytopdpfbkdgncaaa
