/- The layers' layout: the zones of a slot; the program's and the reference's. -/
import Derived.Test.YtopdpfbkdgncaaaLayOf
import Derived.Test.YtopdpfbkdgncaaaMem2
namespace Go.Proofs.Ytopdpfbkdgncaaa
set_option linter.unusedVariables false
set_option linter.unusedSimpArgs false
open Go.RowKit

/-- The zones of a slot. -/
def slotsOf (n slot : Int) (k : Nat) : List Int := (List.range k).map fun (i : Nat) => slot * n + (i : Int)
def slotsL (z s b q d h slot : Int) : List Int := if Lay.chk z s b q d h = 0 ∧ (slot = 0 ∨ slot = 1) then slotsOf (Lay.slot s b) slot (Lay.slot s b).toNat else []
theorem slotsOf_succ (n slot : Int) (k : Nat) : slotsOf n slot (k + 1) = slotsOf n slot k ++ [slot * n + k] := by
  unfold slotsOf; rw [List.range_succ, List.map_append]; rfl

set_option maxRecDepth 100000 in
set_option maxHeartbeats 400000 in
theorem slots_yes0 (z s b q d h : Int) (w : World) (hc : Lay.chk z s b q d h = 0) :
    Calls Try.prog 21 #[cfgV z s b q d h, .int .i64 0] w fun e w' => ∃ v, e = .returned v ∧ IsInts w' v (slotsL z s b q d h 0) ∧ Below w.heap.size w w' := by
  have hv : layV z s b q d h = .agg #[.int .i64 (Lay.slot s b), .int .i64 (2 * Lay.slot s b), .int .i64 (Lay.data z s b), .int .i64 (Lay.cap z s b q)] := by unfold layV; rw [if_pos hc]
  have hd : slotsL z s b q d h 0 = slotsOf (Lay.slot s b) 0 (Lay.slot s b).toNat := by unfold slotsL; rw [if_pos ⟨hc, by omega⟩]
  obtain ⟨o1, o2, o3, o4, o5, o6, o7, o8, o9, o10, o11, o12⟩ := Lay.okR_iff.1 (okR_of_chk hc)
  obtain ⟨S1, S2, S3⟩ := Lay.slot_bd o1 o2 o5 o6
  have HV := Lib.hid hv
  have HC := Lib.hid hc
  have HD := Lib.hid hd
  clear hc hv hd S3 o1 o2 o3 o4 o5 o6 o7 o8 o9 o10 o11 o12
  obtain ⟨i0, hi0, hz0, hz1, hz2⟩ := info_parts int_info
  go_enter Try.func21, Try.ntmps21
  go_wp2_with fail
  refine (of_any z s b q d h _).mono ?_; rintro e w1 ⟨rfl, hb1⟩
  obtain ⟨hc1, hf1⟩ := bcell hb1
  have hs1 := hb1.size
  try simp at hs1
  have hz1w0 : w.heap.size < w1.heap.size := by omega
  replace hb1 := bt (a := w) (by repeat (first | assumption | exact Below.refl _ _ | refine Below.drew ?_ | refine Below.alloc ?_ (by first | omega | (simp; done) | (simp; omega)) _ | refine Below.setCell ?_ (by first | omega | (simp; done) | (simp; omega)) _)) hb1
  rw [HV.out, HC.out]
  generalize hn : Lay.slot s b = n at *
  generalize Lay.data z s b = D at *
  generalize Lay.cap z s b q = C at *
  have HN := Lib.hid hn
  clear hn
  obtain ⟨N, rfl⟩ := Int.eq_ofNat_of_zero_le (show 0 ≤ n by omega)
  rw [Int.toNat_natCast] at HD
  go_wp2_with fail
  obtain ⟨w2, hw2⟩ : ∃ w2, w2 = (w1.alloc (Obj.cells #[.int .i64 (N : Int), .int .i64 (2 * (N : Int)), .int .i64 D, .int .i64 C] 31)) := ⟨_, rfl⟩
  have hb2 : Below w.heap.size w w2 := by rw [hw2]; exact (by repeat (first | assumption | exact Below.refl _ _ | refine Below.drew ?_ | refine Below.alloc ?_ (by first | omega | (simp; done) | (simp; omega)) _ | refine Below.setCell ?_ (by first | omega | (simp; done) | (simp; omega)) _))
  have k0 : w2.cell? ⟨w1.heap.size, 0, none⟩ = some (.int .i64 (N : Int)) := by rw [hw2, cell_of_row _ _ _ _ _ _ (heap_alloc_new w1 _)]; rfl
  have kz : w1.heap.size < w2.heap.size := by rw [hw2]; simp
  rw [← hw2]
  clear hw2
  go_loopw [7, 26] (fun v i wr => ∃ k : Nat, k ≤ N ∧ i = .int .i64 k ∧ wr.ownsRow w2.heap.size 3 1 v k (ints (slotsOf (N : Int) 0 k)) ∧ Below w2.heap.size w2 wr) (fun _ i _ => N - (intOf i).toNat)
  case atStart => exact ⟨0, by omega, rfl, ⟨by simp [slotsOf, ints], Or.inl ⟨rfl, rfl⟩⟩, Below.refl _ _⟩
  case round =>
    obtain ⟨k, hk, rfl, hown, hB⟩ := hrel
    have hBs := hB.size
    have k1 : wr.cell? ⟨w1.heap.size, 0, none⟩ = some (.int .i64 (N : Int)) := by rw [hB.cell (p := ⟨w1.heap.size, 0, none⟩) kz]; exact k0
    by_cases hlt : k < N
    · have hse : slotsOf (N : Int) 0 (k + 1) = slotsOf (N : Int) 0 k ++ [(k : Int)] := by rw [slotsOf_succ]; simp
      have HSE := Lib.hid hse
      clear hse
      go_wp2_with (at_builtin; refine wpList_append_own _ rfl (.tmp 29) (.tmp 36) _ rfl w2.heap.size 3 i0 (.int .i64 0) 1 8 Try.underlying22 hi0 hz0 hz1 hz2 rfl (by decide) _ k _ rfl (hown.alloc _) ⟨wr.heap.size, 0, none⟩ 1 1 [.int .i64 (k : Int)] rfl rfl ?c1 ?c2 ?c3 ?c4 ?c5 ?_)
      case c1 => exact cell_one_new _ _ _
      case c2 => simp [Value.oneCell']
      case c3 => unfold maxLen; omega
      case c4 => omega
      case c5 => simp; omega
      intro v1 w3 hown1 hg1 _
      have hB1 := push_below hown hB hg1
      rw [← ints_snoc, ← HSE.out] at hown1
      go_wp2
      go_roundw
      case rel => exact ⟨k + 1, by omega, by go_num, hown1, hB1⟩
      case measure => simp [intOf]; omega
    · obtain rfl : k = N := by omega
      go_wp2
      go_ret
      exact ⟨_, rfl, by rw [HD.out]; exact IsInts.of_own hown, bt hb2 hB⟩
set_option maxRecDepth 100000 in
set_option maxHeartbeats 400000 in
theorem slots_yes1 (z s b q d h : Int) (w : World) (hc : Lay.chk z s b q d h = 0) :
    Calls Try.prog 21 #[cfgV z s b q d h, .int .i64 1] w fun e w' => ∃ v, e = .returned v ∧ IsInts w' v (slotsL z s b q d h 1) ∧ Below w.heap.size w w' := by
  have hv : layV z s b q d h = .agg #[.int .i64 (Lay.slot s b), .int .i64 (2 * Lay.slot s b), .int .i64 (Lay.data z s b), .int .i64 (Lay.cap z s b q)] := by unfold layV; rw [if_pos hc]
  have hd : slotsL z s b q d h 1 = slotsOf (Lay.slot s b) 1 (Lay.slot s b).toNat := by unfold slotsL; rw [if_pos ⟨hc, by omega⟩]
  obtain ⟨o1, o2, o3, o4, o5, o6, o7, o8, o9, o10, o11, o12⟩ := Lay.okR_iff.1 (okR_of_chk hc)
  obtain ⟨S1, S2, S3⟩ := Lay.slot_bd o1 o2 o5 o6
  have HV := Lib.hid hv
  have HC := Lib.hid hc
  have HD := Lib.hid hd
  clear hc hv hd S3 o1 o2 o3 o4 o5 o6 o7 o8 o9 o10 o11 o12
  obtain ⟨i0, hi0, hz0, hz1, hz2⟩ := info_parts int_info
  go_enter Try.func21, Try.ntmps21
  go_wp2_with fail
  refine (of_any z s b q d h _).mono ?_; rintro e w1 ⟨rfl, hb1⟩
  obtain ⟨hc1, hf1⟩ := bcell hb1
  have hs1 := hb1.size
  try simp at hs1
  have hz1w0 : w.heap.size < w1.heap.size := by omega
  replace hb1 := bt (a := w) (by repeat (first | assumption | exact Below.refl _ _ | refine Below.drew ?_ | refine Below.alloc ?_ (by first | omega | (simp; done) | (simp; omega)) _ | refine Below.setCell ?_ (by first | omega | (simp; done) | (simp; omega)) _)) hb1
  rw [HV.out, HC.out]
  generalize hn : Lay.slot s b = n at *
  generalize Lay.data z s b = D at *
  generalize Lay.cap z s b q = C at *
  have HN := Lib.hid hn
  clear hn
  obtain ⟨N, rfl⟩ := Int.eq_ofNat_of_zero_le (show 0 ≤ n by omega)
  rw [Int.toNat_natCast] at HD
  go_wp2_with fail
  obtain ⟨w2, hw2⟩ : ∃ w2, w2 = (w1.alloc (Obj.cells #[.int .i64 (N : Int), .int .i64 (2 * (N : Int)), .int .i64 D, .int .i64 C] 31)) := ⟨_, rfl⟩
  have hb2 : Below w.heap.size w w2 := by rw [hw2]; exact (by repeat (first | assumption | exact Below.refl _ _ | refine Below.drew ?_ | refine Below.alloc ?_ (by first | omega | (simp; done) | (simp; omega)) _ | refine Below.setCell ?_ (by first | omega | (simp; done) | (simp; omega)) _))
  have k0 : w2.cell? ⟨w1.heap.size, 0, none⟩ = some (.int .i64 (N : Int)) := by rw [hw2, cell_of_row _ _ _ _ _ _ (heap_alloc_new w1 _)]; rfl
  have kz : w1.heap.size < w2.heap.size := by rw [hw2]; simp
  rw [← hw2]
  clear hw2
  go_loopw [7, 26] (fun v i wr => ∃ k : Nat, k ≤ N ∧ i = .int .i64 k ∧ wr.ownsRow w2.heap.size 3 1 v k (ints (slotsOf (N : Int) 1 k)) ∧ Below w2.heap.size w2 wr) (fun _ i _ => N - (intOf i).toNat)
  case atStart => exact ⟨0, by omega, rfl, ⟨by simp [slotsOf, ints], Or.inl ⟨rfl, rfl⟩⟩, Below.refl _ _⟩
  case round =>
    obtain ⟨k, hk, rfl, hown, hB⟩ := hrel
    have hBs := hB.size
    have k1 : wr.cell? ⟨w1.heap.size, 0, none⟩ = some (.int .i64 (N : Int)) := by rw [hB.cell (p := ⟨w1.heap.size, 0, none⟩) kz]; exact k0
    by_cases hlt : k < N
    · have hse : slotsOf (N : Int) 1 (k + 1) = slotsOf (N : Int) 1 k ++ [((N : Int) + (k : Int))] := by rw [slotsOf_succ]; simp
      have HSE := Lib.hid hse
      clear hse
      go_wp2_with (at_builtin; refine wpList_append_own _ rfl (.tmp 29) (.tmp 36) _ rfl w2.heap.size 3 i0 (.int .i64 0) 1 8 Try.underlying22 hi0 hz0 hz1 hz2 rfl (by decide) _ k _ rfl (hown.alloc _) ⟨wr.heap.size, 0, none⟩ 1 1 [.int .i64 ((N : Int) + (k : Int))] rfl rfl ?c1 ?c2 ?c3 ?c4 ?c5 ?_)
      case c1 => exact cell_one_new _ _ _
      case c2 => simp [Value.oneCell']
      case c3 => unfold maxLen; omega
      case c4 => omega
      case c5 => simp; omega
      intro v1 w3 hown1 hg1 _
      have hB1 := push_below hown hB hg1
      rw [← ints_snoc, ← HSE.out] at hown1
      go_wp2
      go_roundw
      case rel => exact ⟨k + 1, by omega, by go_num, hown1, hB1⟩
      case measure => simp [intOf]; omega
    · obtain rfl : k = N := by omega
      go_wp2
      go_ret
      exact ⟨_, rfl, by rw [HD.out]; exact IsInts.of_own hown, bt hb2 hB⟩
end Go.Proofs.Ytopdpfbkdgncaaa
