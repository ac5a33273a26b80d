/- The layers' layout: the rest of the zones of a slot, and the comparison of two lists. -/
import Derived.Test.YtopdpfbkdgncaaaLaySl
namespace Go.Proofs.Ytopdpfbkdgncaaa
set_option linter.unusedVariables false
set_option linter.unusedSimpArgs false
open Go.RowKit

set_option maxRecDepth 100000 in
set_option maxHeartbeats 400000 in
theorem slots_no (z s b q d h slot : Int) (w : World) (hno : ¬ (Lay.chk z s b q d h = 0 ∧ (slot = 0 ∨ slot = 1))) :
    Calls Try.prog 21 #[cfgV z s b q d h, .int .i64 slot] w fun e w' => ∃ v, e = .returned v ∧ IsInts w' v (slotsL z s b q d h slot) ∧ Below w.heap.size w w' := by
  have hd : slotsL z s b q d h slot = [] := by unfold slotsL; rw [if_neg hno]
  rw [hd]
  clear hd
  have hv : ∃ a b' c e : Int, layV z s b q d h = .agg #[.int .i64 a, .int .i64 b', .int .i64 c, .int .i64 e] := by unfold layV; split <;> exact ⟨_, _, _, _, rfl⟩
  obtain ⟨v1, v2, v3, v4, hv⟩ := hv
  have HV := Lib.hid hv
  clear hv
  by_cases hc : Lay.chk z s b q d h = 0
  · have h0 : slot ≠ 0 := fun e => hno ⟨hc, Or.inl e⟩
    have h1 : slot ≠ 1 := fun e => hno ⟨hc, Or.inr e⟩
    have e0 : (slot != 0) = true := by rw [bne_iff_ne]; exact h0
    have e1 : (slot != 1) = true := by rw [bne_iff_ne]; exact h1
    have HC := Lib.hid hc
    clear hc hno h0 h1
    go_enter Try.func21, Try.ntmps21
    go_wp2_with fail
    refine (of_any z s b q d h _).mono ?_; rintro e w1 ⟨rfl, hb1⟩
    obtain ⟨hc1, hf1⟩ := bcell hb1
    have hs1 := hb1.size
    try simp at hs1
    have hz1w0 : w.heap.size < w1.heap.size := by omega
    replace hb1 := bt (a := w) (by repeat (first | assumption | exact Below.refl _ _ | refine Below.drew ?_ | refine Below.alloc ?_ (by first | omega | (simp; done) | (simp; omega)) _ | refine Below.setCell ?_ (by first | omega | (simp; done) | (simp; omega)) _)) hb1
    rw [HV.out, HC.out]
    go_wp2
    go_ret
    exact ⟨_, rfl, IsInts.nil _, (by repeat (first | assumption | exact Below.refl _ _ | refine Below.drew ?_ | refine Below.alloc ?_ (by first | omega | (simp; done) | (simp; omega)) _ | refine Below.setCell ?_ (by first | omega | (simp; done) | (simp; omega)) _))⟩
  · have hne : (Lay.chk z s b q d h != 0) = true := by rw [bne_iff_ne]; exact hc
    clear hc hno
    go_enter Try.func21, Try.ntmps21
    go_wp2_with fail
    refine (of_any z s b q d h _).mono ?_; rintro e w1 ⟨rfl, hb1⟩
    obtain ⟨hc1, hf1⟩ := bcell hb1
    have hs1 := hb1.size
    try simp at hs1
    have hz1w0 : w.heap.size < w1.heap.size := by omega
    replace hb1 := bt (a := w) (by repeat (first | assumption | exact Below.refl _ _ | refine Below.drew ?_ | refine Below.alloc ?_ (by first | omega | (simp; done) | (simp; omega)) _ | refine Below.setCell ?_ (by first | omega | (simp; done) | (simp; omega)) _)) hb1
    rw [HV.out]
    go_wp2
    go_ret
    exact ⟨_, rfl, IsInts.nil _, (by repeat (first | assumption | exact Below.refl _ _ | refine Below.drew ?_ | refine Below.alloc ?_ (by first | omega | (simp; done) | (simp; omega)) _ | refine Below.setCell ?_ (by first | omega | (simp; done) | (simp; omega)) _))⟩

theorem slots_any (z s b q d h slot : Int) (w : World) :
    Calls Try.prog 21 #[cfgV z s b q d h, .int .i64 slot] w fun e w' => ∃ v, e = .returned v ∧ IsInts w' v (slotsL z s b q d h slot) ∧ Below w.heap.size w w' := by
  by_cases hh : Lay.chk z s b q d h = 0 ∧ (slot = 0 ∨ slot = 1)
  · rcases hh with ⟨hc, rfl | rfl⟩
    · exact slots_yes0 z s b q d h w hc
    · exact slots_yes1 z s b q d h w hc
  · exact slots_no z s b q d h slot w hh

set_option maxRecDepth 100000 in
set_option maxHeartbeats 400000 in
theorem refslots_no (z s b q d h slot : Int) (w : World) (hno : ¬ (Lay.chk z s b q d h = 0 ∧ (slot = 0 ∨ slot = 1))) :
    Calls Try.prog 22 #[cfgV z s b q d h, .int .i64 slot] w fun e w' => ∃ v, e = .returned v ∧ IsInts w' v (slotsL z s b q d h slot) ∧ Below w.heap.size w w' := by
  have hd : slotsL z s b q d h slot = [] := by unfold slotsL; rw [if_neg hno]
  rw [hd]
  clear hd
  by_cases hc : Lay.chk z s b q d h = 0
  · have HC := Lib.hid hc
    rcases (show slot < 0 ∨ 1 < slot by
      rcases Decidable.em (slot < 0) with h0 | h0
      · exact Or.inl h0
      · right
        have h0' : slot ≠ 0 := fun e => hno ⟨hc, Or.inl e⟩
        have h1' : slot ≠ 1 := fun e => hno ⟨hc, Or.inr e⟩
        omega) with h0 | h0
    all_goals
      clear hc hno
      go_enter Try.func22, Try.ntmps22
      go_wp2_with fail
      refine (refcheck_any z s b q d h _).mono ?_; rintro e w1 ⟨rfl, hb1⟩
      obtain ⟨hc1, hf1⟩ := bcell hb1
      have hs1 := hb1.size
      try simp at hs1
      have hz1w0 : w.heap.size < w1.heap.size := by omega
      replace hb1 := bt (a := w) (by repeat (first | assumption | exact Below.refl _ _ | refine Below.drew ?_ | refine Below.alloc ?_ (by first | omega | (simp; done) | (simp; omega)) _ | refine Below.setCell ?_ (by first | omega | (simp; done) | (simp; omega)) _)) hb1
      rw [HC.out]
      go_wp2
      go_ret
      exact ⟨_, rfl, IsInts.nil _, (by repeat (first | assumption | exact Below.refl _ _ | refine Below.drew ?_ | refine Below.alloc ?_ (by first | omega | (simp; done) | (simp; omega)) _ | refine Below.setCell ?_ (by first | omega | (simp; done) | (simp; omega)) _))⟩
  · have hne : (Lay.chk z s b q d h != 0) = true := by rw [bne_iff_ne]; exact hc
    clear hc hno
    go_enter Try.func22, Try.ntmps22
    go_wp2_with fail
    refine (refcheck_any z s b q d h _).mono ?_; rintro e w1 ⟨rfl, hb1⟩
    obtain ⟨hc1, hf1⟩ := bcell hb1
    have hs1 := hb1.size
    try simp at hs1
    have hz1w0 : w.heap.size < w1.heap.size := by omega
    replace hb1 := bt (a := w) (by repeat (first | assumption | exact Below.refl _ _ | refine Below.drew ?_ | refine Below.alloc ?_ (by first | omega | (simp; done) | (simp; omega)) _ | refine Below.setCell ?_ (by first | omega | (simp; done) | (simp; omega)) _)) hb1
    go_wp2
    go_ret
    exact ⟨_, rfl, IsInts.nil _, (by repeat (first | assumption | exact Below.refl _ _ | refine Below.drew ?_ | refine Below.alloc ?_ (by first | omega | (simp; done) | (simp; omega)) _ | refine Below.setCell ?_ (by first | omega | (simp; done) | (simp; omega)) _))⟩

set_option maxRecDepth 100000 in
set_option maxHeartbeats 400000 in
theorem refslots_yes0 (z s b q d h : Int) (w : World) (hc : Lay.chk z s b q d h = 0) :
    Calls Try.prog 22 #[cfgV z s b q d h, .int .i64 0] w fun e w' => ∃ v, e = .returned v ∧ IsInts w' v (slotsL z s b q d h 0) ∧ Below w.heap.size w w' := by
  have hd : slotsL z s b q d h 0 = slotsOf (Lay.slot s b) 0 (Lay.slot s b).toNat := by unfold slotsL; rw [if_pos ⟨hc, by omega⟩]
  obtain ⟨o1, o2, o3, o4, o5, o6, o7, o8, o9, o10, o11, o12⟩ := Lay.okR_iff.1 (okR_of_chk hc)
  obtain ⟨S1, S2, S3⟩ := Lay.slot_bd o1 o2 o5 o6
  have HC := Lib.hid hc
  have HD := Lib.hid hd
  have HK := Lib.hid (okR_of_chk hc)
  clear hc hd S3 o1 o2 o3 o4 o5 o6 o7 o8 o9 o10 o11 o12
  obtain ⟨i0, hi0, hz0, hz1, hz2⟩ := info_parts int_info
  have hfl := fun a b c d w => (lay_field a b c d w).1
  go_enter Try.func22, Try.ntmps22
  go_wp2_with fail
  refine (refcheck_any z s b q d h _).mono ?_; rintro e w1 ⟨rfl, hb1⟩
  obtain ⟨hc1, hf1⟩ := bcell hb1
  have hs1 := hb1.size
  try simp at hs1
  have hz1w0 : w.heap.size < w1.heap.size := by omega
  replace hb1 := bt (a := w) (by repeat (first | assumption | exact Below.refl _ _ | refine Below.drew ?_ | refine Below.alloc ?_ (by first | omega | (simp; done) | (simp; omega)) _ | refine Below.setCell ?_ (by first | omega | (simp; done) | (simp; omega)) _)) hb1
  rw [HC.out]
  go_wp2_with fail
  refine (refof_any z s b q d h _ HK.out).mono ?_; rintro e w2 ⟨rfl, hb2⟩
  obtain ⟨hc2, hf2⟩ := bcell hb2
  have hs2 := hb2.size
  try simp at hs2
  have hz2w0 : w.heap.size < w2.heap.size := by omega
  replace hb2 := bt (a := w) (by repeat (first | assumption | exact Below.refl _ _ | refine Below.drew ?_ | refine Below.alloc ?_ (by first | omega | (simp; done) | (simp; omega)) _ | refine Below.setCell ?_ (by first | omega | (simp; done) | (simp; omega)) _)) hb2
  generalize hn : Lay.slot s b = n at *
  generalize Lay.data z s b = D at *
  generalize Lay.cap z s b q = C at *
  have HN := Lib.hid hn
  clear hn
  obtain ⟨N, rfl⟩ := Int.eq_ofNat_of_zero_le (show 0 ≤ n by omega)
  rw [Int.toNat_natCast] at HD
  go_wp2_with fail
  go_loopw [5, 7] (fun v i wr => ∃ k : Nat, k ≤ N ∧ i = .int .i64 k ∧ wr.ownsRow w2.heap.size 3 1 v k (ints (slotsOf (N : Int) 0 k)) ∧ Below w2.heap.size w2 wr) (fun _ i _ => N - (intOf i).toNat)
  case atStart => exact ⟨0, by omega, rfl, ⟨by simp [slotsOf, ints], Or.inl ⟨rfl, rfl⟩⟩, Below.refl _ _⟩
  case round =>
    obtain ⟨k, hk, rfl, hown, hB⟩ := hrel
    have hBs := hB.size
    by_cases hlt : k < N
    · have hse : slotsOf (N : Int) 0 (k + 1) = slotsOf (N : Int) 0 k ++ [(k : Int)] := by rw [slotsOf_succ]; simp
      have HSE := Lib.hid hse
      clear hse
      go_wp2_with (at_builtin; refine wpList_append_own _ rfl (.tmp 27) (.tmp 33) _ rfl w2.heap.size 3 i0 (.int .i64 0) 1 8 Try.underlying22 hi0 hz0 hz1 hz2 rfl (by decide) _ k _ rfl (hown.alloc _) ⟨wr.heap.size, 0, none⟩ 1 1 [.int .i64 (k : Int)] rfl rfl ?c1 ?c2 ?c3 ?c4 ?c5 ?_)
      case c1 => exact cell_one_new _ _ _
      case c2 => simp [Value.oneCell']
      case c3 => unfold maxLen; omega
      case c4 => omega
      case c5 => simp; omega
      intro v1 w3 hown1 hg1 _
      have hB1 := push_below hown hB hg1
      rw [← ints_snoc, ← HSE.out] at hown1
      go_wp2
      go_roundw
      case rel => exact ⟨k + 1, by omega, by go_num, hown1, hB1⟩
      case measure => simp [intOf]; omega
    · obtain rfl : k = N := by omega
      go_wp2
      go_ret
      exact ⟨_, rfl, by rw [HD.out]; exact IsInts.of_own hown, bt hb2 hB⟩
set_option maxRecDepth 100000 in
set_option maxHeartbeats 400000 in
theorem refslots_yes1 (z s b q d h : Int) (w : World) (hc : Lay.chk z s b q d h = 0) :
    Calls Try.prog 22 #[cfgV z s b q d h, .int .i64 1] w fun e w' => ∃ v, e = .returned v ∧ IsInts w' v (slotsL z s b q d h 1) ∧ Below w.heap.size w w' := by
  have hd : slotsL z s b q d h 1 = slotsOf (Lay.slot s b) 1 (Lay.slot s b).toNat := by unfold slotsL; rw [if_pos ⟨hc, by omega⟩]
  obtain ⟨o1, o2, o3, o4, o5, o6, o7, o8, o9, o10, o11, o12⟩ := Lay.okR_iff.1 (okR_of_chk hc)
  obtain ⟨S1, S2, S3⟩ := Lay.slot_bd o1 o2 o5 o6
  have HC := Lib.hid hc
  have HD := Lib.hid hd
  have HK := Lib.hid (okR_of_chk hc)
  clear hc hd S3 o1 o2 o3 o4 o5 o6 o7 o8 o9 o10 o11 o12
  obtain ⟨i0, hi0, hz0, hz1, hz2⟩ := info_parts int_info
  have hfl := fun a b c d w => (lay_field a b c d w).1
  go_enter Try.func22, Try.ntmps22
  go_wp2_with fail
  refine (refcheck_any z s b q d h _).mono ?_; rintro e w1 ⟨rfl, hb1⟩
  obtain ⟨hc1, hf1⟩ := bcell hb1
  have hs1 := hb1.size
  try simp at hs1
  have hz1w0 : w.heap.size < w1.heap.size := by omega
  replace hb1 := bt (a := w) (by repeat (first | assumption | exact Below.refl _ _ | refine Below.drew ?_ | refine Below.alloc ?_ (by first | omega | (simp; done) | (simp; omega)) _ | refine Below.setCell ?_ (by first | omega | (simp; done) | (simp; omega)) _)) hb1
  rw [HC.out]
  go_wp2_with fail
  refine (refof_any z s b q d h _ HK.out).mono ?_; rintro e w2 ⟨rfl, hb2⟩
  obtain ⟨hc2, hf2⟩ := bcell hb2
  have hs2 := hb2.size
  try simp at hs2
  have hz2w0 : w.heap.size < w2.heap.size := by omega
  replace hb2 := bt (a := w) (by repeat (first | assumption | exact Below.refl _ _ | refine Below.drew ?_ | refine Below.alloc ?_ (by first | omega | (simp; done) | (simp; omega)) _ | refine Below.setCell ?_ (by first | omega | (simp; done) | (simp; omega)) _)) hb2
  generalize hn : Lay.slot s b = n at *
  generalize Lay.data z s b = D at *
  generalize Lay.cap z s b q = C at *
  have HN := Lib.hid hn
  clear hn
  obtain ⟨N, rfl⟩ := Int.eq_ofNat_of_zero_le (show 0 ≤ n by omega)
  rw [Int.toNat_natCast] at HD
  go_wp2_with fail
  go_loopw [5, 7] (fun v i wr => ∃ k : Nat, k ≤ N ∧ i = .int .i64 k ∧ wr.ownsRow w2.heap.size 3 1 v k (ints (slotsOf (N : Int) 1 k)) ∧ Below w2.heap.size w2 wr) (fun _ i _ => N - (intOf i).toNat)
  case atStart => exact ⟨0, by omega, rfl, ⟨by simp [slotsOf, ints], Or.inl ⟨rfl, rfl⟩⟩, Below.refl _ _⟩
  case round =>
    obtain ⟨k, hk, rfl, hown, hB⟩ := hrel
    have hBs := hB.size
    by_cases hlt : k < N
    · have hse : slotsOf (N : Int) 1 (k + 1) = slotsOf (N : Int) 1 k ++ [((N : Int) + (k : Int))] := by rw [slotsOf_succ]; simp
      have HSE := Lib.hid hse
      clear hse
      go_wp2_with (at_builtin; refine wpList_append_own _ rfl (.tmp 27) (.tmp 33) _ rfl w2.heap.size 3 i0 (.int .i64 0) 1 8 Try.underlying22 hi0 hz0 hz1 hz2 rfl (by decide) _ k _ rfl (hown.alloc _) ⟨wr.heap.size, 0, none⟩ 1 1 [.int .i64 ((N : Int) + (k : Int))] rfl rfl ?c1 ?c2 ?c3 ?c4 ?c5 ?_)
      case c1 => exact cell_one_new _ _ _
      case c2 => simp [Value.oneCell']
      case c3 => unfold maxLen; omega
      case c4 => omega
      case c5 => simp; omega
      intro v1 w3 hown1 hg1 _
      have hB1 := push_below hown hB hg1
      rw [← ints_snoc, ← HSE.out] at hown1
      go_wp2
      go_roundw
      case rel => exact ⟨k + 1, by omega, by go_num, hown1, hB1⟩
      case measure => simp [intOf]; omega
    · obtain rfl : k = N := by omega
      go_wp2
      go_ret
      exact ⟨_, rfl, by rw [HD.out]; exact IsInts.of_own hown, bt hb2 hB⟩

theorem refslots_any (z s b q d h slot : Int) (w : World) :
    Calls Try.prog 22 #[cfgV z s b q d h, .int .i64 slot] w fun e w' => ∃ v, e = .returned v ∧ IsInts w' v (slotsL z s b q d h slot) ∧ Below w.heap.size w w' := by
  by_cases hh : Lay.chk z s b q d h = 0 ∧ (slot = 0 ∨ slot = 1)
  · rcases hh with ⟨hc, rfl | rfl⟩
    · exact refslots_yes0 z s b q d h w hc
    · exact refslots_yes1 z s b q d h w hc
  · exact refslots_no z s b q d h slot w hh

set_option maxRecDepth 100000 in
set_option maxHeartbeats 400000 in
/-- The comparison of two lists that are the same. -/
theorem same_yes (A B : Option Addr) (c c' : Nat) (xs : List Int) (w : World) (hl : xs.length ≤ 1000000) (ha : Reads w w.heap.size 1 A xs.length (ints xs)) (hb : Reads w w.heap.size 1 B xs.length (ints xs)) :
    Calls Try.prog 20 #[.slice A xs.length c, .slice B xs.length c'] w fun e w' => e = .returned (.bool true) ∧ Below w.heap.size w w' := by
  go_enter Try.func20, Try.ntmps20
  go_wp2_with fail
  go_loopw [5] (fun i wr => ∃ k : Nat, k ≤ xs.length ∧ i = .int .i64 k ∧ Below w.heap.size w wr) (fun i _ => xs.length - (intOf i).toNat)
  case atStart => exact ⟨0, by omega, rfl, Below.refl _ _⟩
  case round =>
    obtain ⟨k, hk, rfl, hB⟩ := hrel
    by_cases hlt : k < xs.length
    · obtain ⟨ad, rfl, had, hca⟩ := ha.int_at hlt
      obtain ⟨bd, rfl, hbd, hcb⟩ := hb.int_at hlt
      have hca' : wr.cell? (ad.add k) = some (.int .i64 xs[k]) := by rw [hB.cell (by rw [block_of_add]; exact had)]; exact hca
      have hcb' : wr.cell? (bd.add k) = some (.int .i64 xs[k]) := by rw [hB.cell (by rw [block_of_add]; exact hbd)]; exact hcb
      have hki : (k : Int) < (xs.length : Int) := by omega
      have hk0 : (0 : Int) ≤ (k : Int) := by omega
      go_wp2_with fail
      go_quiet (fail)
      go_wp2
      go_roundw
      case rel => exact ⟨k + 1, by omega, by go_num, below_drewN hB _⟩
      case measure => simp [intOf]; omega
    · go_wp2
      go_ret
      exact ⟨rfl, hB⟩
end Go.Proofs.Ytopdpfbkdgncaaa
