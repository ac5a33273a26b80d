/- The reference's checksum: what the call computes. -/
import Derived.Test.YtkpicojhnnkibaaKit
import Derived.Test.YtkpicojhnnkibaaZa
namespace Go.Proofs.Ytkpicojhnnkibaa
set_option linter.unusedVariables false
set_option linter.unusedSimpArgs false
open Go.RowKit

def crcP : Nat := 3988292384
def crcO : Nat := 4294967295
def crcB (s : ByteArray) : List Nat := s.data.toList.map UInt8.toNat

theorem val_u32 {a b : Int} (h : a = b) : Value.int .u32 a = .int .u32 b := by rw [h]
theorem ret_u32 {a b : Int} (h : a = b) : Ending.returned (.int .u32 a) = .returned (.int .u32 b) := by rw [h]

theorem bs_len (s : ByteArray) : (crcB s).length = s.size := by unfold crcB; rw [List.length_map]; rfl
theorem bs_take (s : ByteArray) (k : Nat) (h : k < s.size) : (crcB s).take (k + 1) = (crcB s).take k ++ [s[k].toNat] := by
  unfold crcB; rw [← List.map_take, List.take_succ_eq_append_getElem (by simpa using h), List.map_append, List.map_take]; rfl
theorem bs_lt (s : ByteArray) : ∀ b ∈ crcB s, b < 256 := by
  intro b hb; unfold crcB at hb; rw [List.mem_map] at hb; obtain ⟨c, _, rfl⟩ := hb; exact c.toNat_lt
theorem P_bd : 2 ^ 31 ≤ crcP ∧ crcP < 2 ^ (31 + 1) := by unfold crcP; decide
theorem O_bd : crcO < 2 ^ (31 + 1) := by unfold crcO; decide
theorem e32 : (2 : Nat) ^ (31 + 1) = 4294967296 := by decide
theorem p32 : (2 : Nat) ^ 32 = 4294967296 := by decide
theorem runs_lt (x : Nat) (l : List Nat) (h : x < 4294967296) (hl : ∀ b ∈ l, b < 256) : Crc.run crcP x l < 4294967296 := by
  have := Crc.run_lt crcP 31 (by decide) P_bd.2 x l (by rw [e32]; exact h) hl
  rw [e32] at this; exact this
theorem steps_lt (k x : Nat) (h : x < 4294967296) : Crc.steps crcP k x < 4294967296 := by
  have := Crc.steps_lt crcP 31 P_bd.2 k x (by rw [e32]; exact h)
  rw [e32] at this; exact this
theorem xors_lt (x y : Nat) (hx : x < 4294967296) (hy : y < 4294967296) : x ^^^ y < 4294967296 := by
  have := Nat.xor_lt_two_pow (n := 32) (x := x) (y := y) (by rw [← p32] at hx; exact hx) (by rw [← p32] at hy; exact hy)
  rw [p32] at this; exact this
theorem O_lt : crcO < 4294967296 := by unfold crcO; decide
theorem add_lt (x : Nat) (s : ByteArray) (hx : x < 4294967296) : Crc.add crcP crcO x (crcB s) < 4294967296 := by
  unfold Crc.add; exact xors_lt _ _ O_lt (runs_lt _ _ (xors_lt _ _ O_lt hx) (bs_lt s))

theorem step_yes (y : Nat) (hy : y < 4294967296) (h : (bits BinOp.and IntKind.u32 (↑y) 1 == 1) = true) :
    bits BinOp.xor IntKind.u32 (↑y / 2) 3988292384 = ((Crc.step crcP y : Nat) : Int) := by
  have h1 := u32_and_nat y 1 hy (by decide)
  rw [nat_mask1] at h1
  rw [show ((1 : Nat) : Int) = 1 from rfl] at h1
  rw [h1] at h
  have h2 : y % 2 = 1 := by have := eq_of_beq h; omega
  unfold Crc.step; rw [if_pos h2]
  exact u32_xor_nat (y / 2) crcP (by omega) (by unfold crcP; decide)
theorem step_no (y : Nat) (hy : y < 4294967296) (h : (bits BinOp.and IntKind.u32 (↑y) 1 == 1) = false) :
    ((y : Nat) : Int) / 2 = ((Crc.step crcP y : Nat) : Int) := by
  have h1 := u32_and_nat y 1 hy (by decide)
  rw [nat_mask1] at h1
  rw [show ((1 : Nat) : Int) = 1 from rfl] at h1
  rw [h1] at h
  have h2 : ¬ y % 2 = 1 := by
    intro e; rw [e] at h; exact absurd h (by decide)
  unfold Crc.step; rw [if_neg h2]; omega

set_option maxHeartbeats 400000 in
theorem refAdd_any (x0 : Nat) (s : ByteArray) (w : World) (hx : x0 < 4294967296) (hs : s.size ≤ maxLen) :
    Calls Try.prog 101 #[.int .u32 x0, .string s] w fun e w' => e = .returned (.int .u32 (Crc.add crcP crcO x0 (crcB s) : Nat)) ∧ w = w' := by
  unfold maxLen at hs
  go_enter Try.func101, Try.ntmps101
  go_wp2
  go_loop [5, 6] (fun x i => ∃ k : Nat, k ≤ s.size ∧ i = .int .i64 k ∧ x = .int .u32 (Crc.run crcP (crcO ^^^ x0) ((crcB s).take k) : Nat)) (fun _ i => s.size - (intOf i).toNat)
  case atStart =>
    exact ⟨0, Nat.zero_le _, rfl, val_u32 (by rw [List.take_zero, Crc.run_nil]; exact u32_xor_nat crcO x0 O_lt hx)⟩
  case round =>
    obtain ⟨k, hk, rfl, rfl⟩ := hrel
    have hr := runs_lt (crcO ^^^ x0) ((crcB s).take k) (xors_lt _ _ O_lt hx) (fun b hb => bs_lt s b (List.mem_of_mem_take hb))
    by_cases hlt : k < s.size
    · have hbb := s[k].toNat_lt
      go_wp2
      go_loop [5, 7] (fun x j => ∃ m : Nat, m ≤ 8 ∧ j = .int .i64 m ∧ x = .int .u32 (Crc.steps crcP m (Crc.run crcP (crcO ^^^ x0) ((crcB s).take k) ^^^ s[k].toNat) : Nat)) (fun _ j => 8 - (intOf j).toNat)
      case atStart =>
        refine ⟨0, by omega, rfl, val_u32 ?_⟩
        rw [Crc.steps_zero, ← u32_xor_nat _ _ hr (by omega)]
      case round =>
        obtain ⟨m, hm, rfl, rfl⟩ := hrel
        have hx2 := steps_lt m (Crc.run crcP (crcO ^^^ x0) ((crcB s).take k) ^^^ s[k].toNat) (xors_lt _ _ hr (by omega))
        generalize hy : Crc.steps crcP m (Crc.run crcP (crcO ^^^ x0) ((crcB s).take k) ^^^ s[k].toNat) = y at *
        have HY := Lib.hid hy; clear hy
        by_cases hm8 : m < 8
        · go_wp2
          all_goals
            go_round
            case rel =>
              refine ⟨m + 1, by omega, by go_num, val_u32 ?_⟩
              rw [Crc.steps_succ', HY.out]
              first
                | exact step_yes y hx2 ‹_›
                | exact step_no y hx2 ‹_›
            case measure => simp [intOf]; omega
        · go_wp2
          go_round
          case rel =>
            refine ⟨k + 1, by omega, by go_num, val_u32 ?_⟩
            rw [bs_take s k hlt, Crc.run_snoc, ← HY.out, show m = 8 from by omega]
          case measure => simp [intOf]; omega
    · go_wp2
      go_ret
      refine ⟨ret_u32 ?_, rfl⟩
      rw [List.take_of_length_le (by rw [bs_len]; omega)]
      unfold Crc.add
      rw [List.take_of_length_le (by rw [bs_len]; omega)] at hr
      exact u32_xor_nat crcO _ O_lt hr

set_option maxHeartbeats 400000 in
theorem refSum_any (s : ByteArray) (w : World) (hs : s.size ≤ maxLen) :
    Calls Try.prog 81 #[.string s] w fun e w' => e = .returned (.int .u32 (Crc.add crcP crcO 0 (crcB s) : Nat)) ∧ w = w' := by
  go_enter Try.func81, Try.ntmps81
  go_wp2_with (go_at_call 101; refine (refAdd_any 0 s _ (by decide) hs).mono ?_; rintro e w' ⟨rfl, rfl⟩)
  go_ret
  exact ⟨rfl, rfl⟩
end Go.Proofs.Ytkpicojhnnkibaa
