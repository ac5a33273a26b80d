/- The program's checksum: what the call computes. -/
import Derived.Test.YtkpicojhnnkibaaZc
namespace Go.Proofs.Ytkpicojhnnkibaa
set_option linter.unusedVariables false
set_option linter.unusedSimpArgs false
open Go.RowKit

set_option maxRecDepth 100000 in
set_option maxHeartbeats 400000 in
theorem add_any (x0 : Nat) (s : ByteArray) (w : World) (hx : x0 < 4294967296) (hs : s.size ≤ maxLen) :
    Calls Try.prog 79 #[.int .u32 x0, .string s] w fun e w' => e = .returned (.int .u32 (Crc.add crcP crcO x0 (crcB s) : Nat)) ∧ Below w.heap.size w w' := by
  have hz := zv32
  unfold maxLen at hs
  go_enter Try.func79, Try.ntmps79
  go_wp2_with fail
  refine (table_any w).mono ?_; rintro e w1 ⟨rfl, hb⟩
  have hh : ((w1.alloc (.cells (tabOf 0) 139))).heap[w1.heap.size]? = some (.cells (tabOf 0) 139) := heap_alloc_new w1 _
  go_wp2_with (refine wpList_store_row rfl 139 _ _ rfl w1.heap.size (tabOf 256) rfl rfl 139 (tabOf 0) hh (by kernel_rfl) (by rw [tab_size, tab_size]) (tab_one 256) ?_)
  have hb2 : Below w.heap.size w ((w1.alloc (.cells (tabOf 0) 139)).setRow w1.heap.size (tabOf 256)) := below_setRow (hb.alloc hb.size _) hb.size _
  have hh2 := setRow_heap _ _ _ (tabOf 256) _ _ hh
  generalize ((w1.alloc (.cells (tabOf 0) 139)).setRow w1.heap.size (tabOf 256)) = w2 at *
  go_loop [6, 7] (fun x i => ∃ k : Nat, k ≤ s.size ∧ i = .int .i64 k ∧ x = .int .u32 (Crc.run crcP (crcO ^^^ x0) ((crcB s).take k) : Nat)) (fun _ i => s.size - (intOf i).toNat)
  case atStart =>
    exact ⟨0, Nat.zero_le _, rfl, val_u32 (by rw [List.take_zero, Crc.run_nil]; exact u32_xor_nat crcO x0 O_lt hx)⟩
  case round =>
    obtain ⟨k, hk, rfl, rfl⟩ := hrel
    have hr := runs_lt (crcO ^^^ x0) ((crcB s).take k) (xors_lt _ _ O_lt hx) (fun b hb => bs_lt s b (List.mem_of_mem_take hb))
    by_cases hlt : k < s.size
    · have hbb := s[k].toNat_lt
      generalize hy : Crc.run crcP (crcO ^^^ x0) ((crcB s).take k) = y at *
      have HY := Lib.hid hy; clear hy
      have hi : bits BinOp.xor IntKind.u8 (↑y % 256) ↑s[k].toNat = ((y % 256 ^^^ s[k].toNat : Nat) : Int) := by
        have h1 := u8_xor_nat (y % 256) s[k].toNat (by omega) (by omega)
        rw [← h1]; rfl
      have hz8 : y % 256 ^^^ s[k].toNat < 256 := Nat.xor_lt_two_pow (n := 8) (by omega) (by omega)
      generalize hq : y % 256 ^^^ s[k].toNat = q at *
      have HQ := Lib.hid hq; clear hq
      have hc : w2.cell? ⟨w1.heap.size, q, none⟩ = some (.int .u32 (Crc.steps crcP 8 q : Nat)) := by
        rw [cell_of_row _ _ _ _ _ _ hh2, tab_get _ _ hz8, if_pos hz8]
      have hq8 := steps_lt 8 q (by omega)
      go_wp2
      go_round
      case rel =>
        refine ⟨k + 1, by omega, by go_num, val_u32 ?_⟩
        rw [bs_take s k hlt, Crc.run_snoc, HY.out, ← tab_step, HQ.out]
        exact u32_xor_nat (y / 256) _ (by omega) hq8
      case measure => simp [intOf]; omega
    · go_wp2
      go_ret
      refine ⟨ret_u32 ?_, hb2⟩
      rw [List.take_of_length_le (by rw [bs_len]; omega)]
      unfold Crc.add
      rw [List.take_of_length_le (by rw [bs_len]; omega)] at hr
      exact u32_xor_nat crcO _ O_lt hr

set_option maxHeartbeats 400000 in
theorem sum_any (s : ByteArray) (w : World) (hs : s.size ≤ maxLen) :
    Calls Try.prog 77 #[.string s] w fun e w' => e = .returned (.int .u32 (Crc.add crcP crcO 0 (crcB s) : Nat)) ∧ Below w.heap.size w w' := by
  go_enter Try.func77, Try.ntmps77
  go_wp2_with (go_at_call 79; refine (add_any 0 s _ (by decide) hs).mono ?_; rintro e w' ⟨rfl, hb⟩)
  go_ret
  exact ⟨rfl, hb⟩

end Go.Proofs.Ytkpicojhnnkibaa
