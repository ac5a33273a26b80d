/- The program's checksum: what the call computes. -/
import Derived.Test.YtkpicojhnnkibaaZb
namespace Go.Proofs.Ytkpicojhnnkibaa
set_option linter.unusedVariables false
set_option linter.unusedSimpArgs false
open Go.RowKit

/-- The table behind k rounds. -/
def tabOf (k : Nat) : Array Value := ((List.range 256).map fun i => Value.int .u32 (if i < k then (Crc.steps crcP 8 i : Nat) else 0)).toArray
theorem zv32 (w : World) : (zeroValue 139).run Try.prog w = .ok (.agg (tabOf 0)) w := by kernel_rfl
theorem tab_size (k : Nat) : (tabOf k).size = 256 := by simp [tabOf]
theorem tab_get (k i : Nat) (h : i < 256) : (tabOf k)[i]? = some (.int .u32 (if i < k then (Crc.steps crcP 8 i : Nat) else 0)) := by
  simp [tabOf, List.getElem?_map, List.getElem?_range h]
theorem tab_set (k : Nat) (h : k < 256) : (tabOf k).setIfInBounds k (.int .u32 (Crc.steps crcP 8 k : Nat)) = tabOf (k + 1) := by
  apply Array.ext_getElem?
  intro i
  rw [Array.getElem?_setIfInBounds]
  by_cases hi : i < 256
  · rw [tab_get _ _ hi, tab_get _ _ hi, tab_size]
    by_cases e : k = i
    · subst e; rw [if_pos rfl, if_pos h, if_pos (Nat.lt_succ_self k)]
    · rw [if_neg e]
      by_cases hlt : i < k
      · rw [if_pos hlt, if_pos (by omega)]
      · rw [if_neg hlt, if_neg (by omega)]
  · rw [if_neg (by omega), Array.getElem?_eq_none (by rw [tab_size]; omega), Array.getElem?_eq_none (by rw [tab_size]; omega)]

theorem tab_one (k : Nat) : (tabOf k).all (·.oneCell') = true := by
  rw [Array.all_eq_true]; intro i hi; simp [tabOf, Value.oneCell']
theorem below_setRow {B : Nat} {a w : World} (h : Below B a w) {g : Nat} (hg : B ≤ g) (cs : Array Value) : Below B a (w.setRow g cs) :=
  h.trans ⟨rfl, rfl, rfl, by simp [World.setRow], fun k hk => setRow_other w g k cs (by omega)⟩
def tabW (w : World) (k : Nat) : World := (w.alloc (.cells (tabOf 0) 139)).alloc (.cells (tabOf k) 139)
theorem tabW_heap (w : World) (k : Nat) : (tabW w k).heap[w.heap.size + 1]? = some (.cells (tabOf k) 139) := heap_alloc2_new w _ _
theorem tabW_cell (w : World) (k i : Nat) (h : i < 256) : (tabW w k).cell? ⟨w.heap.size + 1, i, none⟩ = some (.int .u32 (if i < k then (Crc.steps crcP 8 i : Nat) else 0)) := by
  rw [cell_of_row _ _ _ _ _ _ (tabW_heap w k)]; exact tab_get k i h
theorem tabW_froz (w : World) (k i : Nat) : (tabW w k).frozen? ⟨w.heap.size + 1, i, none⟩ = false := frozen_of_row _ _ _ _ _ (tabW_heap w k)
theorem tabW_set (w : World) (k : Nat) (h : k < 256) : (tabW w k).setCell ⟨w.heap.size + 1, k, none⟩ (.int .u32 (Crc.steps crcP 8 k : Nat)) = tabW w (k + 1) := by
  unfold tabW
  rw [World.setCell_alloc_at _ _ _ _ _ (by simp)]
  rw [tab_set k h]

set_option maxRecDepth 100000 in
set_option maxHeartbeats 400000 in
theorem table_any (w : World) :
    Calls Try.prog 100 #[] w fun e w' => e = .returned (.agg (tabOf 256)) ∧ Below w.heap.size w w' := by
  have hz := zv32
  go_enter Try.func100, Try.ntmps100
  go_wp2
  go_loopw [5] (fun i wr => ∃ k : Nat, k ≤ 256 ∧ i = .int .i64 k ∧ wr = tabW w k) (fun i _ => 256 - (intOf i).toNat)
  case atStart => exact ⟨0, by omega, rfl, rfl⟩
  case round =>
    obtain ⟨k, hk, rfl, rfl⟩ := hrel
    by_cases hlt : k < 256
    · go_wp2
      go_loop [3, 10] (fun x j => ∃ m : Nat, m ≤ 8 ∧ j = .int .i64 m ∧ x = .int .u32 (Crc.steps crcP m k : Nat)) (fun _ j => 8 - (intOf j).toNat)
      case atStart =>
        refine ⟨0, by omega, rfl, val_u32 ?_⟩
        rw [Crc.steps_zero]
      case round =>
        obtain ⟨m, hm, rfl, rfl⟩ := hrel
        have hx2 := steps_lt m k (by omega)
        generalize hy : Crc.steps crcP m k = y at *
        have HY := Lib.hid hy; clear hy
        by_cases hm8 : m < 8
        · go_wp2
          all_goals
            go_round
            case rel =>
              refine ⟨m + 1, by omega, by go_num, val_u32 ?_⟩
              rw [Crc.steps_succ', HY.out]
              first
                | exact step_yes y hx2 ‹_›
                | exact step_no y hx2 ‹_›
            case measure => simp [intOf]; omega
        · have hc := tabW_cell w k k hlt
          have hf := tabW_froz w k k
          go_wp2
          go_roundw
          case rel =>
            refine ⟨k + 1, by omega, by go_num, ?_⟩
            rw [← tabW_set w k hlt, ← HY.out, show m = 8 from by omega]
          case measure => simp [intOf]; omega
    · have hn : k = 256 := by omega
      subst hn
      have h0 : (tabW w 256).heap[w.heap.size]? = some (.cells (tabOf 0) 139) := heap_alloc2_old w _ _
      go_wp2_with (first | (refine wpList_load_row rfl 139 _ rfl (w.heap.size + 1) rfl 139 (tabOf 256) _ _ (tabW_heap w 256) Try.underlying139 rfl (by kernel_rfl) ?_) | (refine wpList_store_row rfl 139 _ _ rfl w.heap.size (tabOf 256) rfl rfl 139 (tabOf 0) h0 (by kernel_rfl) (by rw [tab_size, tab_size]) (tab_one 256) ?_))
      exact bodyPost_ret (v := .agg (tabOf 256)) (results_cell_row rfl _ _ w.heap.size 139 (tabOf 256) _ _ rfl (setRow_heap _ _ _ _ _ _ h0) Try.underlying139 rfl (by kernel_rfl)) rfl
        ⟨rfl, below_setRow (((Below.refl _ _).alloc (Nat.le_refl _) _).alloc (by simp) _) (Nat.le_refl _) _⟩

/-- The state behind some bytes, by the table: the same. -/
theorem tab_step (x b : Nat) : (x / 256) ^^^ Crc.steps crcP 8 ((x % 256) ^^^ b) = Crc.steps crcP 8 (x ^^^ b) := (Crc.split8 crcP x b).symm

end Go.Proofs.Ytkpicojhnnkibaa
