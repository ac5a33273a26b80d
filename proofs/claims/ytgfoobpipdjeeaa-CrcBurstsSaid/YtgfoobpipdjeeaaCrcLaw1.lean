/- The laws of the checksum: what their calls do. -/
import Derived.Test.YtgfoobpipdjeeaaCrcAdd
namespace Go.Proofs.Ytgfoobpipdjeeaa
open Go.RowKit

theorem bd_u32 {n : Int} (h : (Lit.int .u32 n).wf = true) : ∃ k : Nat, n = k ∧ k < 4294967296 := by
  have : 0 ≤ n ∧ n ≤ 4294967295 := by simpa [Lit.wf, IntKind.min, IntKind.max, IntKind.signed, IntKind.bits] using h
  exact ⟨n.toNat, by omega, by omega⟩

set_option maxHeartbeats 400000 in
theorem crcExact.walk (a0 : Int) (w0 : (Lit.int .u32 a0).wf = true) (s : ByteArray) (hs' : s.size ≤ 140737488351232) (w : World) :
    Calls Try.prog 3 #[.int .u32 a0, .string s] w (True1 w) := by
  obtain ⟨x, rfl, hx⟩ := bd_u32 w0
  have hs : s.size ≤ maxLen := by unfold maxLen; omega
  by_cases hlen : 2000 < s.size
  · go_enter Try.func3, Try.ntmps3
    go_wp2_with (go_at_call 6; refine (awake_any _).mono ?_; rintro e w1 ⟨rfl, hb1⟩)
    go_ret
    exact ⟨rfl, hb1⟩
  · go_enter Try.func3, Try.ntmps3
    go_wp2_with fail
    refine (awake_any w).mono ?_; rintro e w1 ⟨rfl, hb1⟩
    go_wp2_with fail
    refine (add_any x s w1 hx hs).mono ?_; rintro e w2 ⟨rfl, hb2⟩
    go_wp2_with fail
    refine (refAdd_any x s w2 hx hs).mono ?_; rintro e w3 ⟨rfl, rfl⟩
    generalize Crc.add P O x (bs s) = y
    go_wp2_with fail
    refine (sum_any s w2 hs).mono ?_; rintro e w3 ⟨rfl, hb3⟩
    go_wp2_with fail
    refine (refSum_any s w3 hs).mono ?_; rintro e w4 ⟨rfl, rfl⟩
    generalize Crc.add P O 0 (bs s) = z
    go_wp2
    go_ret
    exact ⟨rfl, (hb1.trans (hb2.mono hb1.size)).trans (hb3.mono (Nat.le_trans hb1.size hb2.size))⟩

theorem bs_append (s t : ByteArray) : bs (s ++ t) = bs s ++ bs t := by
  unfold bs; rw [ByteArray.data_append]; simp

set_option maxHeartbeats 400000 in
theorem crcParts.walk (a0 : Int) (w0 : (Lit.int .u32 a0).wf = true) (s : ByteArray) (hs' : s.size ≤ 140737488351232) (t : ByteArray) (ht' : t.size ≤ 140737488351232) (w : World) :
    Calls Try.prog 4 #[.int .u32 a0, .string s, .string t] w (True1 w) := by
  obtain ⟨x, rfl, hx⟩ := bd_u32 w0
  have hs : s.size ≤ maxLen := by unfold maxLen; omega
  have ht : t.size ≤ maxLen := by unfold maxLen; omega
  by_cases hlen : 2000 < s.size + t.size
  · go_enter Try.func4, Try.ntmps4
    go_wp2_with (go_at_call 6; refine (awake_any _).mono ?_; rintro e w1 ⟨rfl, hb1⟩)
    go_ret
    exact ⟨rfl, hb1⟩
  · go_enter Try.func4, Try.ntmps4
    go_wp2_with fail
    refine (awake_any w).mono ?_; rintro e w1 ⟨rfl, hb1⟩
    go_wp2_with fail
    refine (add_any x s w1 hx hs).mono ?_; rintro e w2 ⟨rfl, hb2⟩
    go_wp2_with fail
    refine (add_any _ t w2 (add_lt x s hx) ht).mono ?_; rintro e w3 ⟨rfl, hb3⟩
    rw [Crc.add_append, ← bs_append]
    go_wp2_with fail
    refine (add_any x (s ++ t) w3 hx (by unfold maxLen; rw [ByteArray.size_append]; omega)).mono ?_; rintro e w4 ⟨rfl, hb4⟩
    generalize Crc.add P O x (bs (s ++ t)) = y
    go_wp2
    go_ret
    exact ⟨rfl, ((hb1.trans (hb2.mono hb1.size)).trans (hb3.mono (Nat.le_trans hb1.size hb2.size))).trans (hb4.mono (Nat.le_trans (Nat.le_trans hb1.size hb2.size) hb3.size))⟩

end Go.Proofs.Ytgfoobpipdjeeaa
