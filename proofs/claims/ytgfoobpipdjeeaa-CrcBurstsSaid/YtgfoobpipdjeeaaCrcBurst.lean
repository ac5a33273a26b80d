/- The third law of the checksum: what its call does. -/
import Derived.Test.YtgfoobpipdjeeaaCrcLaw1
namespace Go.Proofs.Ytgfoobpipdjeeaa
open Go.RowKit

namespace Crc
theorem num_set : ∀ (l : List Nat) (q e : Nat) (h : q < l.length), num (l.set q (l[q] ^^^ e)) = num l ^^^ e * 2 ^ (8 * q)
  | b :: l, 0, e, _ => by
    simp only [List.set_cons_zero, num, List.getElem_cons_zero, Nat.mul_zero, Nat.pow_zero, Nat.mul_one]
    rw [Nat.xor_assoc, Nat.xor_comm e, ← Nat.xor_assoc]
  | b :: l, q + 1, e, h => by
    have h' : q < l.length := by simpa using h
    have ih := num_set l q e h'
    simp only [List.set_cons_succ, num, List.getElem_cons_succ]
    rw [ih, xor_mul_pow, ← Nat.xor_assoc]
    congr 1
    rw [Nat.mul_assoc, ← Nat.pow_add]
    congr 2

theorem mod_yes (c i : Nat) (h : c / 2 ^ i % 2 = 1) : c % 2 ^ (i + 1) = c % 2 ^ i ^^^ 2 ^ i := by
  have h1 : c % 2 ^ (i + 1) = c % 2 ^ i + 2 ^ i * (c / 2 ^ i % 2) := by rw [Nat.pow_succ, Nat.mod_mul]
  have h2 := split_bits i (c % 2 ^ (i + 1))
  have hp : 0 < 2 ^ i := Nat.two_pow_pos i
  have hlt : c % 2 ^ i < 2 ^ i := Nat.mod_lt _ hp
  have e1 : c % 2 ^ (i + 1) / 2 ^ i = 1 := by
    rw [h1, h, Nat.mul_one, Nat.add_div_right _ hp, Nat.div_eq_of_lt hlt]
  have e2 : c % 2 ^ (i + 1) % 2 ^ i = c % 2 ^ i := by
    rw [h1, h, Nat.mul_one, Nat.add_mod_right, Nat.mod_eq_of_lt hlt]
  rw [e1, e2, Nat.one_mul, Nat.xor_comm] at h2
  exact h2
theorem mod_no (c i : Nat) (h : c / 2 ^ i % 2 = 0) : c % 2 ^ (i + 1) = c % 2 ^ i := by
  rw [Nat.pow_succ, Nat.mod_mul, h]; simp
end Crc

theorem ret_i64 {a b : Int} (h : a = b) : Ending.returned (.int .i64 a) = .returned (.int .i64 b) := by rw [h]
set_option maxHeartbeats 400000 in
theorem mod_any (x n : Int) (w : World) (hx : -9223372036854775808 ≤ x ∧ x ≤ 9223372036854775807) (hn : 1 ≤ n ∧ n ≤ 4611686018427387904) :
    Calls Try.prog 11 #[.int .i64 x, .int .i64 n] w fun e w' => e = .returned (.int .i64 (x % n)) ∧ w = w' := by
  have hb := Int.emod_nonneg x (show n ≠ 0 by omega)
  have hb2 := Int.emod_lt_of_pos x (show 0 < n by omega)
  go_enter Try.func11, Try.ntmps11
  go_wp2
  go_ret
  refine ⟨ret_i64 ?_, rfl⟩
  have e1 := Int.lt_tmod_of_pos x (show 0 < n by omega)
  have e2 := Int.tmod_lt_of_pos x (show 0 < n by omega)
  rw [IntWalk.wrap64_in _ (by omega), Int.tmod_eq_emod_of_nonneg (by omega), Int.add_emod_right, Int.tmod_def]
  exact Int.sub_mul_emod_self_left _ _ _

/-- What the law's loop knows behind i rounds: the bytes m in block B. -/
def Burst (B : Nat) (W : World) (l : List Nat) (c at_ i : Nat) (wr : World) : Prop :=
  ∃ (m : List Nat) (C : Array Value) (fr : Nat × Nat), m.length = l.length ∧ (∀ b ∈ m, b < 256) ∧ Crc.num m = Crc.num l ^^^ (c % 2 ^ i) * 2 ^ at_ ∧
    wr.heap[B]? = some (.cells C 5 fr) ∧ C.size ≤ fr.1 ∧ (∀ j (h : j < m.length), C[j]? = some (.int .u8 (m[j] : Nat))) ∧ Below B W wr

theorem bs_get (s : ByteArray) (j : Nat) (h : j < (bs s).length) (h' : j < s.data.size) : (bs s)[j] = s.data[j].toNat := by
  simp [bs]

theorem burst_start (w : World) (s : ByteArray) (c k cap : Nat) :
    Burst w.heap.size w (bs s) c k 0 (w.alloc (Obj.cells (bytesRow s cap) 5 ((bytesRow s cap).size, (bytesRow s cap).size + 1))).drew := by
  refine ⟨bs s, bytesRow s cap, _, rfl, bs_lt s, ?_, heap_alloc_new w _, Nat.le_refl _, ?_, ((Below.refl _ _).alloc (Nat.le_refl _) _).drew⟩
  · rw [Nat.pow_zero, Nat.mod_one, Nat.zero_mul, Nat.xor_zero]
  · intro j h
    have h' : j < s.data.size := by rw [bs_len] at h; exact h
    rw [bytesRow_at s cap j h', bs_get s j h h']

theorem bit_test (c j : Nat) (hc : c < 4294967296) : (bits BinOp.and IntKind.u32 ((c : Int) / 2 ^ j) 1 == 1) = decide (c / 2 ^ j % 2 = 1) := by
  have hle : c / 2 ^ j ≤ c := Nat.div_le_self _ _
  have h1 := u32_and_nat (c / 2 ^ j) 1 (by omega) (by decide)
  rw [nat_mask1] at h1
  have e : ((c / 2 ^ j : Nat) : Int) = (c : Int) / 2 ^ j := by simp
  rw [e] at h1
  rw [show ((1 : Nat) : Int) = 1 from rfl] at h1
  rw [h1]
  rcases Nat.mod_two_eq_zero_or_one (c / 2 ^ j) with h | h <;> rw [h] <;> decide

theorem xor_bit (x i : Nat) (hx : x < 256) : bits BinOp.xor IntKind.u8 (x : Int) ((2 : Int) ^ (i % 8) % 256) = ((x ^^^ 2 ^ (i % 8) : Nat) : Int) := by
  have h2p : 2 ^ (i % 8) < 256 := by
    have : 2 ^ (i % 8) ≤ 2 ^ 7 := Nat.pow_le_pow_right (by decide) (by omega)
    omega
  have e : ((2 : Int) ^ (i % 8) % 256) = ((2 ^ (i % 8) : Nat) : Int) := by
    rw [Int.natCast_pow]
    have : ((2 ^ (i % 8) : Nat) : Int) < 256 := by omega
    rw [Int.natCast_pow] at this
    exact Int.emod_eq_of_lt (by exact_mod_cast Nat.zero_le _) this
  rw [e]
  exact u8_xor_nat x _ hx h2p

theorem back_cell (m : List Nat) (g2 : ∀ b ∈ m, b < 256) (i : Nat) (hi : i < m.length) (hi2 : i < (m.map UInt8.ofNat).length) :
    Value.int .u8 (m[i] : Nat) = .int .u8 ((m.map UInt8.ofNat)[i].toNat : Nat) := by
  have := g2 _ (List.getElem_mem hi)
  rw [List.getElem_map, UInt8.toNat_ofNat']
  congr 2
  omega

theorem bs_back (m : List Nat) (g2 : ∀ b ∈ m, b < 256) : bs ⟨(m.map UInt8.ofNat).toArray⟩ = m := by
  unfold bs
  apply List.ext_getElem
  · simp
  · intro i h1 h2
    have := g2 _ (List.getElem_mem h2)
    simp only [List.getElem_map, UInt8.toNat_ofNat']
    omega

theorem bursts_plain (s : ByteArray) (m : List Nat) (c k : Nat) (g1 : m.length = s.size) (g2 : ∀ b ∈ m, b < 256) (g3 : Crc.num m = Crc.num (bs s) ^^^ c * 2 ^ k) (hc : c < 4294967296) (hc0 : c ≠ 0)
    (hk : k ≤ 8 * s.size) : Crc.add P O 0 (bs ⟨(m.map UInt8.ofNat).toArray⟩) ≠ Crc.add P O 0 (bs s) := by
  rw [bs_back m g2]
  exact Crc.add_burst P O 31 P_bd.1 P_bd.2 0 (bs s) m (by rw [bs_len]; exact g1) k c (by rw [e32]; exact hc) hc0 (by rw [bs_len]; exact hk) g3

theorem burst_no {B : Nat} {W wr : World} {l : List Nat} {c k j : Nat} (h : Burst B W l c k j wr) (hb : ¬ c / 2 ^ j % 2 = 1) : Burst B W l c k (j + 1) wr := by
  obtain ⟨m, C, fr, h1, h2, h3, r⟩ := h
  exact ⟨m, C, fr, h1, h2, by rw [Crc.mod_no c j (by omega)]; exact h3, r⟩

theorem burst_yes {B : Nat} {W wr : World} {l : List Nat} {c k j : Nat} (h : Burst B W l c k j wr) (hb : c / 2 ^ j % 2 = 1) (hq : (k + j) / 8 < l.length) :
    ∃ x : Nat, x < 256 ∧ wr.cell? ⟨B, (k + j) / 8, none⟩ = some (.int .u8 x) ∧ wr.frozen? ⟨B, (k + j) / 8, none⟩ = false ∧
      Burst B W l c k (j + 1) (wr.setCell ⟨B, (k + j) / 8, none⟩ (.int .u8 (x ^^^ 2 ^ ((k + j) % 8) : Nat))) := by
  obtain ⟨m, C, fr, h1, h2, h3, h4, h5, h6, h7⟩ := h
  have hq' : (k + j) / 8 < m.length := by omega
  have hmb := h2 _ (List.getElem_mem hq')
  have hCs := h6 _ hq'
  have hCl : (k + j) / 8 < C.size := by
    rcases Nat.lt_or_ge ((k + j) / 8) C.size with hh | hh
    · exact hh
    · rw [Array.getElem?_eq_none hh] at hCs; cases hCs
  have h2p : 2 ^ ((k + j) % 8) < 256 := by
    have : 2 ^ ((k + j) % 8) ≤ 2 ^ 7 := Nat.pow_le_pow_right (by decide) (by omega)
    omega
  refine ⟨m[(k + j) / 8], hmb, by rw [cell_of_row _ _ _ _ _ _ h4]; exact hCs, ?_, ?_⟩
  · simp only [World.frozen?, h4]
    rw [decide_eq_false (by omega)]; rfl
  · refine ⟨m.set ((k + j) / 8) (m[(k + j) / 8] ^^^ 2 ^ ((k + j) % 8)), C.setIfInBounds ((k + j) / 8) (.int .u8 (m[(k + j) / 8] ^^^ 2 ^ ((k + j) % 8) : Nat)), fr, by simpa using h1, ?_, ?_, ?_, ?_, ?_, ?_⟩
    · intro b hb'
      rcases List.mem_or_eq_of_mem_set hb' with hh | hh
      · exact h2 b hh
      · rw [hh]; exact Nat.xor_lt_two_pow (n := 8) hmb h2p
    · rw [Crc.num_set _ _ _ hq', h3, Crc.mod_yes c j hb, Crc.xor_mul_pow, ← Nat.xor_assoc]
      congr 1
      rw [← Nat.pow_add, ← Nat.pow_add]
      congr 1
      omega
    · rw [setCell_eq_setRow _ _ _ _ _ _ _ h4]
      exact setRow_heap _ _ _ _ _ _ h4
    · rw [Array.size_setIfInBounds]; exact h5
    · intro i hi
      rw [Array.getElem?_setIfInBounds]
      by_cases e : (k + j) / 8 = i
      · subst e; rw [if_pos rfl, if_pos hCl]; simp
      · rw [if_neg e, List.getElem_set_ne e]
        exact h6 i (by simpa using hi)
    · exact h7.setCell (Nat.le_refl _) _

set_option maxRecDepth 100000 in
set_option maxHeartbeats 400000 in
theorem crcBursts.walk (s : ByteArray) (hs' : s.size ≤ 140737488351232) (a1 : Int) (w1 : (Lit.int .i64 a1).wf = true) (a2 : Int) (w2 : (Lit.int .u32 a2).wf = true) (w : World) :
    Calls Try.prog 5 #[.string s, .int .i64 a1, .int .u32 a2] w (True1 w) := by
  obtain ⟨c, rfl, hc⟩ := bd_u32 w2
  have hs : s.size ≤ maxLen := by unfold maxLen; omega
  have ha : -9223372036854775808 ≤ a1 ∧ a1 ≤ 9223372036854775807 := by simpa [Lit.wf, IntKind.min, IntKind.max, IntKind.signed, IntKind.bits] using w1
  by_cases hlen : s.size < 5 ∨ 2000 < s.size ∨ c = 0
  · rcases Nat.lt_or_ge s.size 5 with h5 | h5
    · clear hlen
      go_enter Try.func5, Try.ntmps5
      go_wp2_with (go_at_call 6; refine (awake_any _).mono ?_; rintro e w1 ⟨rfl, hb1⟩)
      go_ret
      exact ⟨rfl, hb1⟩
    · rcases Nat.lt_or_ge 2000 s.size with h6 | h6
      · clear hlen
        go_enter Try.func5, Try.ntmps5
        go_wp2_with (go_at_call 6; refine (awake_any _).mono ?_; rintro e w1 ⟨rfl, hb1⟩)
        go_ret
        exact ⟨rfl, hb1⟩
      · obtain rfl : c = 0 := by omega
        clear hlen
        go_enter Try.func5, Try.ntmps5
        go_wp2_with (go_at_call 6; refine (awake_any _).mono ?_; rintro e w1 ⟨rfl, hb1⟩)
        go_ret
        exact ⟨rfl, hb1⟩
  · have h1 : 5 ≤ s.size := by omega
    have h2 : s.size ≤ 2000 := by omega
    have h3 : ((c : Int) == 0) = false := by rw [beq_eq_false_iff_ne]; omega
    have hh := Lib.hid hlen; clear hlen
    have hk0 := Int.emod_nonneg a1 (show (8 * ((s.size : Int) - 4)) ≠ 0 by omega)
    have hk1 := Int.emod_lt_of_pos a1 (show 0 < 8 * ((s.size : Int) - 4) by omega)
    have hcv := run_bytes_of_string (P := Try.prog) w 9 29 5 s Try.underlying9 Try.underlying29 Try.underlying5
    go_enter Try.func5, Try.ntmps5
    go_wp2_with fail
    refine (mod_any _ _ w ha (by omega)).mono ?_; rintro e w1 ⟨rfl, rfl⟩
    generalize hq : a1 % (8 * ((s.size : Int) - 4)) = q at *
    clear hq
    obtain ⟨k, rfl⟩ := Int.eq_ofNat_of_zero_le hk0
    go_wp2_with fail
    generalize hw0 : (w.alloc (Obj.cells (bytesRow s (grownCap w s.size 0 5)) 5 ((bytesRow s (grownCap w s.size 0 5)).size, (bytesRow s (grownCap w s.size 0 5)).size + 1))).drew = w0
    have hB0 : Burst w.heap.size w (bs s) c k 0 w0 := by
      subst hw0
      exact burst_start w s c k _
    clear hw0 hcv
    go_loopw [9] (fun i wr => ∃ j : Nat, j ≤ 32 ∧ i = .int .i64 j ∧ Burst w.heap.size w (bs s) c k j wr) (fun i _ => 32 - (intOf i).toNat)
    case atStart => exact ⟨0, by omega, rfl, hB0⟩
    case round =>
      obtain ⟨j, hj, rfl, hB⟩ := hrel
      by_cases hlt : j < 32
      · have hmin : min j 32 = j := by omega
        have hbt := bit_test c j hc
        by_cases hbit : c / 2 ^ j % 2 = 1
        · rw [decide_eq_true hbit] at hbt
          obtain ⟨x, hx, hcell, hfz, hnext⟩ := burst_yes hB hbit (by rw [bs_len]; omega)
          go_wp2
          go_roundw
          case rel =>
            refine ⟨j + 1, by omega, by go_num, ?_⟩
            rw [xor_bit x _ hx]
            exact hnext
          case measure => simp [intOf]; omega
        · rw [decide_eq_false hbit] at hbt
          go_wp2
          go_roundw
          case rel => exact ⟨j + 1, by omega, by go_num, burst_no hB hbit⟩
          case measure => simp [intOf]; omega
      · obtain rfl : j = 32 := by omega
        obtain ⟨m, C, fr, g1, g2, g3, g4, g5, g6, g7⟩ := hB
        rw [Nat.mod_eq_of_lt (show c < 2 ^ 32 by rw [p32]; exact hc)] at g3
        rw [bs_len] at g1
        go_wp2_with fail
        refine (awake_any _).mono ?_; rintro e w1 ⟨rfl, hb1⟩
        have hBl : w.heap.size < wr.heap.size := by
          rcases Nat.lt_or_ge w.heap.size wr.heap.size with hh | hh
          · exact hh
          · rw [Array.getElem?_eq_none hh] at g4; cases g4
        have hback := run_convert_bytes_back (P := Try.prog) w1 29 9 5 ⟨w.heap.size, 0, none⟩ (grownCap w s.size 0 5) (m.map UInt8.ofNat) Try.underlying29 Try.underlying5 Try.underlying9 (by
          intro i hi
          have hi' : i < m.length := by simpa using hi
          rw [show (⟨w.heap.size, 0, none⟩ : Addr).add i = ⟨w.heap.size, i, none⟩ from by unfold Addr.add; split <;> simp_all, hb1.cell (p := ⟨w.heap.size, i, none⟩) hBl, cell_of_row _ _ _ _ _ _ g4, g6 i hi', back_cell m g2 i hi' hi])
        rw [List.length_map, g1] at hback
        have hne := bursts_plain s m c k g1 g2 g3 hc (fun e => hh.out (Or.inr (Or.inr e))) (by omega)
        have hms : ByteArray.size ⟨(m.map UInt8.ofNat).toArray⟩ ≤ maxLen := by
          show (m.map UInt8.ofNat).toArray.size ≤ maxLen
          rw [List.size_toArray, List.length_map, g1]; exact hs
        generalize (⟨(m.map UInt8.ofNat).toArray⟩ : ByteArray) = s' at *
        have HNE := Lib.hid hne; clear hne
        go_wp2_with fail
        refine (sum_any s' w1 hms).mono ?_; rintro e w2 ⟨rfl, hb2⟩
        go_wp2_with fail
        refine (sum_any s w2 hs).mono ?_; rintro e w3 ⟨rfl, hb3⟩
        have hne2 : ((Crc.add P O 0 (bs s') : Nat) : Int) ≠ ((Crc.add P O 0 (bs s) : Nat) : Int) := fun e => HNE.out (by exact_mod_cast e)
        have hne3 : (((Crc.add P O 0 (bs s') : Nat) : Int) != ((Crc.add P O 0 (bs s) : Nat) : Int)) = true := by rw [bne_iff_ne]; exact hne2
        clear hne2
        go_wp2
        go_ret
        exact ⟨rfl, ((g7.trans (hb1.mono g7.size)).trans (hb2.mono (Nat.le_trans g7.size hb1.size))).trans (hb3.mono (Nat.le_trans (Nat.le_trans g7.size hb1.size) hb2.size))⟩
end Go.Proofs.Ytgfoobpipdjeeaa
