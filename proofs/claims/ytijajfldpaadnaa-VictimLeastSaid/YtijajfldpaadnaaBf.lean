/- Numbers as bytes: a number is read back. -/
import Derived.Test.YtijajfldpaadnaaBe
namespace Go.Proofs.Ytijajfldpaadnaa.Ab
set_option linter.unusedVariables false
set_option linter.unusedSimpArgs false
open Go.RowKit

theorem dmod_in2 {x n : Int} (h : 1 ≤ n) (h2 : n ≤ 4611686018427387904) : 0 ≤ dmod x n ∧ dmod x n < n := by
  unfold dmod
  rw [if_neg (by omega)]
  have h3 : x.tmod n < n := Int.tmod_lt_of_pos _ (by omega)
  have h4 : -n < x.tmod n := by
    have := Int.tmod_lt_of_pos (-x) (b := n) (by omega)
    rw [Int.neg_tmod] at this
    omega
  rw [show iwrap .i64 (x.tmod n + n) = x.tmod n + n from w64_in (by omega)]
  exact ⟨Int.tmod_nonneg _ (by omega), Int.tmod_lt_of_pos _ (by omega)⟩
theorem le500 {x y : Nat} (h : decide ((x : Int) + (y : Int) > 500) = false) : x + y ≤ 500 := by have := of_decide_eq_false h; omega
theorem sget_mid {b a : ByteArray} {m k : Nat} (h1 : 1 ≤ k) (h7 : k ≤ 7) (hm : m < 256 ^ k) : sget (b ++ sS (putB m k) ++ a) b.size k = ((m : Int), 0) := by
  rw [sget_ok h1 h7 (by rw [← sL_len (b ++ sS (putB m k) ++ a), sL_append, sL_append, sL_S, List.length_append, List.length_append, putB_len, sL_len]; omega)]
  rw [sL_append, sL_append, sL_S, List.append_assoc, List.drop_left' (sL_len b), List.take_left' (putB_len m k), getN_putB k m hm]
end Go.Proofs.Ytijajfldpaadnaa.Ab
