/- Dice: numbers that are given out one after the other; for each seat that has them. -/
import Derived.Test.YtccplchebbkliaaDoorGb
namespace Go.Proofs.YtccplchebbkliaaDoor.Ab
set_option linter.unusedVariables false
set_option linter.unusedSimpArgs false
open Go.RowKit

def dmod (x n : Int) : Int := if n < 1 then 0 else (iwrap .i64 (x.tmod n + n)).tmod n
theorem dmod_in {x n : Int} (h : 1 ≤ n) (h2 : n ≤ 1099511627776) : 0 ≤ dmod x n ∧ dmod x n < n := by
  unfold dmod
  rw [if_neg (by omega)]
  have h3 : x.tmod n < n := Int.tmod_lt_of_pos _ (by omega)
  have h4 : -n < x.tmod n := by
    have := Int.tmod_lt_of_pos (-x) (b := n) (by omega)
    rw [Int.neg_tmod] at this
    omega
  rw [show iwrap .i64 (x.tmod n + n) = x.tmod n + n from w64_in (by omega)]
  exact ⟨Int.tmod_nonneg _ (by omega), Int.tmod_lt_of_pos _ (by omega)⟩
def dcs (L : List Int) (k : Nat) : List AV1 := [.i (.sl (wV L)), .i (.sc (.int .i64 k))]
def dnx (L : List Int) (k : Nat) : Nat := if k < L.length then k + 1 else k
def dval (L : List Int) (k : Nat) (n : Int) : Int := match L[k]? with | some x => dmod x n | none => 0
theorem dval_in (L : List Int) (k : Nat) {n : Int} (h : 1 ≤ n) (h2 : n ≤ 1099511627776) : 0 ≤ dval L k n ∧ dval L k n < n := by
  unfold dval
  split
  · exact dmod_in h h2
  · omega
theorem dnx_le {L : List Int} {k : Nat} (h : k ≤ L.length) : dnx L k ≤ L.length := by unfold dnx; split <;> omega

end Go.Proofs.YtccplchebbkliaaDoor.Ab
