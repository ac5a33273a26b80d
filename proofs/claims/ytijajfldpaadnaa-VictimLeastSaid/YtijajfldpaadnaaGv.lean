/- Values made of numbers: for each seat that has them. -/
import Derived.Test.YtijajfldpaadnaaGd
import Derived.Test.YtijajfldpaadnaaFs
namespace Go.Proofs.Ytijajfldpaadnaa.Ab
set_option linter.unusedVariables false
set_option linter.unusedSimpArgs false
open Go.RowKit

def gv_strV (s : ByteArray) : AV := .c (.i (.sc (.string s)))
theorem gv_cVb_len (ws : List Int) : (cVb ws).length = ws.length := by simp [cVb]
theorem gv_cVb_item {ws : List Int} {n : Int} (h : n.toNat < ws.length) : (cVb ws)[n.toNat]? = some [.sc (.int .u8 ws[n.toNat])] := by simp [cVb, h]
theorem gv_cVb_set (ws : List Int) (n : Nat) (c : Int) : (cVb ws).set n [.sc (.int .u8 c)] = cVb (ws.set n c) := by simp [cVb, List.map_set]
def vby (n : Int) (j : Nat) : Int := iwrap .u8 (dmod (iwrap .i64 (n + iwrap .i64 (j * n))) 251)
def vrow (n : Int) (k : Nat) : List Int := (List.range 16).map fun j => if j < k then vby n j else 0
theorem vrow_len (n : Int) (k : Nat) : (vrow n k).length = 16 := by simp [vrow]
theorem vrow_set (n : Int) (k : Nat) : (vrow n k).set k (vby n k) = vrow n (k + 1) := by
  apply List.ext_getElem?
  intro j
  by_cases hj : j < 16
  · by_cases hk : k = j
    · subst hk
      rw [List.getElem?_set_self (by rw [vrow_len]; exact hj)]
      simp [vrow, hj]
    · rw [List.getElem?_set_ne hk]
      simp only [vrow, List.getElem?_map, List.getElem?_range hj, Option.map_some]
      congr 1
      by_cases h1 : j < k
      · rw [if_pos h1, if_pos (by omega)]
      · rw [if_neg h1, if_neg (by omega)]
  · rw [List.getElem?_eq_none (by rw [List.length_set, vrow_len]; omega), List.getElem?_eq_none (by rw [vrow_len]; omega)]
def vval (n : Int) : ByteArray := bytesStr ((vrow n 16).set 0 (iwrap .u8 (iwrap .i64 (1 + dmod n 255))))
theorem vval_size (n : Int) : (vval n).size = 16 := by simp [vval, bytesStr, ByteArray.size, vrow_len]

set_option maxRecDepth 100000 in
set_option maxHeartbeats 4000000 in
theorem valF (n : Int) : Fun Try.prog 114 [i64V n] [] (.v (gv_strV (vval n))) := by
  refine fun_of_vc tabOk mixOk Try.func114 rfl (by rfl) (rs := [.tmp 2]) rfl rfl 34 ?_; rw [Try.ntmps114]
  (conv => whnf); repeat (first | (refine And.intro DrawOk.go ?_; conv => whnf) | (refine And.intro rfl ?_; conv => whnf) | (refine And.intro (fun _ => ?_) (fun h => Bool.noConfusion h); conv => whnf) | (refine And.intro (fun h => Bool.noConfusion h) (fun _ => ?_); conv => whnf))
  refine ⟨by decide, rfl, by decide, by decide, ?_⟩
  (conv => whnf); repeat (first | (refine And.intro DrawOk.go ?_; conv => whnf) | (refine And.intro rfl ?_; conv => whnf) | (refine And.intro (fun _ => ?_) (fun h => Bool.noConfusion h); conv => whnf) | (refine And.intro (fun h => Bool.noConfusion h) (fun _ => ?_); conv => whnf))
  refine vc_loop [0, 2, 3] [] (X := Nat) (fun k gs => [(4, ATint k)]) (fun k _ => [(5, .row 1 5 1 (cVb (vrow n k)))]) (fun k => k ≤ 16) (fun k => 16 - k) _ (Ghost.refl _) 0 (by omega) ?_ ?_
  · (refine And.intro rfl (And.intro rfl ?_)); (repeat' (first | exact trivial | exact rfl | apply And.intro | (refine congrArg (Value.int .i64) (w64_nat ?_); omega)))
  rintro gs k hk
  (conv => whnf); repeat (first | (refine And.intro DrawOk.go ?_; conv => whnf) | (refine And.intro rfl ?_; conv => whnf) | (refine And.intro (fun _ => ?_) (fun h => Bool.noConfusion h); conv => whnf) | (refine And.intro (fun h => Bool.noConfusion h) (fun _ => ?_); conv => whnf))
  refine And.intro (fun h4 => ?_) (fun h4 => ?_)
  · have hlt : k < 16 := by have := of_decide_eq_true h4; rw [gv_cVb_len, vrow_len] at this; omega
    (conv => whnf); repeat (first | (refine And.intro DrawOk.go ?_; conv => whnf) | (refine And.intro rfl ?_; conv => whnf) | (refine And.intro (fun _ => ?_) (fun h => Bool.noConfusion h); conv => whnf) | (refine And.intro (fun h => Bool.noConfusion h) (fun _ => ?_); conv => whnf))
    refine ⟨_, _, modF _ _, ?_⟩
    (conv => whnf); repeat (first | (refine And.intro DrawOk.go ?_; conv => whnf) | (refine And.intro rfl ?_; conv => whnf) | (refine And.intro (fun _ => ?_) (fun h => Bool.noConfusion h); conv => whnf) | (refine And.intro (fun h => Bool.noConfusion h) (fun _ => ?_); conv => whnf))
    refine ⟨by omega, by rw [gv_cVb_len, vrow_len]; omega, ?_⟩
    (conv => whnf); repeat (first | (refine And.intro DrawOk.go ?_; conv => whnf) | (refine And.intro rfl ?_; conv => whnf) | (refine And.intro (fun _ => ?_) (fun h => Bool.noConfusion h); conv => whnf) | (refine And.intro (fun h => Bool.noConfusion h) (fun _ => ?_); conv => whnf))
    refine ⟨_, gv_cVb_item (by rw [vrow_len]; omega), ?_⟩
    (conv => whnf); repeat (first | (refine And.intro DrawOk.go ?_; conv => whnf) | (refine And.intro rfl ?_; conv => whnf) | (refine And.intro (fun _ => ?_) (fun h => Bool.noConfusion h); conv => whnf) | (refine And.intro (fun h => Bool.noConfusion h) (fun _ => ?_); conv => whnf))
    refine again (k + 1) hlt (by omega) ?_
    (refine And.intro rfl (And.intro rfl ?_)); (repeat' (first | exact trivial | exact rfl | apply And.intro | (refine congrArg (Value.int .i64) (w64_nat ?_); omega)))
    exact congrArg (Blk.row _ _ _) (by rw [← vrow_set, ← gv_cVb_set]; rfl)
  · have hge : 16 ≤ k := by have := of_decide_eq_false h4; rw [gv_cVb_len, vrow_len] at this; omega
    obtain rfl : k = 16 := by omega
    (conv => whnf); repeat (first | (refine And.intro DrawOk.go ?_; conv => whnf) | (refine And.intro rfl ?_; conv => whnf) | (refine And.intro (fun _ => ?_) (fun h => Bool.noConfusion h); conv => whnf) | (refine And.intro (fun h => Bool.noConfusion h) (fun _ => ?_); conv => whnf))
    refine ⟨_, _, modF _ _, ?_⟩
    (conv => whnf); repeat (first | (refine And.intro DrawOk.go ?_; conv => whnf) | (refine And.intro rfl ?_; conv => whnf) | (refine And.intro (fun _ => ?_) (fun h => Bool.noConfusion h); conv => whnf) | (refine And.intro (fun h => Bool.noConfusion h) (fun _ => ?_); conv => whnf))
    refine ⟨by decide, by rw [gv_cVb_len, vrow_len]; decide, ?_⟩
    (conv => whnf); repeat (first | (refine And.intro DrawOk.go ?_; conv => whnf) | (refine And.intro rfl ?_; conv => whnf) | (refine And.intro (fun _ => ?_) (fun h => Bool.noConfusion h); conv => whnf) | (refine And.intro (fun h => Bool.noConfusion h) (fun _ => ?_); conv => whnf))
    refine ⟨_, gv_cVb_item (by rw [vrow_len]; decide), ?_⟩
    (conv => whnf); repeat (first | (refine And.intro DrawOk.go ?_; conv => whnf) | (refine And.intro rfl ?_; conv => whnf) | (refine And.intro (fun _ => ?_) (fun h => Bool.noConfusion h); conv => whnf) | (refine And.intro (fun h => Bool.noConfusion h) (fun _ => ?_); conv => whnf))
    refine ⟨_, (gv_cVb_set _ _ _), ?_⟩
    (conv => whnf); repeat (first | (refine And.intro DrawOk.go ?_; conv => whnf) | (refine And.intro rfl ?_; conv => whnf) | (refine And.intro (fun _ => ?_) (fun h => Bool.noConfusion h); conv => whnf) | (refine And.intro (fun h => Bool.noConfusion h) (fun _ => ?_); conv => whnf))
    refine Exists.intro [] (And.intro List.nodup_nil ?_); ((conv => whnf); repeat (first | (refine And.intro DrawOk.go ?_; conv => whnf) | (refine And.intro rfl ?_; conv => whnf) | (refine And.intro (fun _ => ?_) (fun h => Bool.noConfusion h); conv => whnf) | (refine And.intro (fun h => Bool.noConfusion h) (fun _ => ?_); conv => whnf)))
    rfl

end Go.Proofs.Ytijajfldpaadnaa.Ab
