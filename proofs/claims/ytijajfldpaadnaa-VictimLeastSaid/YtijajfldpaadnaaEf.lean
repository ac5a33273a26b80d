/- Epochs: the document's Ready and Forget, New, Same; slices.DeleteFunc on retired zones. -/
import Derived.Test.YtijajfldpaadnaaEe
namespace Go.Proofs.Ytijajfldpaadnaa.Ab
set_option linter.unusedVariables false
set_option linter.unusedSimpArgs false
open Go.RowKit

theorem erdy_no {g : Int} {p : List Int} {z : List (Int × Int)} (h : evalid g p z = false) : erdy g p z = (0, false) := by unfold erdy; rw [if_neg (by rw [h]; decide)]
theorem erdy_some {g : Int} {p : List Int} {z : List (Int × Int)} {x : Int × Int} (h : evalid g p z = true) (hx : z.find? (rdy (g - 2)) = some x) : erdy g p z = (x.1, true) := by unfold erdy; rw [if_pos h, hx]
theorem erdy_none {g : Int} {p : List Int} {z : List (Int × Int)} (h : evalid g p z = true) (hx : z.find? (rdy (g - 2)) = none) : erdy g p z = (0, false) := by unfold erdy; rw [if_pos h, hx]
section
variable (g : Int) (p : List Int) (z : List (Int × Int)) (hz : z.length ≤ 1000000)
include hz
set_option maxRecDepth 100000 in
set_option maxHeartbeats 16000000 in
theorem erdyF' : Fun Try.prog 43 [epA g p z] [] (.tup [i64V (erdy g p z).1, bV (erdy g p z).2]) := by
  have hvf := evalidF' g p z hz
  cases hv : evalid g p z
  · rw [erdy_no hv]
    rw [hv] at hvf
    refine fun_of_vc tabOk mixOk Try.func43 rfl (by rfl) (rs := [.tmp 2, .tmp 3]) rfl rfl 35 ?_; rw [Try.ntmps43]
    (conv => whnf); repeat (first | (refine And.intro DrawOk.go ?_; conv => whnf) | (refine And.intro rfl ?_; conv => whnf) | (refine And.intro (fun _ => ?_) (fun h => Bool.noConfusion h); conv => whnf) | (refine And.intro (fun h => Bool.noConfusion h) (fun _ => ?_); conv => whnf))
    refine ⟨_, _, hvf, ?_⟩
    (conv => whnf); repeat (first | (refine And.intro DrawOk.go ?_; conv => whnf) | (refine And.intro rfl ?_; conv => whnf) | (refine And.intro (fun _ => ?_) (fun h => Bool.noConfusion h); conv => whnf) | (refine And.intro (fun h => Bool.noConfusion h) (fun _ => ?_); conv => whnf))
    refine Exists.intro [] (And.intro List.nodup_nil ?_); ((conv => whnf); repeat (first | (refine And.intro DrawOk.go ?_; conv => whnf) | (refine And.intro rfl ?_; conv => whnf) | (refine And.intro (fun _ => ?_) (fun h => Bool.noConfusion h); conv => whnf) | (refine And.intro (fun h => Bool.noConfusion h) (fun _ => ?_); conv => whnf)))
    rfl
  rw [hv] at hvf
  have hgb := evalid_g hv
  have hw : iwrap .i64 (g - 2) = g - 2 := w64_in (by omega)
  have hs := @erdy_some g p z
  have hn := @erdy_none g p z
  generalize erdy g p z = R at hs hn ⊢
  refine fun_of_vc tabOk mixOk Try.func43 rfl (by rfl) (rs := [.tmp 2, .tmp 3]) rfl rfl 35 ?_; rw [Try.ntmps43]
  (conv => whnf); repeat (first | (refine And.intro DrawOk.go ?_; conv => whnf) | (refine And.intro rfl ?_; conv => whnf) | (refine And.intro (fun _ => ?_) (fun h => Bool.noConfusion h); conv => whnf) | (refine And.intro (fun h => Bool.noConfusion h) (fun _ => ?_); conv => whnf))
  refine ⟨_, _, hvf, ?_⟩
  (conv => whnf); repeat (first | (refine And.intro DrawOk.go ?_; conv => whnf) | (refine And.intro rfl ?_; conv => whnf) | (refine And.intro (fun _ => ?_) (fun h => Bool.noConfusion h); conv => whnf) | (refine And.intro (fun h => Bool.noConfusion h) (fun _ => ?_); conv => whnf))
  refine vc_loop [1] [1] (X := Nat) (fun k gs => [(4, ATint k)]) (fun _ _ => []) (fun k => k ≤ z.length ∧ z.find? (rdy (g - 2)) = (z.drop k).find? (rdy (g - 2))) (fun k => z.length - k) _ (Ghost.refl _) 0 ⟨by omega, rfl⟩ ?_ ?_
  · (refine And.intro rfl (And.intro rfl ?_)); (repeat' (first | exact trivial | exact rfl | apply And.intro | (refine congrArg (Value.int .i64) (w64_nat ?_); omega)))
  rintro gs k ⟨hk, ha⟩
  (conv => whnf); repeat (first | (refine And.intro DrawOk.go ?_; conv => whnf) | (refine And.intro rfl ?_; conv => whnf) | (refine And.intro (fun _ => ?_) (fun h => Bool.noConfusion h); conv => whnf) | (refine And.intro (fun h => Bool.noConfusion h) (fun _ => ?_); conv => whnf))
  refine And.intro (fun h4 => ?_) (fun h4 => ?_)
  · have hlt : k < z.length := by have := of_decide_eq_true h4; rw [zpLen] at this; omega
    rw [List.drop_eq_getElem_cons hlt, List.find?_cons] at ha
    (conv => whnf); repeat (first | (refine And.intro DrawOk.go ?_; conv => whnf) | (refine And.intro rfl ?_; conv => whnf) | (refine And.intro (fun _ => ?_) (fun h => Bool.noConfusion h); conv => whnf) | (refine And.intro (fun h => Bool.noConfusion h) (fun _ => ?_); conv => whnf))
    refine ⟨by omega, _, zpItem hlt, rfl, ?_⟩
    (conv => whnf); repeat (first | (refine And.intro DrawOk.go ?_; conv => whnf) | (refine And.intro rfl ?_; conv => whnf) | (refine And.intro (fun _ => ?_) (fun h => Bool.noConfusion h); conv => whnf) | (refine And.intro (fun h => Bool.noConfusion h) (fun _ => ?_); conv => whnf))
    rw [hw]
    refine And.intro (fun h5 => ?_) (fun h5 => ?_)
    · (conv => whnf); repeat (first | (refine And.intro DrawOk.go ?_; conv => whnf) | (refine And.intro rfl ?_; conv => whnf) | (refine And.intro (fun _ => ?_) (fun h => Bool.noConfusion h); conv => whnf) | (refine And.intro (fun h => Bool.noConfusion h) (fun _ => ?_); conv => whnf))
      refine ⟨by omega, _, zpItem hlt, rfl, ?_⟩
      (conv => whnf); repeat (first | (refine And.intro DrawOk.go ?_; conv => whnf) | (refine And.intro rfl ?_; conv => whnf) | (refine And.intro (fun _ => ?_) (fun h => Bool.noConfusion h); conv => whnf) | (refine And.intro (fun h => Bool.noConfusion h) (fun _ => ?_); conv => whnf))
      refine Exists.intro [] (And.intro List.nodup_nil ?_); ((conv => whnf); repeat (first | (refine And.intro DrawOk.go ?_; conv => whnf) | (refine And.intro rfl ?_; conv => whnf) | (refine And.intro (fun _ => ?_) (fun h => Bool.noConfusion h); conv => whnf) | (refine And.intro (fun h => Bool.noConfusion h) (fun _ => ?_); conv => whnf)))
      rw [show rdy (g - 2) z[k] = true from h5] at ha
      rw [hs hv ha]; rfl
    · (conv => whnf); repeat (first | (refine And.intro DrawOk.go ?_; conv => whnf) | (refine And.intro rfl ?_; conv => whnf) | (refine And.intro (fun _ => ?_) (fun h => Bool.noConfusion h); conv => whnf) | (refine And.intro (fun h => Bool.noConfusion h) (fun _ => ?_); conv => whnf))
      refine again (k + 1) ⟨hlt, ?_⟩ (by omega) ?_
      · rw [ha, show rdy (g - 2) z[k] = false from h5]
      · (refine And.intro rfl (And.intro rfl ?_)); (repeat' (first | exact trivial | exact rfl | apply And.intro | (refine congrArg (Value.int .i64) (w64_nat ?_); omega)))
  have hge : ¬ k < z.length := by have := of_decide_eq_false h4; rw [zpLen] at this; omega
  rw [List.drop_of_length_le (by omega)] at ha
  (conv => whnf); repeat (first | (refine And.intro DrawOk.go ?_; conv => whnf) | (refine And.intro rfl ?_; conv => whnf) | (refine And.intro (fun _ => ?_) (fun h => Bool.noConfusion h); conv => whnf) | (refine And.intro (fun h => Bool.noConfusion h) (fun _ => ?_); conv => whnf))
  refine Exists.intro [] (And.intro List.nodup_nil ?_); ((conv => whnf); repeat (first | (refine And.intro DrawOk.go ?_; conv => whnf) | (refine And.intro rfl ?_; conv => whnf) | (refine And.intro (fun _ => ?_) (fun h => Bool.noConfusion h); conv => whnf) | (refine And.intro (fun h => Bool.noConfusion h) (fun _ => ?_); conv => whnf)))
  rw [hn hv ha]; rfl
omit hz in
theorem efgt_no {n : Int} (h : ¬ ((erdy g p z).2 = true ∧ (erdy g p z).1 = n)) : efgt g p z n = (z, false) := by unfold efgt; rw [if_neg h]
omit hz in
theorem efgt_yes {n : Int} (h : (erdy g p z).2 = true ∧ (erdy g p z).1 = n) : efgt g p z n = (z.filter (zNe n), true) := by unfold efgt; rw [if_pos h]
set_option maxRecDepth 100000 in
set_option maxHeartbeats 16000000 in
theorem efgtF' (n : Int) : Fun Try.prog 94 [epA g p z, i64V n] [] (epT g (wV p) (zpR (efgt g p z n).1) (efgt g p z n).2) := by
  have hrd := erdyF' g p z hz
  have hyes := @efgt_yes g p z n
  have hno := @efgt_no g p z n
  generalize erdy g p z = R at hrd hyes hno
  generalize efgt g p z n = Y at hyes hno ⊢
  by_cases hc : R.2 = true ∧ R.1 = n
  rotate_left
  · rw [hno hc]
    refine fun_of_vc tabOk mixOk Try.func94 rfl (by rfl) (rs := [.cell 4 39, .tmp 5]) rfl rfl 53 ?_; rw [Try.ntmps94]
    (conv => whnf); repeat (first | (refine And.intro DrawOk.go ?_; conv => whnf) | (refine And.intro rfl ?_; conv => whnf) | (refine And.intro (fun _ => ?_) (fun h => Bool.noConfusion h); conv => whnf) | (refine And.intro (fun h => Bool.noConfusion h) (fun _ => ?_); conv => whnf))
    refine ⟨_, _, hrd, ?_⟩
    (conv => whnf); repeat (first | (refine And.intro DrawOk.go ?_; conv => whnf) | (refine And.intro rfl ?_; conv => whnf) | (refine And.intro (fun _ => ?_) (fun h => Bool.noConfusion h); conv => whnf) | (refine And.intro (fun h => Bool.noConfusion h) (fun _ => ?_); conv => whnf))
    repeat' (first | ((refine And.intro (fun h => ?_) (fun h => ?_)) <;> (try simp at h) <;> ((conv => whnf); repeat (first | (refine And.intro DrawOk.go ?_; conv => whnf) | (refine And.intro rfl ?_; conv => whnf) | (refine And.intro (fun _ => ?_) (fun h => Bool.noConfusion h); conv => whnf) | (refine And.intro (fun h => Bool.noConfusion h) (fun _ => ?_); conv => whnf)))) | fail)
    all_goals first
      | (refine Exists.intro [] (And.intro List.nodup_nil ?_); ((conv => whnf); repeat (first | (refine And.intro DrawOk.go ?_; conv => whnf) | (refine And.intro rfl ?_; conv => whnf) | (refine And.intro (fun _ => ?_) (fun h => Bool.noConfusion h); conv => whnf) | (refine And.intro (fun h => Bool.noConfusion h) (fun _ => ?_); conv => whnf)))
         rfl)
      | (exfalso; simp_all; done)
  rw [hyes hc]
  rw [hc.1, hc.2] at hrd
  refine fun_of_vc tabOk mixOk Try.func94 rfl (by rfl) (rs := [.cell 4 39, .tmp 5]) rfl rfl 53 ?_; rw [Try.ntmps94]
  (conv => whnf); repeat (first | (refine And.intro DrawOk.go ?_; conv => whnf) | (refine And.intro rfl ?_; conv => whnf) | (refine And.intro (fun _ => ?_) (fun h => Bool.noConfusion h); conv => whnf) | (refine And.intro (fun h => Bool.noConfusion h) (fun _ => ?_); conv => whnf))
  refine ⟨_, _, hrd, ?_⟩
  (conv => whnf); repeat (first | (refine And.intro DrawOk.go ?_; conv => whnf) | (refine And.intro rfl ?_; conv => whnf) | (refine And.intro (fun _ => ?_) (fun h => Bool.noConfusion h); conv => whnf) | (refine And.intro (fun h => Bool.noConfusion h) (fun _ => ?_); conv => whnf))
  refine And.intro (fun h => by simp at h) (fun _ => ?_)
  (conv => whnf); repeat (first | (refine And.intro DrawOk.go ?_; conv => whnf) | (refine And.intro rfl ?_; conv => whnf) | (refine And.intro (fun _ => ?_) (fun h => Bool.noConfusion h); conv => whnf) | (refine And.intro (fun h => Bool.noConfusion h) (fun _ => ?_); conv => whnf))
  refine vc_loop [1, 2, 4, 5] [2, 4] (X := Nat × List (Int × Int)) (fun x gs => [(9, ATint x.1), (8, .v (.c (.own 45 (gs 45))))]) (fun x gs => [(45, .row (gs 45) 104 2 (zpR x.2))]) (fun x => x.1 ≤ z.length ∧ x.2 = (z.take x.1).filter (zNe n)) (fun x => z.length - x.1) _ (Ghost.ownNil 8 45 104 2 rfl (Nat.le_of_ble_eq_true rfl)) (0, []) ⟨by omega, rfl⟩ ?_ ?_
  · (refine And.intro rfl (And.intro rfl ?_)); (repeat' (first | exact trivial | exact rfl | apply And.intro | (refine congrArg (Value.int .i64) (w64_nat ?_); omega)))
  rintro gs ⟨k, o⟩ ⟨hk, ho⟩
  dsimp only at hk ho ⊢
  have hol : o.length ≤ 1000000 := by
    have := List.length_filter_le (zNe n) (z.take k)
    rw [List.length_take] at this
    rw [ho]; omega
  (conv => whnf); repeat (first | (refine And.intro DrawOk.go ?_; conv => whnf) | (refine And.intro rfl ?_; conv => whnf) | (refine And.intro (fun _ => ?_) (fun h => Bool.noConfusion h); conv => whnf) | (refine And.intro (fun h => Bool.noConfusion h) (fun _ => ?_); conv => whnf))
  refine And.intro (fun h4 => ?_) (fun h4 => ?_)
  · have hlt : k < z.length := by have := of_decide_eq_true h4; rw [zpLen] at this; omega
    (conv => whnf); repeat (first | (refine And.intro DrawOk.go ?_; conv => whnf) | (refine And.intro rfl ?_; conv => whnf) | (refine And.intro (fun _ => ?_) (fun h => Bool.noConfusion h); conv => whnf) | (refine And.intro (fun h => Bool.noConfusion h) (fun _ => ?_); conv => whnf))
    refine ⟨by omega, _, zpItem hlt, rfl, ?_⟩
    (conv => whnf); repeat (first | (refine And.intro DrawOk.go ?_; conv => whnf) | (refine And.intro rfl ?_; conv => whnf) | (refine And.intro (fun _ => ?_) (fun h => Bool.noConfusion h); conv => whnf) | (refine And.intro (fun h => Bool.noConfusion h) (fun _ => ?_); conv => whnf))
    refine And.intro (fun h5 => ?_) (fun h5 => ?_)
    · (conv => whnf); repeat (first | (refine And.intro DrawOk.go ?_; conv => whnf) | (refine And.intro rfl ?_; conv => whnf) | (refine And.intro (fun _ => ?_) (fun h => Bool.noConfusion h); conv => whnf) | (refine And.intro (fun h => Bool.noConfusion h) (fun _ => ?_); conv => whnf))
      refine ⟨by omega, _, zpItem hlt, rfl, ?_⟩
      (conv => whnf); repeat (first | (refine And.intro DrawOk.go ?_; conv => whnf) | (refine And.intro rfl ?_; conv => whnf) | (refine And.intro (fun _ => ?_) (fun h => Bool.noConfusion h); conv => whnf) | (refine And.intro (fun h => Bool.noConfusion h) (fun _ => ?_); conv => whnf))
      refine ⟨zpSz [z[k]], ?_⟩
      (conv => whnf); repeat (first | (refine And.intro DrawOk.go ?_; conv => whnf) | (refine And.intro rfl ?_; conv => whnf) | (refine And.intro (fun _ => ?_) (fun h => Bool.noConfusion h); conv => whnf) | (refine And.intro (fun h => Bool.noConfusion h) (fun _ => ?_); conv => whnf))
      refine ⟨bytes_le (by decide) (by simp [zpR]; omega), ?_⟩
      (conv => whnf); repeat (first | (refine And.intro DrawOk.go ?_; conv => whnf) | (refine And.intro rfl ?_; conv => whnf) | (refine And.intro (fun _ => ?_) (fun h => Bool.noConfusion h); conv => whnf) | (refine And.intro (fun h => Bool.noConfusion h) (fun _ => ?_); conv => whnf))
      refine again (k + 1, o ++ [z[k]]) ⟨hlt, ?_⟩ (by dsimp only; omega) ?_
      · show o ++ [z[k]] = _
        rw [List.take_succ_eq_append_getElem hlt, List.filter_append, ← ho, List.filter_cons_of_pos (show zNe n z[k] = true from h5)]; rfl
      · (refine And.intro rfl (And.intro rfl ?_)); (repeat' (first | exact trivial | exact rfl | apply And.intro | (refine congrArg (Value.int .i64) (w64_nat ?_); omega)))
        all_goals exact congrArg (Blk.row _ _ _) (show zpR o ++ [zpRow z[k]] = zpR (o ++ [z[k]]) by simp [zpR])
    · (conv => whnf); repeat (first | (refine And.intro DrawOk.go ?_; conv => whnf) | (refine And.intro rfl ?_; conv => whnf) | (refine And.intro (fun _ => ?_) (fun h => Bool.noConfusion h); conv => whnf) | (refine And.intro (fun h => Bool.noConfusion h) (fun _ => ?_); conv => whnf))
      refine again (k + 1, o) ⟨hlt, ?_⟩ (by dsimp only; omega) ?_
      · show o = _
        rw [List.take_succ_eq_append_getElem hlt, List.filter_append, ← ho, List.filter_cons_of_neg (by rw [show zNe n z[k] = false from h5]; decide)]; simp
      · (refine And.intro rfl (And.intro rfl ?_)); (repeat' (first | exact trivial | exact rfl | apply And.intro | (refine congrArg (Value.int .i64) (w64_nat ?_); omega)))
  have hge : ¬ k < z.length := by have := of_decide_eq_false h4; rw [zpLen] at this; omega
  rw [List.take_of_length_le (by omega)] at ho
  subst ho
  (conv => whnf); repeat (first | (refine And.intro DrawOk.go ?_; conv => whnf) | (refine And.intro rfl ?_; conv => whnf) | (refine And.intro (fun _ => ?_) (fun h => Bool.noConfusion h); conv => whnf) | (refine And.intro (fun h => Bool.noConfusion h) (fun _ => ?_); conv => whnf))
  refine Exists.intro [] (And.intro List.nodup_nil ?_); ((conv => whnf); repeat (first | (refine And.intro DrawOk.go ?_; conv => whnf) | (refine And.intro rfl ?_; conv => whnf) | (refine And.intro (fun _ => ?_) (fun h => Bool.noConfusion h); conv => whnf) | (refine And.intro (fun h => Bool.noConfusion h) (fun _ => ?_); conv => whnf)))
  rfl
end
theorem enew_no (n : Int) (hN : ¬ (1 ≤ n ∧ n ≤ 4)) : Fun Try.prog 40 [i64V n] [] (.tup [epA 0 [] [], i64V 1]) ∧ Fun Try.prog 41 [i64V n] [] (.tup [epA 0 [] [], i64V 1]) := by
  constructor
  · refine fun_of_vc tabOk mixOk Try.func40 rfl (by rfl) (rs := [.cell 2 39, .tmp 3]) rfl rfl 27 ?_; rw [Try.ntmps40]
    (conv => whnf); repeat (first | (refine And.intro DrawOk.go ?_; conv => whnf) | (refine And.intro rfl ?_; conv => whnf) | (refine And.intro (fun _ => ?_) (fun h => Bool.noConfusion h); conv => whnf) | (refine And.intro (fun h => Bool.noConfusion h) (fun _ => ?_); conv => whnf))
    repeat' (first | ((refine And.intro (fun h => ?_) (fun h => ?_)) <;> (try simp at h) <;> ((conv => whnf); repeat (first | (refine And.intro DrawOk.go ?_; conv => whnf) | (refine And.intro rfl ?_; conv => whnf) | (refine And.intro (fun _ => ?_) (fun h => Bool.noConfusion h); conv => whnf) | (refine And.intro (fun h => Bool.noConfusion h) (fun _ => ?_); conv => whnf)))) | fail)
    all_goals first
      | (refine Exists.intro [] (And.intro List.nodup_nil ?_); ((conv => whnf); repeat (first | (refine And.intro DrawOk.go ?_; conv => whnf) | (refine And.intro rfl ?_; conv => whnf) | (refine And.intro (fun _ => ?_) (fun h => Bool.noConfusion h); conv => whnf) | (refine And.intro (fun h => Bool.noConfusion h) (fun _ => ?_); conv => whnf)))
         rfl)
      | (exfalso; omega)
  · refine fun_of_vc tabOk mixOk Try.func41 rfl (by rfl) (rs := [.cell 2 39, .tmp 3]) rfl rfl 30 ?_; rw [Try.ntmps41]
    (conv => whnf); repeat (first | (refine And.intro DrawOk.go ?_; conv => whnf) | (refine And.intro rfl ?_; conv => whnf) | (refine And.intro (fun _ => ?_) (fun h => Bool.noConfusion h); conv => whnf) | (refine And.intro (fun h => Bool.noConfusion h) (fun _ => ?_); conv => whnf))
    repeat' (first | ((refine And.intro (fun h => ?_) (fun h => ?_)) <;> (try simp at h) <;> ((conv => whnf); repeat (first | (refine And.intro DrawOk.go ?_; conv => whnf) | (refine And.intro rfl ?_; conv => whnf) | (refine And.intro (fun _ => ?_) (fun h => Bool.noConfusion h); conv => whnf) | (refine And.intro (fun h => Bool.noConfusion h) (fun _ => ?_); conv => whnf)))) | fail)
    all_goals first
      | (refine Exists.intro [] (And.intro List.nodup_nil ?_); ((conv => whnf); repeat (first | (refine And.intro DrawOk.go ?_; conv => whnf) | (refine And.intro rfl ?_; conv => whnf) | (refine And.intro (fun _ => ?_) (fun h => Bool.noConfusion h); conv => whnf) | (refine And.intro (fun h => Bool.noConfusion h) (fun _ => ?_); conv => whnf)))
         rfl)
      | (exfalso; omega)
theorem zeros (N : Nat) : List.replicate ((N : Int)).toNat [IV.sc (.int .i64 0)] = wV (List.replicate N 0) := by simp [wV]
theorem minus_set (N k : Nat) (h : k < N) : (List.replicate k (-1 : Int) ++ List.replicate (N - k) 0).set k (-1) = List.replicate (k + 1) (-1) ++ List.replicate (N - (k + 1)) 0 := by
  rw [List.set_append_right _ _ (by simp)]
  have e : N - k = (N - (k + 1)) + 1 := by omega
  rw [List.length_replicate, Nat.sub_self, e, List.replicate_succ, List.set_cons_zero, show k + 1 = k + 1 from rfl, List.replicate_succ' (n := k), List.append_assoc]
  rfl
set_option maxRecDepth 100000 in
set_option maxHeartbeats 16000000 in
theorem enewF' (N : Nat) (hN : 1 ≤ N ∧ N ≤ 4) : Fun Try.prog 41 [i64V N] [] (.tup [epA 0 (List.replicate N (-1)) [], i64V 0]) := by
  refine fun_of_vc tabOk mixOk Try.func41 rfl (by rfl) (rs := [.cell 2 39, .tmp 3]) rfl rfl 30 ?_; rw [Try.ntmps41]
  (conv => whnf); repeat (first | (refine And.intro DrawOk.go ?_; conv => whnf) | (refine And.intro rfl ?_; conv => whnf) | (refine And.intro (fun _ => ?_) (fun h => Bool.noConfusion h); conv => whnf) | (refine And.intro (fun h => Bool.noConfusion h) (fun _ => ?_); conv => whnf))
  refine And.intro (fun h => by simp at h; omega) (fun _ => ?_)
  (conv => whnf); repeat (first | (refine And.intro DrawOk.go ?_; conv => whnf) | (refine And.intro rfl ?_; conv => whnf) | (refine And.intro (fun _ => ?_) (fun h => Bool.noConfusion h); conv => whnf) | (refine And.intro (fun h => Bool.noConfusion h) (fun _ => ?_); conv => whnf))
  refine And.intro (fun h => by simp at h; omega) (fun _ => ?_)
  (conv => whnf); repeat (first | (refine And.intro DrawOk.go ?_; conv => whnf) | (refine And.intro rfl ?_; conv => whnf) | (refine And.intro (fun _ => ?_) (fun h => Bool.noConfusion h); conv => whnf) | (refine And.intro (fun h => Bool.noConfusion h) (fun _ => ?_); conv => whnf))
  refine ⟨by omega, rfl, ?_, by omega, ?_⟩
  · rw [Nat.mul_comm]; exact bytes_le (by decide) (by omega)
  (conv => whnf); repeat (first | (refine And.intro DrawOk.go ?_; conv => whnf) | (refine And.intro rfl ?_; conv => whnf) | (refine And.intro (fun _ => ?_) (fun h => Bool.noConfusion h); conv => whnf) | (refine And.intro (fun h => Bool.noConfusion h) (fun _ => ?_); conv => whnf))
  refine vc_loop [0, 2, 3, 4] [] (X := Nat) (fun k gs => [(5, ATint k)]) (fun k gs => [(4, .var 1 [.i (.sc (.int .i64 0)), .own 14 (gs 14), .nl]), (14, .row (gs 14) 3 1 (wV (List.replicate k (-1) ++ List.replicate (N - k) 0))), (2, .var 1 [.i (.sc (.int .i64 0)), .nl, .nl])]) (fun k => k ≤ N) (fun k => N - k) _ (Ghost.refl _) 0 (by omega) ?_ ?_
  · (refine And.intro rfl (And.intro rfl ?_)); (repeat' (first | exact trivial | exact rfl | apply And.intro | (refine congrArg (Value.int .i64) (w64_nat ?_); omega)))
    all_goals exact congrArg (Blk.row _ _ _) (zeros N)
  rintro gs k hk
  have hlen : (List.replicate k (-1 : Int) ++ List.replicate (N - k) 0).length = N := by simp; omega
  (conv => whnf); repeat (first | (refine And.intro DrawOk.go ?_; conv => whnf) | (refine And.intro rfl ?_; conv => whnf) | (refine And.intro (fun _ => ?_) (fun h => Bool.noConfusion h); conv => whnf) | (refine And.intro (fun h => Bool.noConfusion h) (fun _ => ?_); conv => whnf))
  refine And.intro (fun h => ?_) (fun h => ?_)
  · have hlt : k < N := by have := of_decide_eq_true h; omega
    have hs := wset (List.replicate k (-1 : Int) ++ List.replicate (N - k) 0) k (-1)
    rw [minus_set N k hlt] at hs
    (conv => whnf); repeat (first | (refine And.intro DrawOk.go ?_; conv => whnf) | (refine And.intro rfl ?_; conv => whnf) | (refine And.intro (fun _ => ?_) (fun h => Bool.noConfusion h); conv => whnf) | (refine And.intro (fun h => Bool.noConfusion h) (fun _ => ?_); conv => whnf))
    refine ⟨by omega, by rw [wLen, hlen]; omega, ?_⟩
    (conv => whnf); repeat (first | (refine And.intro DrawOk.go ?_; conv => whnf) | (refine And.intro rfl ?_; conv => whnf) | (refine And.intro (fun _ => ?_) (fun h => Bool.noConfusion h); conv => whnf) | (refine And.intro (fun h => Bool.noConfusion h) (fun _ => ?_); conv => whnf))
    refine ⟨_, wItem (by rw [hlen]; exact hlt), ?_⟩
    (conv => whnf); repeat (first | (refine And.intro DrawOk.go ?_; conv => whnf) | (refine And.intro rfl ?_; conv => whnf) | (refine And.intro (fun _ => ?_) (fun h => Bool.noConfusion h); conv => whnf) | (refine And.intro (fun h => Bool.noConfusion h) (fun _ => ?_); conv => whnf))
    refine again (k + 1) hlt (by omega) ?_
    (refine And.intro rfl (And.intro rfl ?_)); (repeat' (first | exact trivial | exact rfl | apply And.intro | (refine congrArg (Value.int .i64) (w64_nat ?_); omega)))
    all_goals exact congrArg (Blk.row _ _ _) hs
  · have hge : ¬ k < N := by have := of_decide_eq_false h; omega
    obtain rfl : k = N := by omega
    (conv => whnf); repeat (first | (refine And.intro DrawOk.go ?_; conv => whnf) | (refine And.intro rfl ?_; conv => whnf) | (refine And.intro (fun _ => ?_) (fun h => Bool.noConfusion h); conv => whnf) | (refine And.intro (fun h => Bool.noConfusion h) (fun _ => ?_); conv => whnf))
    refine Exists.intro [] (And.intro List.nodup_nil ?_); ((conv => whnf); repeat (first | (refine And.intro DrawOk.go ?_; conv => whnf) | (refine And.intro rfl ?_; conv => whnf) | (refine And.intro (fun _ => ?_) (fun h => Bool.noConfusion h); conv => whnf) | (refine And.intro (fun h => Bool.noConfusion h) (fun _ => ?_); conv => whnf)))
    rw [Nat.sub_self, List.replicate_zero, List.append_nil]
    rfl
end Go.Proofs.Ytijajfldpaadnaa.Ab
