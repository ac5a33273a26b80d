/- Lists of numbers: Insert. -/
import Derived.Test.YtijajfldpaadnaaPc
namespace Go.Proofs.Ytijajfldpaadnaa.Ab
set_option linter.unusedVariables false
set_option linter.unusedSimpArgs false
open Go.RowKit

set_option maxRecDepth 100000 in
set_option maxHeartbeats 16000000 in
theorem insertF (l : List Int) (i : Nat) (x : Int) (hi : i ≤ l.length) (hl : l.length ≤ 100000) : Fun Try.prog 108 [.c (.sly (wV l) l.length), i64V i, slV (wV [x])] [] (.v (slV (wV (l.take i ++ x :: l.drop i)))) := by
  refine fun_of_vc tabOk mixOk Try.func108 rfl (by rfl) (rs := [.tmp 6]) rfl rfl 99 ?_; rw [Try.ntmps108]
  (conv => whnf); repeat (first | (refine And.intro (DrawOk.mk (by first | (simp only [List.map_cons, List.map_nil, List.nil_append, List.cons_append, List.append_nil, updsL, List.length_cons, List.length_nil]; decide +kernel) | exact rfl)) ?_; conv => whnf) | (refine And.intro rfl ?_; conv => whnf) | (refine And.intro (fun _ => ?_) (fun h => Bool.noConfusion h); conv => whnf) | (refine And.intro (fun h => Bool.noConfusion h) (fun _ => ?_); conv => whnf))
  refine ⟨wSz l, ?_⟩
  (conv => whnf); repeat (first | (refine And.intro (DrawOk.mk (by first | (simp only [List.map_cons, List.map_nil, List.nil_append, List.cons_append, List.append_nil, updsL, List.length_cons, List.length_nil]; decide +kernel) | exact rfl)) ?_; conv => whnf) | (refine And.intro rfl ?_; conv => whnf) | (refine And.intro (fun _ => ?_) (fun h => Bool.noConfusion h); conv => whnf) | (refine And.intro (fun h => Bool.noConfusion h) (fun _ => ?_); conv => whnf))
  refine ⟨by omega, by rw [pwLen]; omega, by rw [pwLen]; omega, ?_⟩
  (conv => whnf); repeat (first | (refine And.intro (DrawOk.mk (by first | (simp only [List.map_cons, List.map_nil, List.nil_append, List.cons_append, List.append_nil, updsL, List.length_cons, List.length_nil]; decide +kernel) | exact rfl)) ?_; conv => whnf) | (refine And.intro rfl ?_; conv => whnf) | (refine And.intro (fun _ => ?_) (fun h => Bool.noConfusion h); conv => whnf) | (refine And.intro (fun h => Bool.noConfusion h) (fun _ => ?_); conv => whnf))
  refine And.intro (fun h1 => ?_) (fun h1 => ?_)
  · have hil : i = l.length := by have h2 : ((i : Int) == ((wV l).length : Nat)) = true := h1; rw [pwLen, beq_iff_eq] at h2; omega
    (conv => whnf); repeat (first | (refine And.intro (DrawOk.mk (by first | (simp only [List.map_cons, List.map_nil, List.nil_append, List.cons_append, List.append_nil, updsL, List.length_cons, List.length_nil]; decide +kernel) | exact rfl)) ?_; conv => whnf) | (refine And.intro rfl ?_; conv => whnf) | (refine And.intro (fun _ => ?_) (fun h => Bool.noConfusion h); conv => whnf) | (refine And.intro (fun h => Bool.noConfusion h) (fun _ => ?_); conv => whnf))
    refine ⟨wSz [x], ?_⟩
    (conv => whnf); repeat (first | (refine And.intro (DrawOk.mk (by first | (simp only [List.map_cons, List.map_nil, List.nil_append, List.cons_append, List.append_nil, updsL, List.length_cons, List.length_nil]; decide +kernel) | exact rfl)) ?_; conv => whnf) | (refine And.intro rfl ?_; conv => whnf) | (refine And.intro (fun _ => ?_) (fun h => Bool.noConfusion h); conv => whnf) | (refine And.intro (fun h => Bool.noConfusion h) (fun _ => ?_); conv => whnf))
    refine ⟨by rw [pwLen, pwLen]; simp, wSz l, bytes_le (by decide) (by rw [pwLen, pwLen]; simp; omega), ?_⟩
    (conv => whnf); repeat (first | (refine And.intro (DrawOk.mk (by first | (simp only [List.map_cons, List.map_nil, List.nil_append, List.cons_append, List.append_nil, updsL, List.length_cons, List.length_nil]; decide +kernel) | exact rfl)) ?_; conv => whnf) | (refine And.intro rfl ?_; conv => whnf) | (refine And.intro (fun _ => ?_) (fun h => Bool.noConfusion h); conv => whnf) | (refine And.intro (fun h => Bool.noConfusion h) (fun _ => ?_); conv => whnf))
    refine Exists.intro [] (And.intro List.nodup_nil ?_); ((conv => whnf); repeat (first | (refine And.intro (DrawOk.mk (by first | (simp only [List.map_cons, List.map_nil, List.nil_append, List.cons_append, List.append_nil, updsL, List.length_cons, List.length_nil]; decide +kernel) | exact rfl)) ?_; conv => whnf) | (refine And.intro rfl ?_; conv => whnf) | (refine And.intro (fun _ => ?_) (fun h => Bool.noConfusion h); conv => whnf) | (refine And.intro (fun h => Bool.noConfusion h) (fun _ => ?_); conv => whnf)))
    rw [hil, List.take_length, List.drop_length]
    exact congrArg (fun r => AT.v (slV r)) (show wV l ++ wV [x] = wV (l ++ [x]) by simp [wV])
  · have hil : i < l.length := by
      have h2 : ((i : Int) == ((wV l).length : Nat)) = false := h1
      rw [pwLen, beq_eq_false_iff_ne] at h2
      omega
    have hw1 : iwrap .i64 (((wV l).length : Int) + ((wV [x]).length : Int)) = ((l.length + 1 : Nat) : Int) := (w64_in (by rw [pwLen, pwLen]; simp; omega)).trans (by rw [pwLen, pwLen]; simp)
    have hw2 : iwrap .i64 (((l.length + 1 : Nat) : Int) - (i : Int)) = ((l.length + 1 - i : Nat) : Int) := (w64_in (by omega)).trans (by omega)
    (conv => whnf); repeat (first | (refine And.intro (DrawOk.mk (by first | (simp only [List.map_cons, List.map_nil, List.nil_append, List.cons_append, List.append_nil, updsL, List.length_cons, List.length_nil]; decide +kernel) | exact rfl)) ?_; conv => whnf) | (refine And.intro rfl ?_; conv => whnf) | (refine And.intro (fun _ => ?_) (fun h => Bool.noConfusion h); conv => whnf) | (refine And.intro (fun h => Bool.noConfusion h) (fun _ => ?_); conv => whnf))
    rw [hw1]
    refine And.intro (fun _ => ?_) (fun h => by have := of_decide_eq_false h; omega)
    (conv => whnf); repeat (first | (refine And.intro (DrawOk.mk (by first | (simp only [List.map_cons, List.map_nil, List.nil_append, List.cons_append, List.append_nil, updsL, List.length_cons, List.length_nil]; decide +kernel) | exact rfl)) ?_; conv => whnf) | (refine And.intro rfl ?_; conv => whnf) | (refine And.intro (fun _ => ?_) (fun h => Bool.noConfusion h); conv => whnf) | (refine And.intro (fun h => Bool.noConfusion h) (fun _ => ?_); conv => whnf))
    refine ⟨wSz l, ?_⟩
    (conv => whnf); repeat (first | (refine And.intro (DrawOk.mk (by first | (simp only [List.map_cons, List.map_nil, List.nil_append, List.cons_append, List.append_nil, updsL, List.length_cons, List.length_nil]; decide +kernel) | exact rfl)) ?_; conv => whnf) | (refine And.intro rfl ?_; conv => whnf) | (refine And.intro (fun _ => ?_) (fun h => Bool.noConfusion h); conv => whnf) | (refine And.intro (fun h => Bool.noConfusion h) (fun _ => ?_); conv => whnf))
    refine ⟨by omega, by rw [pwLen]; omega, ?_⟩
    (conv => whnf); repeat (first | (refine And.intro (DrawOk.mk (by first | (simp only [List.map_cons, List.map_nil, List.nil_append, List.cons_append, List.append_nil, updsL, List.length_cons, List.length_nil]; decide +kernel) | exact rfl)) ?_; conv => whnf) | (refine And.intro rfl ?_; conv => whnf) | (refine And.intro (fun _ => ?_) (fun h => Bool.noConfusion h); conv => whnf) | (refine And.intro (fun h => Bool.noConfusion h) (fun _ => ?_); conv => whnf))
    rw [hw1, hw2]
    have hlt : (List.take ((i : Int)).toNat (wV l)).length = i := by rw [List.length_take, pwLen, Int.toNat_natCast]; omega
    refine ⟨by omega, by rw [hlt, Int.toNat_natCast]; omega, fun z hz => wSz l z (List.mem_of_mem_take hz), bytes_le (by decide) (by rw [hlt, Int.toNat_natCast]; omega), ?_⟩
    (conv => whnf); repeat (first | (refine And.intro (DrawOk.mk (by first | (simp only [List.map_cons, List.map_nil, List.nil_append, List.cons_append, List.append_nil, updsL, List.length_cons, List.length_nil]; decide +kernel) | exact rfl)) ?_; conv => whnf) | (refine And.intro rfl ?_; conv => whnf) | (refine And.intro (fun _ => ?_) (fun h => Bool.noConfusion h); conv => whnf) | (refine And.intro (fun h => Bool.noConfusion h) (fun _ => ?_); conv => whnf))
    have hR1 : (List.take ((i : Int)).toNat (wV l) ++ List.replicate (((l.length + 1 - i : Nat) : Int)).toNat [IV.sc (.int .i64 0)]).length = l.length + 1 := by rw [List.length_append, hlt, List.length_replicate, Int.toNat_natCast]; omega
    have hR2 : (List.take ((i : Int)).toNat (wV l) ++ List.replicate (((l.length + 1 - i : Nat) : Int)).toNat [IV.sc (.int .i64 0)]).take i = wV (l.take i) := by rw [List.take_append_of_le_length (by rw [hlt]; exact Nat.le_refl _), Int.toNat_natCast, List.take_take, Nat.min_self]; simp [wV, List.map_take]
    generalize List.take ((i : Int)).toNat (wV l) ++ List.replicate (((l.length + 1 - i : Nat) : Int)).toNat [IV.sc (.int .i64 0)] = R at hR1 hR2 ⊢
    have hw3 : iwrap .i64 ((i : Int) + ((wV [x]).length : Int)) = ((i + 1 : Nat) : Int) := (w64_in (by rw [pwLen]; simp; omega)).trans (by rw [pwLen]; simp)
    refine ⟨by omega, by omega, by omega, ?_⟩
    (conv => whnf); repeat (first | (refine And.intro (DrawOk.mk (by first | (simp only [List.map_cons, List.map_nil, List.nil_append, List.cons_append, List.append_nil, updsL, List.length_cons, List.length_nil]; decide +kernel) | exact rfl)) ?_; conv => whnf) | (refine And.intro rfl ?_; conv => whnf) | (refine And.intro (fun _ => ?_) (fun h => Bool.noConfusion h); conv => whnf) | (refine And.intro (fun h => Bool.noConfusion h) (fun _ => ?_); conv => whnf))
    refine ⟨wSz [x], ?_⟩
    (conv => whnf); repeat (first | (refine And.intro (DrawOk.mk (by first | (simp only [List.map_cons, List.map_nil, List.nil_append, List.cons_append, List.append_nil, updsL, List.length_cons, List.length_nil]; decide +kernel) | exact rfl)) ?_; conv => whnf) | (refine And.intro rfl ?_; conv => whnf) | (refine And.intro (fun _ => ?_) (fun h => Bool.noConfusion h); conv => whnf) | (refine And.intro (fun h => Bool.noConfusion h) (fun _ => ?_); conv => whnf))
    rw [hw3]
    have hz : (List.take (0 + (((R.length - 0 : Nat) : Int)).toNat - (0 + ((i : Int)).toNat)) (wV [x])) = wV [x] := List.take_of_length_le (by rw [pwLen, Int.toNat_natCast, Int.toNat_natCast]; simp; omega)
    rw [hz]
    have hS1 : (splice R (0 + ((i : Int)).toNat) (wV [x])).length = l.length + 1 := by rw [splice_length _ _ _ (by rw [pwLen, Int.toNat_natCast]; simp; omega)]; exact hR1
    have hS2 : (splice R (0 + ((i : Int)).toNat) (wV [x])).take (i + 1) = wV (l.take i ++ [x]) := by
      rw [splice_eq _ _ _ (by rw [pwLen, Int.toNat_natCast]; simp; omega), Int.toNat_natCast, Nat.zero_add, hR2, List.take_append_of_le_length (by rw [List.length_append, pwLen, pwLen, List.length_take]; simp; omega)]
      rw [List.take_of_length_le (by rw [List.length_append, pwLen, pwLen, List.length_take]; simp; omega)]
      simp [wV]
    generalize splice R (0 + ((i : Int)).toNat) (wV [x]) = R1 at hS1 hS2 ⊢
    refine ⟨by omega, by omega, by omega, ?_⟩
    (conv => whnf); repeat (first | (refine And.intro (DrawOk.mk (by first | (simp only [List.map_cons, List.map_nil, List.nil_append, List.cons_append, List.append_nil, updsL, List.length_cons, List.length_nil]; decide +kernel) | exact rfl)) ?_; conv => whnf) | (refine And.intro rfl ?_; conv => whnf) | (refine And.intro (fun _ => ?_) (fun h => Bool.noConfusion h); conv => whnf) | (refine And.intro (fun h => Bool.noConfusion h) (fun _ => ?_); conv => whnf))
    refine ⟨wSz l, ?_⟩
    (conv => whnf); repeat (first | (refine And.intro (DrawOk.mk (by first | (simp only [List.map_cons, List.map_nil, List.nil_append, List.cons_append, List.append_nil, updsL, List.length_cons, List.length_nil]; decide +kernel) | exact rfl)) ?_; conv => whnf) | (refine And.intro rfl ?_; conv => whnf) | (refine And.intro (fun _ => ?_) (fun h => Bool.noConfusion h); conv => whnf) | (refine And.intro (fun h => Bool.noConfusion h) (fun _ => ?_); conv => whnf))
    refine ⟨by omega, by rw [pwLen]; omega, by rw [pwLen]; omega, ?_⟩
    (conv => whnf); repeat (first | (refine And.intro (DrawOk.mk (by first | (simp only [List.map_cons, List.map_nil, List.nil_append, List.cons_append, List.append_nil, updsL, List.length_cons, List.length_nil]; decide +kernel) | exact rfl)) ?_; conv => whnf) | (refine And.intro rfl ?_; conv => whnf) | (refine And.intro (fun _ => ?_) (fun h => Bool.noConfusion h); conv => whnf) | (refine And.intro (fun h => Bool.noConfusion h) (fun _ => ?_); conv => whnf))
    refine ⟨fun z hz => wSz l z (List.mem_of_mem_take (List.mem_of_mem_drop hz)), ?_⟩
    (conv => whnf); repeat (first | (refine And.intro (DrawOk.mk (by first | (simp only [List.map_cons, List.map_nil, List.nil_append, List.cons_append, List.append_nil, updsL, List.length_cons, List.length_nil]; decide +kernel) | exact rfl)) ?_; conv => whnf) | (refine And.intro rfl ?_; conv => whnf) | (refine And.intro (fun _ => ?_) (fun h => Bool.noConfusion h); conv => whnf) | (refine And.intro (fun h => Bool.noConfusion h) (fun _ => ?_); conv => whnf))
    refine Exists.intro [] (And.intro List.nodup_nil ?_); ((conv => whnf); repeat (first | (refine And.intro (DrawOk.mk (by first | (simp only [List.map_cons, List.map_nil, List.nil_append, List.cons_append, List.append_nil, updsL, List.length_cons, List.length_nil]; decide +kernel) | exact rfl)) ?_; conv => whnf) | (refine And.intro rfl ?_; conv => whnf) | (refine And.intro (fun _ => ?_) (fun h => Bool.noConfusion h); conv => whnf) | (refine And.intro (fun h => Bool.noConfusion h) (fun _ => ?_); conv => whnf)))
    refine congrArg (fun r => AT.v (slV r)) ?_
    have hd : List.drop ((i : Int)).toNat (List.take (((wV l).length : Int)).toNat (wV l)) = wV (l.drop i) := by
      rw [Int.toNat_natCast, Int.toNat_natCast, List.take_length]
      simp [wV, List.map_drop]
    have hdl : (wV (l.drop i)).length = l.length - i := by rw [pwLen, List.length_drop]
    rw [hd, List.take_of_length_le (by rw [hdl, Int.toNat_natCast, Int.toNat_natCast]; omega), splice_eq _ _ _ (by rw [hdl, Int.toNat_natCast]; omega), Int.toNat_natCast, Nat.zero_add, hS2, show R1.drop (i + 1 + (wV (l.drop i)).length) = [] from List.drop_of_length_le (by rw [hS1, hdl]; omega), List.append_nil]
    simp [wV]
end Go.Proofs.Ytijajfldpaadnaa.Ab
