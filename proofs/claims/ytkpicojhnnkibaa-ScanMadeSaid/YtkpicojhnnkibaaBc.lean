/- Numbers as bytes: Put, Get, Pad of both. -/
import Derived.Test.YtkpicojhnnkibaaBb
namespace Go.Proofs.Ytkpicojhnnkibaa.Ab
set_option linter.unusedVariables false
set_option linter.unusedSimpArgs false
open Go.RowKit

theorem pow_le {k : Nat} (h : k ≤ 7) : 256 ^ k ≤ 72057594037927936 := by
  have : 256 ^ k ≤ 256 ^ 7 := Nat.pow_le_pow_right (by decide) h
  exact Nat.le_trans this (by decide)
theorem sput_yes {n k : Nat} (h1 : 1 ≤ k) (h7 : k ≤ 7) (hn : n < 256 ^ k) : sput (n : Int) (k : Int) = (sS (putB n k), 0) := by
  unfold sput
  rw [if_pos ⟨by omega, by omega, by omega, by rw [Int.toNat_natCast]; omega⟩]
  rfl
theorem sput_no {n size : Int} (h : ¬ okPut n size) : sput n size = (ByteArray.empty, 1) := by unfold sput; rw [if_neg h]
theorem okPut_nat {n size : Int} (h : okPut n size) : ∃ m k : Nat, n = m ∧ size = k ∧ 1 ≤ k ∧ k ≤ 7 ∧ m < 256 ^ k := by
  obtain ⟨h1, h2, h3, h4⟩ := h
  refine ⟨n.toNat, size.toNat, by omega, by omega, by omega, by omega, by omega⟩
theorem shrk {m i : Nat} (hi : i ≤ 7) : ((m : Int)).fdiv (2 ^ (min ((8 * i : Nat) : Int).toNat IntKind.i64.bits)) = ((m / 256 ^ i : Nat) : Int) := by
  rw [show IntKind.i64.bits = 64 from rfl, Int.toNat_natCast, Nat.min_eq_left (by omega), shr_nat]
theorem putB_drop {m k i : Nat} (h : i < k) : (putB m k).drop i = UInt8.ofNat (m / 256 ^ i) :: (putB m k).drop (i + 1) := by
  rw [List.drop_eq_getElem_cons (by rw [putB_len]; exact h), putB_get h]

theorem putB_end (m k : Nat) : sS ((putB m k).drop k) = ByteArray.empty := by
  rw [List.drop_of_length_le (by rw [putB_len]; exact Nat.le_refl _)]; rfl
theorem putB_step {m k i : Nat} (h : i < k) : catS [bytesStr [iwrap .u8 ((m / 256 ^ i : Nat) : Int)], sS ((putB m k).drop (i + 1))] = sS ((putB m k).drop i) := by
  rw [bytesStr_eq, cat2, putB_drop h]
  simp only [List.map_cons, List.map_nil, u8_byte]
  rfl
theorem putB_short {m k i : Nat} (h : i < k) (h7 : k ≤ 7) : (catS [bytesStr [iwrap .u8 ((m / 256 ^ i : Nat) : Int)], sS ((putB m k).drop (i + 1))]).size ≤ 140737488355328 := by
  rw [putB_step h, sS_size, List.length_drop, putB_len]
  omega
set_option maxRecDepth 100000 in
set_option maxHeartbeats 8000000 in
theorem putF (n size : Int) : Fun Try.prog 76 [i64V n, i64V size] [] (.tup [strV (sput n size).1, i64V (sput n size).2]) := by
  by_cases hok : okPut n size
  · obtain ⟨m, k, rfl, rfl, h1, h7, hm⟩ := okPut_nat hok
    have hb := pow_le h7
    rw [sput_yes h1 h7 hm]
    have hw8 : iwrap .i64 (8 * (k : Int)) = ((8 * k : Nat) : Int) := (w64_in (by omega)).trans (by omega)
    refine fun_of_vc tabOk mixOk Try.func76 rfl (by rfl) (rs := [.tmp 4, .tmp 5]) rfl rfl 46 ?_; rw [Try.ntmps76]
    (conv => whnf); repeat (first | (refine And.intro (DrawOk.mk (by first | (simp only [List.map_cons, List.map_nil, List.nil_append, List.cons_append, List.append_nil, updsL, List.length_cons, List.length_nil]; decide +kernel) | exact rfl)) ?_; conv => whnf) | (refine And.intro rfl ?_; conv => whnf) | (refine And.intro (fun _ => ?_) (fun h => Bool.noConfusion h); conv => whnf) | (refine And.intro (fun h => Bool.noConfusion h) (fun _ => ?_); conv => whnf))
    refine And.intro (fun h => by have := of_decide_eq_true h; omega) (fun _ => ?_)
    (conv => whnf); repeat (first | (refine And.intro (DrawOk.mk (by first | (simp only [List.map_cons, List.map_nil, List.nil_append, List.cons_append, List.append_nil, updsL, List.length_cons, List.length_nil]; decide +kernel) | exact rfl)) ?_; conv => whnf) | (refine And.intro rfl ?_; conv => whnf) | (refine And.intro (fun _ => ?_) (fun h => Bool.noConfusion h); conv => whnf) | (refine And.intro (fun h => Bool.noConfusion h) (fun _ => ?_); conv => whnf))
    refine And.intro (fun h => by have := of_decide_eq_true h; omega) (fun _ => ?_)
    (conv => whnf); repeat (first | (refine And.intro (DrawOk.mk (by first | (simp only [List.map_cons, List.map_nil, List.nil_append, List.cons_append, List.append_nil, updsL, List.length_cons, List.length_nil]; decide +kernel) | exact rfl)) ?_; conv => whnf) | (refine And.intro rfl ?_; conv => whnf) | (refine And.intro (fun _ => ?_) (fun h => Bool.noConfusion h); conv => whnf) | (refine And.intro (fun h => Bool.noConfusion h) (fun _ => ?_); conv => whnf))
    rw [hw8]
    refine ⟨by omega, ?_⟩
    (conv => whnf); repeat (first | (refine And.intro (DrawOk.mk (by first | (simp only [List.map_cons, List.map_nil, List.nil_append, List.cons_append, List.append_nil, updsL, List.length_cons, List.length_nil]; decide +kernel) | exact rfl)) ?_; conv => whnf) | (refine And.intro rfl ?_; conv => whnf) | (refine And.intro (fun _ => ?_) (fun h => Bool.noConfusion h); conv => whnf) | (refine And.intro (fun h => Bool.noConfusion h) (fun _ => ?_); conv => whnf))
    rw [shrk h7, Nat.div_eq_of_lt hm]
    refine And.intro (fun h => by simp at h) (fun _ => ?_)
    (conv => whnf); repeat (first | (refine And.intro (DrawOk.mk (by first | (simp only [List.map_cons, List.map_nil, List.nil_append, List.cons_append, List.append_nil, updsL, List.length_cons, List.length_nil]; decide +kernel) | exact rfl)) ?_; conv => whnf) | (refine And.intro rfl ?_; conv => whnf) | (refine And.intro (fun _ => ?_) (fun h => Bool.noConfusion h); conv => whnf) | (refine And.intro (fun h => Bool.noConfusion h) (fun _ => ?_); conv => whnf))
    refine vc_loop [0, 4, 5] [] (X := Nat) (fun j gs => [(7, .v (i64V ((j : Int) - 1))), (6, .v (strV (sS ((putB m k).drop j))))]) (fun _ _ => []) (fun j => j ≤ k) (fun j => j) _ (Ghost.refl _) k (Nat.le_refl _) ?_ ?_
    · (refine And.intro rfl (And.intro rfl ?_)); (repeat' (first | exact trivial | exact rfl | apply And.intro | (refine congrArg (Value.int .i64) (w64_nat ?_); omega)))
      all_goals (first | exact congrArg (Value.int .i64) (show iwrap .i64 ((k : Int) - 1) = (k : Int) - 1 from w64_in (by omega)) | exact congrArg Value.string (putB_end m k).symm)
    rintro gs j hj
    (conv => whnf); repeat (first | (refine And.intro (DrawOk.mk (by first | (simp only [List.map_cons, List.map_nil, List.nil_append, List.cons_append, List.append_nil, updsL, List.length_cons, List.length_nil]; decide +kernel) | exact rfl)) ?_; conv => whnf) | (refine And.intro rfl ?_; conv => whnf) | (refine And.intro (fun _ => ?_) (fun h => Bool.noConfusion h); conv => whnf) | (refine And.intro (fun h => Bool.noConfusion h) (fun _ => ?_); conv => whnf))
    refine And.intro (fun h => ?_) (fun h => ?_)
    · obtain ⟨i, rfl⟩ : ∃ i, j = i + 1 := ⟨j - 1, by have := of_decide_eq_true h; omega⟩
      have hw : iwrap .i64 (8 * (((i + 1 : Nat) : Int) - 1)) = ((8 * i : Nat) : Int) := (w64_in (by omega)).trans (by omega)
      (conv => whnf); repeat (first | (refine And.intro (DrawOk.mk (by first | (simp only [List.map_cons, List.map_nil, List.nil_append, List.cons_append, List.append_nil, updsL, List.length_cons, List.length_nil]; decide +kernel) | exact rfl)) ?_; conv => whnf) | (refine And.intro rfl ?_; conv => whnf) | (refine And.intro (fun _ => ?_) (fun h => Bool.noConfusion h); conv => whnf) | (refine And.intro (fun h => Bool.noConfusion h) (fun _ => ?_); conv => whnf))
      rw [hw]
      refine ⟨by omega, ?_⟩
      (conv => whnf); repeat (first | (refine And.intro (DrawOk.mk (by first | (simp only [List.map_cons, List.map_nil, List.nil_append, List.cons_append, List.append_nil, updsL, List.length_cons, List.length_nil]; decide +kernel) | exact rfl)) ?_; conv => whnf) | (refine And.intro rfl ?_; conv => whnf) | (refine And.intro (fun _ => ?_) (fun h => Bool.noConfusion h); conv => whnf) | (refine And.intro (fun h => Bool.noConfusion h) (fun _ => ?_); conv => whnf))
      rw [shrk (by omega)]
      refine ⟨[iwrap .u8 ((m / 256 ^ i : Nat) : Int)], rfl, ?_⟩
      (conv => whnf); repeat (first | (refine And.intro (DrawOk.mk (by first | (simp only [List.map_cons, List.map_nil, List.nil_append, List.cons_append, List.append_nil, updsL, List.length_cons, List.length_nil]; decide +kernel) | exact rfl)) ?_; conv => whnf) | (refine And.intro rfl ?_; conv => whnf) | (refine And.intro (fun _ => ?_) (fun h => Bool.noConfusion h); conv => whnf) | (refine And.intro (fun h => Bool.noConfusion h) (fun _ => ?_); conv => whnf))
      refine ⟨_, _, joinC [_, _] (by simp) (putB_short (by omega) h7), ?_⟩
      (conv => whnf); repeat (first | (refine And.intro (DrawOk.mk (by first | (simp only [List.map_cons, List.map_nil, List.nil_append, List.cons_append, List.append_nil, updsL, List.length_cons, List.length_nil]; decide +kernel) | exact rfl)) ?_; conv => whnf) | (refine And.intro rfl ?_; conv => whnf) | (refine And.intro (fun _ => ?_) (fun h => Bool.noConfusion h); conv => whnf) | (refine And.intro (fun h => Bool.noConfusion h) (fun _ => ?_); conv => whnf))
      refine again i (by omega) (by omega) ?_
      (refine And.intro rfl (And.intro rfl ?_)); (repeat' (first | exact trivial | exact rfl | apply And.intro | (refine congrArg (Value.int .i64) (w64_nat ?_); omega)))
      all_goals (first | exact congrArg (Value.int .i64) (show iwrap .i64 (((i + 1 : Nat) : Int) - 1 - 1) = (i : Int) - 1 from (w64_in (by omega)).trans (by omega)) | exact congrArg Value.string (putB_step (by omega)))
    · obtain rfl : j = 0 := by have := of_decide_eq_false h; omega
      (conv => whnf); repeat (first | (refine And.intro (DrawOk.mk (by first | (simp only [List.map_cons, List.map_nil, List.nil_append, List.cons_append, List.append_nil, updsL, List.length_cons, List.length_nil]; decide +kernel) | exact rfl)) ?_; conv => whnf) | (refine And.intro rfl ?_; conv => whnf) | (refine And.intro (fun _ => ?_) (fun h => Bool.noConfusion h); conv => whnf) | (refine And.intro (fun h => Bool.noConfusion h) (fun _ => ?_); conv => whnf))
      refine Exists.intro [] (And.intro List.nodup_nil ?_); ((conv => whnf); repeat (first | (refine And.intro (DrawOk.mk (by first | (simp only [List.map_cons, List.map_nil, List.nil_append, List.cons_append, List.append_nil, updsL, List.length_cons, List.length_nil]; decide +kernel) | exact rfl)) ?_; conv => whnf) | (refine And.intro rfl ?_; conv => whnf) | (refine And.intro (fun _ => ?_) (fun h => Bool.noConfusion h); conv => whnf) | (refine And.intro (fun h => Bool.noConfusion h) (fun _ => ?_); conv => whnf)))
      rfl
  · rw [sput_no hok]
    by_cases g : size < 1 ∨ size > 7 ∨ n < 0
    · refine fun_of_vc tabOk mixOk Try.func76 rfl (by rfl) (rs := [.tmp 4, .tmp 5]) rfl rfl 46 ?_; rw [Try.ntmps76]
      (conv => whnf); repeat (first | (refine And.intro (DrawOk.mk (by first | (simp only [List.map_cons, List.map_nil, List.nil_append, List.cons_append, List.append_nil, updsL, List.length_cons, List.length_nil]; decide +kernel) | exact rfl)) ?_; conv => whnf) | (refine And.intro rfl ?_; conv => whnf) | (refine And.intro (fun _ => ?_) (fun h => Bool.noConfusion h); conv => whnf) | (refine And.intro (fun h => Bool.noConfusion h) (fun _ => ?_); conv => whnf))
      refine And.intro (fun h1 => ?_) (fun h1 => ?_)
      · (conv => whnf); repeat (first | (refine And.intro (DrawOk.mk (by first | (simp only [List.map_cons, List.map_nil, List.nil_append, List.cons_append, List.append_nil, updsL, List.length_cons, List.length_nil]; decide +kernel) | exact rfl)) ?_; conv => whnf) | (refine And.intro rfl ?_; conv => whnf) | (refine And.intro (fun _ => ?_) (fun h => Bool.noConfusion h); conv => whnf) | (refine And.intro (fun h => Bool.noConfusion h) (fun _ => ?_); conv => whnf))
        refine Exists.intro [] (And.intro List.nodup_nil ?_); ((conv => whnf); repeat (first | (refine And.intro (DrawOk.mk (by first | (simp only [List.map_cons, List.map_nil, List.nil_append, List.cons_append, List.append_nil, updsL, List.length_cons, List.length_nil]; decide +kernel) | exact rfl)) ?_; conv => whnf) | (refine And.intro rfl ?_; conv => whnf) | (refine And.intro (fun _ => ?_) (fun h => Bool.noConfusion h); conv => whnf) | (refine And.intro (fun h => Bool.noConfusion h) (fun _ => ?_); conv => whnf)))
        rfl
      (conv => whnf); repeat (first | (refine And.intro (DrawOk.mk (by first | (simp only [List.map_cons, List.map_nil, List.nil_append, List.cons_append, List.append_nil, updsL, List.length_cons, List.length_nil]; decide +kernel) | exact rfl)) ?_; conv => whnf) | (refine And.intro rfl ?_; conv => whnf) | (refine And.intro (fun _ => ?_) (fun h => Bool.noConfusion h); conv => whnf) | (refine And.intro (fun h => Bool.noConfusion h) (fun _ => ?_); conv => whnf))
      refine And.intro (fun h2 => ?_) (fun h2 => ?_)
      · (conv => whnf); repeat (first | (refine And.intro (DrawOk.mk (by first | (simp only [List.map_cons, List.map_nil, List.nil_append, List.cons_append, List.append_nil, updsL, List.length_cons, List.length_nil]; decide +kernel) | exact rfl)) ?_; conv => whnf) | (refine And.intro rfl ?_; conv => whnf) | (refine And.intro (fun _ => ?_) (fun h => Bool.noConfusion h); conv => whnf) | (refine And.intro (fun h => Bool.noConfusion h) (fun _ => ?_); conv => whnf))
        refine Exists.intro [] (And.intro List.nodup_nil ?_); ((conv => whnf); repeat (first | (refine And.intro (DrawOk.mk (by first | (simp only [List.map_cons, List.map_nil, List.nil_append, List.cons_append, List.append_nil, updsL, List.length_cons, List.length_nil]; decide +kernel) | exact rfl)) ?_; conv => whnf) | (refine And.intro rfl ?_; conv => whnf) | (refine And.intro (fun _ => ?_) (fun h => Bool.noConfusion h); conv => whnf) | (refine And.intro (fun h => Bool.noConfusion h) (fun _ => ?_); conv => whnf)))
        rfl
      (conv => whnf); repeat (first | (refine And.intro (DrawOk.mk (by first | (simp only [List.map_cons, List.map_nil, List.nil_append, List.cons_append, List.append_nil, updsL, List.length_cons, List.length_nil]; decide +kernel) | exact rfl)) ?_; conv => whnf) | (refine And.intro rfl ?_; conv => whnf) | (refine And.intro (fun _ => ?_) (fun h => Bool.noConfusion h); conv => whnf) | (refine And.intro (fun h => Bool.noConfusion h) (fun _ => ?_); conv => whnf))
      refine And.intro (fun h3 => ?_) (fun h3 => ?_)
      · (conv => whnf); repeat (first | (refine And.intro (DrawOk.mk (by first | (simp only [List.map_cons, List.map_nil, List.nil_append, List.cons_append, List.append_nil, updsL, List.length_cons, List.length_nil]; decide +kernel) | exact rfl)) ?_; conv => whnf) | (refine And.intro rfl ?_; conv => whnf) | (refine And.intro (fun _ => ?_) (fun h => Bool.noConfusion h); conv => whnf) | (refine And.intro (fun h => Bool.noConfusion h) (fun _ => ?_); conv => whnf))
        refine Exists.intro [] (And.intro List.nodup_nil ?_); ((conv => whnf); repeat (first | (refine And.intro (DrawOk.mk (by first | (simp only [List.map_cons, List.map_nil, List.nil_append, List.cons_append, List.append_nil, updsL, List.length_cons, List.length_nil]; decide +kernel) | exact rfl)) ?_; conv => whnf) | (refine And.intro rfl ?_; conv => whnf) | (refine And.intro (fun _ => ?_) (fun h => Bool.noConfusion h); conv => whnf) | (refine And.intro (fun h => Bool.noConfusion h) (fun _ => ?_); conv => whnf)))
        rfl
      · have := of_decide_eq_false h1; have := of_decide_eq_false h2; have := of_decide_eq_false h3; omega
    · obtain ⟨m, k, rfl, rfl, g1, g7⟩ : ∃ m k : Nat, n = m ∧ size = k ∧ 1 ≤ k ∧ k ≤ 7 := ⟨n.toNat, size.toNat, by omega, by omega, by omega, by omega⟩
      have hm : ¬ m < 256 ^ k := fun hm => hok ⟨by omega, by omega, by omega, by rw [Int.toNat_natCast]; omega⟩
      have hw8 : iwrap .i64 (8 * (k : Int)) = ((8 * k : Nat) : Int) := (w64_in (by omega)).trans (by omega)
      have hd : 1 ≤ m / 256 ^ k := (Nat.one_le_div_iff (Nat.pow_pos (by decide))).2 (by omega)
      refine fun_of_vc tabOk mixOk Try.func76 rfl (by rfl) (rs := [.tmp 4, .tmp 5]) rfl rfl 46 ?_; rw [Try.ntmps76]
      (conv => whnf); repeat (first | (refine And.intro (DrawOk.mk (by first | (simp only [List.map_cons, List.map_nil, List.nil_append, List.cons_append, List.append_nil, updsL, List.length_cons, List.length_nil]; decide +kernel) | exact rfl)) ?_; conv => whnf) | (refine And.intro rfl ?_; conv => whnf) | (refine And.intro (fun _ => ?_) (fun h => Bool.noConfusion h); conv => whnf) | (refine And.intro (fun h => Bool.noConfusion h) (fun _ => ?_); conv => whnf))
      refine And.intro (fun h => by have := of_decide_eq_true h; omega) (fun _ => ?_)
      (conv => whnf); repeat (first | (refine And.intro (DrawOk.mk (by first | (simp only [List.map_cons, List.map_nil, List.nil_append, List.cons_append, List.append_nil, updsL, List.length_cons, List.length_nil]; decide +kernel) | exact rfl)) ?_; conv => whnf) | (refine And.intro rfl ?_; conv => whnf) | (refine And.intro (fun _ => ?_) (fun h => Bool.noConfusion h); conv => whnf) | (refine And.intro (fun h => Bool.noConfusion h) (fun _ => ?_); conv => whnf))
      refine And.intro (fun h => by have := of_decide_eq_true h; omega) (fun _ => ?_)
      (conv => whnf); repeat (first | (refine And.intro (DrawOk.mk (by first | (simp only [List.map_cons, List.map_nil, List.nil_append, List.cons_append, List.append_nil, updsL, List.length_cons, List.length_nil]; decide +kernel) | exact rfl)) ?_; conv => whnf) | (refine And.intro rfl ?_; conv => whnf) | (refine And.intro (fun _ => ?_) (fun h => Bool.noConfusion h); conv => whnf) | (refine And.intro (fun h => Bool.noConfusion h) (fun _ => ?_); conv => whnf))
      rw [hw8]
      refine ⟨by omega, ?_⟩
      (conv => whnf); repeat (first | (refine And.intro (DrawOk.mk (by first | (simp only [List.map_cons, List.map_nil, List.nil_append, List.cons_append, List.append_nil, updsL, List.length_cons, List.length_nil]; decide +kernel) | exact rfl)) ?_; conv => whnf) | (refine And.intro rfl ?_; conv => whnf) | (refine And.intro (fun _ => ?_) (fun h => Bool.noConfusion h); conv => whnf) | (refine And.intro (fun h => Bool.noConfusion h) (fun _ => ?_); conv => whnf))
      rw [shrk g7]
      refine And.intro (fun h => ?_) (fun h => absurd (show ((m / 256 ^ k : Nat) : Int) = 0 by simpa only [bne_eq_false_iff_eq] using h) (by omega))
      (conv => whnf); repeat (first | (refine And.intro (DrawOk.mk (by first | (simp only [List.map_cons, List.map_nil, List.nil_append, List.cons_append, List.append_nil, updsL, List.length_cons, List.length_nil]; decide +kernel) | exact rfl)) ?_; conv => whnf) | (refine And.intro rfl ?_; conv => whnf) | (refine And.intro (fun _ => ?_) (fun h => Bool.noConfusion h); conv => whnf) | (refine And.intro (fun h => Bool.noConfusion h) (fun _ => ?_); conv => whnf))
      refine Exists.intro [] (And.intro List.nodup_nil ?_); ((conv => whnf); repeat (first | (refine And.intro (DrawOk.mk (by first | (simp only [List.map_cons, List.map_nil, List.nil_append, List.cons_append, List.append_nil, updsL, List.length_cons, List.length_nil]; decide +kernel) | exact rfl)) ?_; conv => whnf) | (refine And.intro rfl ?_; conv => whnf) | (refine And.intro (fun _ => ?_) (fun h => Bool.noConfusion h); conv => whnf) | (refine And.intro (fun h => Bool.noConfusion h) (fun _ => ?_); conv => whnf)))
      rfl
def wrow (m k j : Nat) : List Int := (List.range k).map fun i => if i < j then iwrap .u8 ((m / 256 ^ i : Nat) : Int) else 0
theorem wrow_len (m k j : Nat) : (wrow m k j).length = k := by simp [wrow]
theorem bytes1 {n : Nat} (h : n ≤ 1000000) : 1 * ((n : Int)).toNat ≤ 140737488355328 := by omega
theorem cVb_len (ws : List Int) : (cVb ws).length = ws.length := by simp [cVb]
theorem cVb_item {ws : List Int} {n : Int} (h : n.toNat < ws.length) : (cVb ws)[n.toNat]? = some [.sc (.int .u8 ws[n.toNat])] := by simp [cVb, h]
theorem cVb_set (ws : List Int) (n : Nat) (c : Int) : (cVb ws).set n [.sc (.int .u8 c)] = cVb (ws.set n c) := by simp [cVb, List.map_set]
theorem cVb_rep (n : Nat) : List.replicate n [IV.sc (.int .u8 0)] = cVb (List.replicate n 0) := by simp [cVb]
theorem wrow_zero (m k : Nat) : List.replicate k [IV.sc (.int .u8 0)] = cVb (wrow m k 0) := by
  rw [cVb_rep]
  congr 1
  apply List.ext_getElem?
  intro j
  by_cases hj : j < k <;> simp [wrow, hj]
theorem wrow_set (m k j : Nat) (hj : j < k) : (wrow m k j).set j (iwrap .u8 ((m / 256 ^ j : Nat) : Int)) = wrow m k (j + 1) := by
  apply List.ext_getElem?
  intro i
  by_cases hi : i < k
  · by_cases hij : j = i
    · subst hij
      rw [List.getElem?_set_self (by rw [wrow_len]; exact hj)]
      simp [wrow, hj]
    · rw [List.getElem?_set_ne hij]
      simp only [wrow, List.getElem?_map, List.getElem?_range hi, Option.map_some]
      congr 1
      by_cases h1 : i < j
      · rw [if_pos h1, if_pos (by omega)]
      · rw [if_neg h1, if_neg (by omega)]
  · rw [List.getElem?_eq_none (by rw [List.length_set, wrow_len]; omega), List.getElem?_eq_none (by rw [wrow_len]; omega)]
theorem wrow_end (m k : Nat) : bytesStr (wrow m k k) = sS (putB m k) := by
  rw [bytesStr_eq]
  congr 1
  simp only [wrow, putB, List.map_map]
  apply List.map_congr_left
  intro i hi
  have hi' : i < k := List.mem_range.1 hi
  simp only [Function.comp, if_pos hi', u8_byte]
theorem shlk {k : Nat} (h1 : 1 ≤ k) (h7 : k ≤ 7) : iwrap .i64 (1 * 2 ^ (min ((8 * k : Nat) : Int).toNat IntKind.i64.bits)) = ((256 ^ k : Nat) : Int) := by
  have hb := pow_le h7
  rw [show IntKind.i64.bits = 64 from rfl, Int.toNat_natCast, Nat.min_eq_left (by omega), Int.one_mul, pow8]
  generalize 256 ^ k = q at hb ⊢
  exact w64_in (by omega)

set_option maxRecDepth 100000 in
set_option maxHeartbeats 8000000 in
theorem putF' (n size : Int) : Fun Try.prog 80 [i64V n, i64V size] [] (.tup [strV (sput n size).1, i64V (sput n size).2]) := by
  by_cases g : size < 1 ∨ size > 7 ∨ n < 0
  · rw [sput_no (fun h => by obtain ⟨a, b, c, d⟩ := h; omega)]
    refine fun_of_vc tabOk mixOk Try.func80 rfl (by rfl) (rs := [.tmp 4, .tmp 5]) rfl rfl 48 ?_; rw [Try.ntmps80]
    (conv => whnf); repeat (first | (refine And.intro (DrawOk.mk (by first | (simp only [List.map_cons, List.map_nil, List.nil_append, List.cons_append, List.append_nil, updsL, List.length_cons, List.length_nil]; decide +kernel) | exact rfl)) ?_; conv => whnf) | (refine And.intro rfl ?_; conv => whnf) | (refine And.intro (fun _ => ?_) (fun h => Bool.noConfusion h); conv => whnf) | (refine And.intro (fun h => Bool.noConfusion h) (fun _ => ?_); conv => whnf))
    refine And.intro (fun h1 => ?_) (fun h1 => ?_)
    · (conv => whnf); repeat (first | (refine And.intro (DrawOk.mk (by first | (simp only [List.map_cons, List.map_nil, List.nil_append, List.cons_append, List.append_nil, updsL, List.length_cons, List.length_nil]; decide +kernel) | exact rfl)) ?_; conv => whnf) | (refine And.intro rfl ?_; conv => whnf) | (refine And.intro (fun _ => ?_) (fun h => Bool.noConfusion h); conv => whnf) | (refine And.intro (fun h => Bool.noConfusion h) (fun _ => ?_); conv => whnf))
      refine Exists.intro [] (And.intro List.nodup_nil ?_); ((conv => whnf); repeat (first | (refine And.intro (DrawOk.mk (by first | (simp only [List.map_cons, List.map_nil, List.nil_append, List.cons_append, List.append_nil, updsL, List.length_cons, List.length_nil]; decide +kernel) | exact rfl)) ?_; conv => whnf) | (refine And.intro rfl ?_; conv => whnf) | (refine And.intro (fun _ => ?_) (fun h => Bool.noConfusion h); conv => whnf) | (refine And.intro (fun h => Bool.noConfusion h) (fun _ => ?_); conv => whnf)))
      rfl
    (conv => whnf); repeat (first | (refine And.intro (DrawOk.mk (by first | (simp only [List.map_cons, List.map_nil, List.nil_append, List.cons_append, List.append_nil, updsL, List.length_cons, List.length_nil]; decide +kernel) | exact rfl)) ?_; conv => whnf) | (refine And.intro rfl ?_; conv => whnf) | (refine And.intro (fun _ => ?_) (fun h => Bool.noConfusion h); conv => whnf) | (refine And.intro (fun h => Bool.noConfusion h) (fun _ => ?_); conv => whnf))
    refine And.intro (fun h2 => ?_) (fun h2 => ?_)
    · (conv => whnf); repeat (first | (refine And.intro (DrawOk.mk (by first | (simp only [List.map_cons, List.map_nil, List.nil_append, List.cons_append, List.append_nil, updsL, List.length_cons, List.length_nil]; decide +kernel) | exact rfl)) ?_; conv => whnf) | (refine And.intro rfl ?_; conv => whnf) | (refine And.intro (fun _ => ?_) (fun h => Bool.noConfusion h); conv => whnf) | (refine And.intro (fun h => Bool.noConfusion h) (fun _ => ?_); conv => whnf))
      refine Exists.intro [] (And.intro List.nodup_nil ?_); ((conv => whnf); repeat (first | (refine And.intro (DrawOk.mk (by first | (simp only [List.map_cons, List.map_nil, List.nil_append, List.cons_append, List.append_nil, updsL, List.length_cons, List.length_nil]; decide +kernel) | exact rfl)) ?_; conv => whnf) | (refine And.intro rfl ?_; conv => whnf) | (refine And.intro (fun _ => ?_) (fun h => Bool.noConfusion h); conv => whnf) | (refine And.intro (fun h => Bool.noConfusion h) (fun _ => ?_); conv => whnf)))
      rfl
    (conv => whnf); repeat (first | (refine And.intro (DrawOk.mk (by first | (simp only [List.map_cons, List.map_nil, List.nil_append, List.cons_append, List.append_nil, updsL, List.length_cons, List.length_nil]; decide +kernel) | exact rfl)) ?_; conv => whnf) | (refine And.intro rfl ?_; conv => whnf) | (refine And.intro (fun _ => ?_) (fun h => Bool.noConfusion h); conv => whnf) | (refine And.intro (fun h => Bool.noConfusion h) (fun _ => ?_); conv => whnf))
    refine And.intro (fun h3 => ?_) (fun h3 => ?_)
    · (conv => whnf); repeat (first | (refine And.intro (DrawOk.mk (by first | (simp only [List.map_cons, List.map_nil, List.nil_append, List.cons_append, List.append_nil, updsL, List.length_cons, List.length_nil]; decide +kernel) | exact rfl)) ?_; conv => whnf) | (refine And.intro rfl ?_; conv => whnf) | (refine And.intro (fun _ => ?_) (fun h => Bool.noConfusion h); conv => whnf) | (refine And.intro (fun h => Bool.noConfusion h) (fun _ => ?_); conv => whnf))
      refine Exists.intro [] (And.intro List.nodup_nil ?_); ((conv => whnf); repeat (first | (refine And.intro (DrawOk.mk (by first | (simp only [List.map_cons, List.map_nil, List.nil_append, List.cons_append, List.append_nil, updsL, List.length_cons, List.length_nil]; decide +kernel) | exact rfl)) ?_; conv => whnf) | (refine And.intro rfl ?_; conv => whnf) | (refine And.intro (fun _ => ?_) (fun h => Bool.noConfusion h); conv => whnf) | (refine And.intro (fun h => Bool.noConfusion h) (fun _ => ?_); conv => whnf)))
      rfl
    · have := of_decide_eq_false h1; have := of_decide_eq_false h2; have := of_decide_eq_false h3; omega
  · obtain ⟨m, k, rfl, rfl, g1, g7⟩ : ∃ m k : Nat, n = m ∧ size = k ∧ 1 ≤ k ∧ k ≤ 7 := ⟨n.toNat, size.toNat, by omega, by omega, by omega, by omega⟩
    have hw8 : iwrap .u64 (iwrap .i64 (8 * (k : Int))) = ((8 * k : Nat) : Int) := by
      rw [show iwrap .i64 (8 * (k : Int)) = ((8 * k : Nat) : Int) from (w64_in (by omega)).trans (by omega)]
      simp [iwrap, IntKind.wrap, IntKind.signed, IntKind.bits]
      omega
    by_cases hm : m < 256 ^ k
    · rw [sput_yes g1 g7 hm]
      refine fun_of_vc tabOk mixOk Try.func80 rfl (by rfl) (rs := [.tmp 4, .tmp 5]) rfl rfl 48 ?_; rw [Try.ntmps80]
      (conv => whnf); repeat (first | (refine And.intro (DrawOk.mk (by first | (simp only [List.map_cons, List.map_nil, List.nil_append, List.cons_append, List.append_nil, updsL, List.length_cons, List.length_nil]; decide +kernel) | exact rfl)) ?_; conv => whnf) | (refine And.intro rfl ?_; conv => whnf) | (refine And.intro (fun _ => ?_) (fun h => Bool.noConfusion h); conv => whnf) | (refine And.intro (fun h => Bool.noConfusion h) (fun _ => ?_); conv => whnf))
      refine And.intro (fun h => by have := of_decide_eq_true h; omega) (fun _ => ?_)
      (conv => whnf); repeat (first | (refine And.intro (DrawOk.mk (by first | (simp only [List.map_cons, List.map_nil, List.nil_append, List.cons_append, List.append_nil, updsL, List.length_cons, List.length_nil]; decide +kernel) | exact rfl)) ?_; conv => whnf) | (refine And.intro rfl ?_; conv => whnf) | (refine And.intro (fun _ => ?_) (fun h => Bool.noConfusion h); conv => whnf) | (refine And.intro (fun h => Bool.noConfusion h) (fun _ => ?_); conv => whnf))
      refine And.intro (fun h => by have := of_decide_eq_true h; omega) (fun _ => ?_)
      (conv => whnf); repeat (first | (refine And.intro (DrawOk.mk (by first | (simp only [List.map_cons, List.map_nil, List.nil_append, List.cons_append, List.append_nil, updsL, List.length_cons, List.length_nil]; decide +kernel) | exact rfl)) ?_; conv => whnf) | (refine And.intro rfl ?_; conv => whnf) | (refine And.intro (fun _ => ?_) (fun h => Bool.noConfusion h); conv => whnf) | (refine And.intro (fun h => Bool.noConfusion h) (fun _ => ?_); conv => whnf))
      rw [hw8]
      refine ⟨by omega, ?_⟩
      (conv => whnf); repeat (first | (refine And.intro (DrawOk.mk (by first | (simp only [List.map_cons, List.map_nil, List.nil_append, List.cons_append, List.append_nil, updsL, List.length_cons, List.length_nil]; decide +kernel) | exact rfl)) ?_; conv => whnf) | (refine And.intro rfl ?_; conv => whnf) | (refine And.intro (fun _ => ?_) (fun h => Bool.noConfusion h); conv => whnf) | (refine And.intro (fun h => Bool.noConfusion h) (fun _ => ?_); conv => whnf))
      rw [shlk g1 g7]
      refine And.intro (fun h => by have := of_decide_eq_true h; omega) (fun h => ?_)
      (conv => whnf); repeat (first | (refine And.intro (DrawOk.mk (by first | (simp only [List.map_cons, List.map_nil, List.nil_append, List.cons_append, List.append_nil, updsL, List.length_cons, List.length_nil]; decide +kernel) | exact rfl)) ?_; conv => whnf) | (refine And.intro rfl ?_; conv => whnf) | (refine And.intro (fun _ => ?_) (fun h => Bool.noConfusion h); conv => whnf) | (refine And.intro (fun h => Bool.noConfusion h) (fun _ => ?_); conv => whnf))
      refine ⟨by omega, rfl, bytes1 (by omega), by omega, ?_⟩
      (conv => whnf); repeat (first | (refine And.intro (DrawOk.mk (by first | (simp only [List.map_cons, List.map_nil, List.nil_append, List.cons_append, List.append_nil, updsL, List.length_cons, List.length_nil]; decide +kernel) | exact rfl)) ?_; conv => whnf) | (refine And.intro rfl ?_; conv => whnf) | (refine And.intro (fun _ => ?_) (fun h => Bool.noConfusion h); conv => whnf) | (refine And.intro (fun h => Bool.noConfusion h) (fun _ => ?_); conv => whnf))
      refine vc_loop [0, 1, 4, 5, 6] [] (X := Nat) (fun j gs => [(7, ATint j)]) (fun j _ => [(27, .row 1 5 1 (cVb (wrow m k j)))]) (fun j => j ≤ k) (fun j => k - j) _ (Ghost.refl _) 0 (by omega) ?_ ?_
      · (refine And.intro rfl (And.intro rfl ?_)); (repeat' (first | exact trivial | exact rfl | apply And.intro | (refine congrArg (Value.int .i64) (w64_nat ?_); omega)))
        all_goals exact congrArg (Blk.row _ _ _) (wrow_zero m k)
      rintro gs j hj
      (conv => whnf); repeat (first | (refine And.intro (DrawOk.mk (by first | (simp only [List.map_cons, List.map_nil, List.nil_append, List.cons_append, List.append_nil, updsL, List.length_cons, List.length_nil]; decide +kernel) | exact rfl)) ?_; conv => whnf) | (refine And.intro rfl ?_; conv => whnf) | (refine And.intro (fun _ => ?_) (fun h => Bool.noConfusion h); conv => whnf) | (refine And.intro (fun h => Bool.noConfusion h) (fun _ => ?_); conv => whnf))
      refine And.intro (fun h => ?_) (fun h => ?_)
      · have hlt : j < k := by have := of_decide_eq_true h; omega
        have hw : iwrap .u64 (iwrap .i64 (8 * (j : Int))) = ((8 * j : Nat) : Int) := by
          rw [show iwrap .i64 (8 * (j : Int)) = ((8 * j : Nat) : Int) from (w64_in (by omega)).trans (by omega)]
          simp [iwrap, IntKind.wrap, IntKind.signed, IntKind.bits]
          omega
        (conv => whnf); repeat (first | (refine And.intro (DrawOk.mk (by first | (simp only [List.map_cons, List.map_nil, List.nil_append, List.cons_append, List.append_nil, updsL, List.length_cons, List.length_nil]; decide +kernel) | exact rfl)) ?_; conv => whnf) | (refine And.intro rfl ?_; conv => whnf) | (refine And.intro (fun _ => ?_) (fun h => Bool.noConfusion h); conv => whnf) | (refine And.intro (fun h => Bool.noConfusion h) (fun _ => ?_); conv => whnf))
        rw [hw]
        refine ⟨by omega, ?_⟩
        (conv => whnf); repeat (first | (refine And.intro (DrawOk.mk (by first | (simp only [List.map_cons, List.map_nil, List.nil_append, List.cons_append, List.append_nil, updsL, List.length_cons, List.length_nil]; decide +kernel) | exact rfl)) ?_; conv => whnf) | (refine And.intro rfl ?_; conv => whnf) | (refine And.intro (fun _ => ?_) (fun h => Bool.noConfusion h); conv => whnf) | (refine And.intro (fun h => Bool.noConfusion h) (fun _ => ?_); conv => whnf))
        rw [shrk (by omega)]
        refine ⟨by omega, by rw [cVb_len, wrow_len]; omega, ?_⟩
        (conv => whnf); repeat (first | (refine And.intro (DrawOk.mk (by first | (simp only [List.map_cons, List.map_nil, List.nil_append, List.cons_append, List.append_nil, updsL, List.length_cons, List.length_nil]; decide +kernel) | exact rfl)) ?_; conv => whnf) | (refine And.intro rfl ?_; conv => whnf) | (refine And.intro (fun _ => ?_) (fun h => Bool.noConfusion h); conv => whnf) | (refine And.intro (fun h => Bool.noConfusion h) (fun _ => ?_); conv => whnf))
        refine ⟨_, cVb_item (by rw [wrow_len]; omega), ?_⟩
        (conv => whnf); repeat (first | (refine And.intro (DrawOk.mk (by first | (simp only [List.map_cons, List.map_nil, List.nil_append, List.cons_append, List.append_nil, updsL, List.length_cons, List.length_nil]; decide +kernel) | exact rfl)) ?_; conv => whnf) | (refine And.intro rfl ?_; conv => whnf) | (refine And.intro (fun _ => ?_) (fun h => Bool.noConfusion h); conv => whnf) | (refine And.intro (fun h => Bool.noConfusion h) (fun _ => ?_); conv => whnf))
        refine again (j + 1) hlt (by omega) ?_
        (refine And.intro rfl (And.intro rfl ?_)); (repeat' (first | exact trivial | exact rfl | apply And.intro | (refine congrArg (Value.int .i64) (w64_nat ?_); omega)))
        all_goals exact congrArg (Blk.row _ _ _) (by rw [← wrow_set _ _ _ hlt, ← cVb_set]; rfl)
      · obtain rfl : j = k := by have := of_decide_eq_false h; omega
        (conv => whnf); repeat (first | (refine And.intro (DrawOk.mk (by first | (simp only [List.map_cons, List.map_nil, List.nil_append, List.cons_append, List.append_nil, updsL, List.length_cons, List.length_nil]; decide +kernel) | exact rfl)) ?_; conv => whnf) | (refine And.intro rfl ?_; conv => whnf) | (refine And.intro (fun _ => ?_) (fun h => Bool.noConfusion h); conv => whnf) | (refine And.intro (fun h => Bool.noConfusion h) (fun _ => ?_); conv => whnf))
        refine ⟨_, rfl, ?_⟩
        (conv => whnf); repeat (first | (refine And.intro (DrawOk.mk (by first | (simp only [List.map_cons, List.map_nil, List.nil_append, List.cons_append, List.append_nil, updsL, List.length_cons, List.length_nil]; decide +kernel) | exact rfl)) ?_; conv => whnf) | (refine And.intro rfl ?_; conv => whnf) | (refine And.intro (fun _ => ?_) (fun h => Bool.noConfusion h); conv => whnf) | (refine And.intro (fun h => Bool.noConfusion h) (fun _ => ?_); conv => whnf))
        refine Exists.intro [] (And.intro List.nodup_nil ?_); ((conv => whnf); repeat (first | (refine And.intro (DrawOk.mk (by first | (simp only [List.map_cons, List.map_nil, List.nil_append, List.cons_append, List.append_nil, updsL, List.length_cons, List.length_nil]; decide +kernel) | exact rfl)) ?_; conv => whnf) | (refine And.intro rfl ?_; conv => whnf) | (refine And.intro (fun _ => ?_) (fun h => Bool.noConfusion h); conv => whnf) | (refine And.intro (fun h => Bool.noConfusion h) (fun _ => ?_); conv => whnf)))
        exact congrArg (fun s => AT.tup [strV s, i64V 0]) (wrow_end m j)
    · rw [sput_no (fun h => hm (by obtain ⟨a, b, c, d⟩ := h; rw [Int.toNat_natCast] at d; omega))]
      refine fun_of_vc tabOk mixOk Try.func80 rfl (by rfl) (rs := [.tmp 4, .tmp 5]) rfl rfl 48 ?_; rw [Try.ntmps80]
      (conv => whnf); repeat (first | (refine And.intro (DrawOk.mk (by first | (simp only [List.map_cons, List.map_nil, List.nil_append, List.cons_append, List.append_nil, updsL, List.length_cons, List.length_nil]; decide +kernel) | exact rfl)) ?_; conv => whnf) | (refine And.intro rfl ?_; conv => whnf) | (refine And.intro (fun _ => ?_) (fun h => Bool.noConfusion h); conv => whnf) | (refine And.intro (fun h => Bool.noConfusion h) (fun _ => ?_); conv => whnf))
      refine And.intro (fun h => by have := of_decide_eq_true h; omega) (fun _ => ?_)
      (conv => whnf); repeat (first | (refine And.intro (DrawOk.mk (by first | (simp only [List.map_cons, List.map_nil, List.nil_append, List.cons_append, List.append_nil, updsL, List.length_cons, List.length_nil]; decide +kernel) | exact rfl)) ?_; conv => whnf) | (refine And.intro rfl ?_; conv => whnf) | (refine And.intro (fun _ => ?_) (fun h => Bool.noConfusion h); conv => whnf) | (refine And.intro (fun h => Bool.noConfusion h) (fun _ => ?_); conv => whnf))
      refine And.intro (fun h => by have := of_decide_eq_true h; omega) (fun _ => ?_)
      (conv => whnf); repeat (first | (refine And.intro (DrawOk.mk (by first | (simp only [List.map_cons, List.map_nil, List.nil_append, List.cons_append, List.append_nil, updsL, List.length_cons, List.length_nil]; decide +kernel) | exact rfl)) ?_; conv => whnf) | (refine And.intro rfl ?_; conv => whnf) | (refine And.intro (fun _ => ?_) (fun h => Bool.noConfusion h); conv => whnf) | (refine And.intro (fun h => Bool.noConfusion h) (fun _ => ?_); conv => whnf))
      rw [hw8]
      refine ⟨by omega, ?_⟩
      (conv => whnf); repeat (first | (refine And.intro (DrawOk.mk (by first | (simp only [List.map_cons, List.map_nil, List.nil_append, List.cons_append, List.append_nil, updsL, List.length_cons, List.length_nil]; decide +kernel) | exact rfl)) ?_; conv => whnf) | (refine And.intro rfl ?_; conv => whnf) | (refine And.intro (fun _ => ?_) (fun h => Bool.noConfusion h); conv => whnf) | (refine And.intro (fun h => Bool.noConfusion h) (fun _ => ?_); conv => whnf))
      rw [shlk g1 g7]
      refine And.intro (fun h => ?_) (fun h => by have := of_decide_eq_false h; omega)
      (conv => whnf); repeat (first | (refine And.intro (DrawOk.mk (by first | (simp only [List.map_cons, List.map_nil, List.nil_append, List.cons_append, List.append_nil, updsL, List.length_cons, List.length_nil]; decide +kernel) | exact rfl)) ?_; conv => whnf) | (refine And.intro rfl ?_; conv => whnf) | (refine And.intro (fun _ => ?_) (fun h => Bool.noConfusion h); conv => whnf) | (refine And.intro (fun h => Bool.noConfusion h) (fun _ => ?_); conv => whnf))
      refine Exists.intro [] (And.intro List.nodup_nil ?_); ((conv => whnf); repeat (first | (refine And.intro (DrawOk.mk (by first | (simp only [List.map_cons, List.map_nil, List.nil_append, List.cons_append, List.append_nil, updsL, List.length_cons, List.length_nil]; decide +kernel) | exact rfl)) ?_; conv => whnf) | (refine And.intro rfl ?_; conv => whnf) | (refine And.intro (fun _ => ?_) (fun h => Bool.noConfusion h); conv => whnf) | (refine And.intro (fun h => Bool.noConfusion h) (fun _ => ?_); conv => whnf)))
      rfl
end Go.Proofs.Ytkpicojhnnkibaa.Ab
