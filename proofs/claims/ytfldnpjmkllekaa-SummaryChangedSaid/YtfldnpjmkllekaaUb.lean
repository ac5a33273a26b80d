/- Summaries: the fold, Make and Verify. -/
import Derived.Test.YtfldnpjmkllekaaUa
namespace Go.Proofs.Ytfldnpjmkllekaa.Ab
set_option linter.unusedVariables false
set_option linter.unusedSimpArgs false
open Go.RowKit

theorem sfold_step {s : ByteArray} {ss : List ByteArray} {B : List UInt8} {lo hi : Int} (h1 : (rdec s).2 = 0) (h2 : ¬ ((rdec s).1.k ≠ 1 ∧ (rdec s).1.k ≠ 2)) :
    sfold (s :: ss) B lo hi = sfold ss (B ++ (sL s).take 36) (if (rdec s).1.v < lo then (rdec s).1.v else lo) (if (rdec s).1.v > hi then (rdec s).1.v else hi) := by
  rw [sfold, if_neg (by omega), if_neg h2]
theorem sfold_err {s : ByteArray} {ss : List ByteArray} {B : List UInt8} {lo hi : Int} (h1 : (rdec s).2 ≠ 0) : sfold (s :: ss) B lo hi = ((rdec s).2, B, lo, hi) := by rw [sfold, if_pos h1]
theorem sfold_kind {s : ByteArray} {ss : List ByteArray} {B : List UInt8} {lo hi : Int} (h1 : (rdec s).2 = 0) (h2 : (rdec s).1.k ≠ 1 ∧ (rdec s).1.k ≠ 2) : sfold (s :: ss) B lo hi = (3, B, lo, hi) := by
  rw [sfold, if_neg (by omega), if_pos h2]
set_option maxRecDepth 100000 in
set_option maxHeartbeats 16000000 in
theorem sumFold (ss : List ByteArray) (hsz : ∀ s ∈ ss, s.size ≤ 1000000) (hN : ss.length ≤ 1000000) (B0 : List UInt8) (lo0 hi0 : Int) (e : Int) (B1 : List UInt8) (lo1 hi1 : Int) (hR : sfold ss B0 lo0 hi0 = (e, B1, lo1, hi1)) :
    FunV Try.prog 53 [u32c (crcN B0), i64c lo0, i64c hi0] [slV (sV ss), .c (.clo 54 [.ptr 0 0 0, .ptr 1 0 0, .ptr 2 0 0])]
      [u32c (crcN B1), i64c lo1, i64c hi1] (.v (i64V e)) := by
  have hl : (sV ss).length = ss.length := sLen ss
  refine funV_of_vc tabOk mixOk Try.func53 rfl (by rfl) (rs := [.tmp 4]) rfl rfl rfl rfl rfl rfl 40 ?_; rw [Try.ntmps53]
  (conv => whnf); repeat (first | (refine And.intro rfl ?_; conv => whnf) | (refine And.intro (fun _ => ?_) (fun h => Bool.noConfusion h); conv => whnf) | (refine And.intro (fun h => Bool.noConfusion h) (fun _ => ?_); conv => whnf))
  refine vc_loop [1, 9, 10] [] (X := Nat × List UInt8 × Int × Int) (fun x gs => [(11, ATint x.1)]) (fun x gs => [(40, .var 0 (u32c (crcN x.2.1))), (41, .var 0 (i64c x.2.2.1)), (42, .var 0 (i64c x.2.2.2))]) (fun x => x.1 ≤ ss.length ∧ sfold (ss.drop x.1) x.2.1 x.2.2.1 x.2.2.2 = (e, B1, lo1, hi1)) (fun x => ss.length - x.1) _ (Ghost.refl _) (0, B0, lo0, hi0) ⟨Nat.zero_le _, hR⟩ ?_ ?_
  · (refine And.intro rfl (And.intro rfl ?_)); (repeat' (first | exact trivial | exact rfl | apply And.intro | (refine congrArg (Value.int .i64) (w64_nat ?_); omega)))
  rintro gs ⟨i, B, lo, hi⟩ ⟨hile, hS⟩
  dsimp only at hile hS ⊢
  (conv => whnf); repeat (first | (refine And.intro rfl ?_; conv => whnf) | (refine And.intro (fun _ => ?_) (fun h => Bool.noConfusion h); conv => whnf) | (refine And.intro (fun h => Bool.noConfusion h) (fun _ => ?_); conv => whnf))
  refine And.intro (fun h => ?_) (fun h => ?_)
  · have hlt : i < ss.length := by have := of_decide_eq_true h; omega
    rw [List.drop_eq_getElem_cons hlt] at hS
    obtain ⟨s, hs⟩ : ∃ s, ss[i] = s := ⟨_, rfl⟩
    have hit := sItem hlt
    rw [hs] at hS hit
    have hd := rdecF s (hs ▸ hsz _ (List.getElem_mem hlt))
    have h40 : (rdec s).2 = 0 → s.size = 40 := fun h => by
      rcases Nat.decEq s.size 40 with h4 | h4
      · rw [rdec_len h4] at h; exact absurd h (by decide)
      · exact h4
    have f1 := sfold_err (s := s) (ss := ss.drop (i + 1)) (B := B) (lo := lo) (hi := hi)
    have f2 := sfold_kind (s := s) (ss := ss.drop (i + 1)) (B := B) (lo := lo) (hi := hi)
    have f3 := sfold_step (s := s) (ss := ss.drop (i + 1)) (B := B) (lo := lo) (hi := hi)
    generalize rdec s = Y at hd h40 f1 f2 f3
    obtain ⟨⟨k, b, v, m, p⟩, er⟩ := Y
    dsimp only at hd h40 f1 f2 f3
    (conv => whnf); repeat (first | (refine And.intro rfl ?_; conv => whnf) | (refine And.intro (fun _ => ?_) (fun h => Bool.noConfusion h); conv => whnf) | (refine And.intro (fun h => Bool.noConfusion h) (fun _ => ?_); conv => whnf))
    refine ⟨by omega, _, hit, rfl, ?_⟩
    (conv => whnf); repeat (first | (refine And.intro rfl ?_; conv => whnf) | (refine And.intro (fun _ => ?_) (fun h => Bool.noConfusion h); conv => whnf) | (refine And.intro (fun h => Bool.noConfusion h) (fun _ => ?_); conv => whnf))
    refine ⟨_, _, hd, ?_⟩
    (conv => whnf); repeat (first | (refine And.intro rfl ?_; conv => whnf) | (refine And.intro (fun _ => ?_) (fun h => Bool.noConfusion h); conv => whnf) | (refine And.intro (fun h => Bool.noConfusion h) (fun _ => ?_); conv => whnf))
    refine And.intro (fun h1 => ?_) (fun h1 => ?_)
    · rw [f1 (by simpa using h1)] at hS
      injection hS with e1 hS
      injection hS with e2 hS
      injection hS with e3 e4
      subst e1 e2 e3 e4
      (conv => whnf); repeat (first | (refine And.intro rfl ?_; conv => whnf) | (refine And.intro (fun _ => ?_) (fun h => Bool.noConfusion h); conv => whnf) | (refine And.intro (fun h => Bool.noConfusion h) (fun _ => ?_); conv => whnf))
      exact ⟨⟨rfl, rfl, rfl, trivial⟩, ⟨rfl, rfl⟩⟩
    · have h1' : er = 0 := by simpa using h1
      (conv => whnf); repeat (first | (refine And.intro rfl ?_; conv => whnf) | (refine And.intro (fun _ => ?_) (fun h => Bool.noConfusion h); conv => whnf) | (refine And.intro (fun h => Bool.noConfusion h) (fun _ => ?_); conv => whnf))
      repeat' (first | ((refine And.intro (fun h => ?_) (fun h => ?_)) <;> (try simp at h) <;> ((conv => whnf); repeat (first | (refine And.intro rfl ?_; conv => whnf) | (refine And.intro (fun _ => ?_) (fun h => Bool.noConfusion h); conv => whnf) | (refine And.intro (fun h => Bool.noConfusion h) (fun _ => ?_); conv => whnf)))) | fail)
      · rw [f2 h1' ⟨by assumption, by assumption⟩] at hS
        injection hS with e1 hS
        injection hS with e2 hS
        injection hS with e3 e4
        subst e1 e2 e3 e4
        exact ⟨⟨rfl, rfl, rfl, trivial⟩, ⟨rfl, rfl⟩⟩
      all_goals
        rw [f3 h1' (by omega)] at hS
        refine Or.inr ⟨[40, 41, 42], _, _, _, sumClo B lo hi s (h40 h1') k b v m p, rfl, rfl, ?_⟩
        (conv => whnf); repeat (first | (refine And.intro rfl ?_; conv => whnf) | (refine And.intro (fun _ => ?_) (fun h => Bool.noConfusion h); conv => whnf) | (refine And.intro (fun h => Bool.noConfusion h) (fun _ => ?_); conv => whnf))
        refine again (i + 1, B ++ (sL s).take 36, (if v < lo then v else lo), (if v > hi then v else hi)) ⟨hlt, hS⟩ (by dsimp only; omega) ?_
        (refine And.intro rfl (And.intro rfl ?_)); (repeat' (first | exact trivial | exact rfl | apply And.intro | (refine congrArg (Value.int .i64) (w64_nat ?_); omega)))
  · obtain rfl : i = ss.length := by have := of_decide_eq_false h; omega
    rw [List.drop_length] at hS
    injection hS with e1 hS
    injection hS with e2 hS
    injection hS with e3 e4
    subst e1 e2 e3 e4
    (conv => whnf); repeat (first | (refine And.intro rfl ?_; conv => whnf) | (refine And.intro (fun _ => ?_) (fun h => Bool.noConfusion h); conv => whnf) | (refine And.intro (fun h => Bool.noConfusion h) (fun _ => ?_); conv => whnf))
    exact ⟨⟨rfl, rfl, rfl, trivial⟩, ⟨rfl, rfl⟩⟩
end Go.Proofs.Ytfldnpjmkllekaa.Ab
