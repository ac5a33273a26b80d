/- Summaries: Make and Verify, the program's and the document's. -/
import Derived.Test.YtfldnpjmkllekaaUb
namespace Go.Proofs.Ytfldnpjmkllekaa.Ab
set_option linter.unusedVariables false
set_option linter.unusedSimpArgs false
open Go.RowKit

theorem sput_sz (n : Int) (k : Int) (hk : k.toNat ≤ 7) : (sput n k).1.size ≤ 7 := by
  unfold sput
  split
  · show (sS (putB n.toNat k.toNat)).size ≤ 7
    rw [sS_size, putB_len]
    exact hk
  · exact Nat.zero_le _
set_option maxRecDepth 100000 in
set_option maxHeartbeats 16000000 in
theorem smakeF (ss : List ByteArray) (hsz : ss.length ≤ 64 → ∀ s ∈ ss, s.size ≤ 1000000) : Fun Try.prog 38 [slV (sV ss)] [] (.tup [rV (smake ss).1, i64V (smake ss).2]) := by
  have hl : (sV ss).length = ss.length := sLen ss
  by_cases hN : ss.length < 1 ∨ 64 < ss.length
  · have hm : smake ss = (r0, 19) := by unfold smake; rw [if_pos hN]
    rw [hm]
    refine fun_of_vc tabOk mixOk Try.func38 rfl (by rfl) (rs := [.cell 2 34, .tmp 3]) rfl rfl 51 ?_; rw [Try.ntmps38]
    (conv => whnf); repeat (first | (refine And.intro rfl ?_; conv => whnf) | (refine And.intro (fun _ => ?_) (fun h => Bool.noConfusion h); conv => whnf) | (refine And.intro (fun h => Bool.noConfusion h) (fun _ => ?_); conv => whnf))
    repeat' (first | ((refine And.intro (fun h => ?_) (fun h => ?_)) <;> (try simp at h) <;> ((conv => whnf); repeat (first | (refine And.intro rfl ?_; conv => whnf) | (refine And.intro (fun _ => ?_) (fun h => Bool.noConfusion h); conv => whnf) | (refine And.intro (fun h => Bool.noConfusion h) (fun _ => ?_); conv => whnf)))) | fail)
    all_goals (first | omega | (refine Exists.intro [] (And.intro List.nodup_nil ?_); ((conv => whnf); repeat (first | (refine And.intro rfl ?_; conv => whnf) | (refine And.intro (fun _ => ?_) (fun h => Bool.noConfusion h); conv => whnf) | (refine And.intro (fun h => Bool.noConfusion h) (fun _ => ?_); conv => whnf))); rfl))
  · replace hsz := hsz (by omega)
    have hs0 := sumF ByteArray.empty (by decide)
    unfold smake
    rw [if_neg hN]
    have hf := fun e B lo hi (h : sfold ss [] 1099511627776 0 = (e, B, lo, hi)) => sumFold ss hsz (by omega) [] 1099511627776 0 e B lo hi h
    generalize sfold ss [] 1099511627776 0 = R at hf
    obtain ⟨e, B, lo, hi⟩ := R
    replace hf := hf e B lo hi rfl
    have p1 := putF lo 6
    have p2 := putF (crcN B) 4
    have z1 := sput_sz lo 6 (by decide)
    have z2 := sput_sz (crcN B) 4 (by decide)
    generalize sput lo 6 = X at p1 z1
    generalize sput (crcN B : Int) 4 = Y at p2 z2
    obtain ⟨X1, X2⟩ := X
    obtain ⟨Y1, Y2⟩ := Y
    dsimp only at p1 p2 z1 z2 ⊢
    have hw := crc_i64 B
    refine fun_of_vc tabOk mixOk Try.func38 rfl (by rfl) (rs := [.cell 2 34, .tmp 3]) rfl rfl 51 ?_; rw [Try.ntmps38]
    (conv => whnf); repeat (first | (refine And.intro rfl ?_; conv => whnf) | (refine And.intro (fun _ => ?_) (fun h => Bool.noConfusion h); conv => whnf) | (refine And.intro (fun h => Bool.noConfusion h) (fun _ => ?_); conv => whnf))
    refine And.intro (fun h => by have := of_decide_eq_true h; omega) (fun h => ?_)
    (conv => whnf); repeat (first | (refine And.intro rfl ?_; conv => whnf) | (refine And.intro (fun _ => ?_) (fun h => Bool.noConfusion h); conv => whnf) | (refine And.intro (fun h => Bool.noConfusion h) (fun _ => ?_); conv => whnf))
    refine And.intro (fun h => by have := of_decide_eq_true h; omega) (fun h => ?_)
    (conv => whnf); repeat (first | (refine And.intro rfl ?_; conv => whnf) | (refine And.intro (fun _ => ?_) (fun h => Bool.noConfusion h); conv => whnf) | (refine And.intro (fun h => Bool.noConfusion h) (fun _ => ?_); conv => whnf))
    refine ⟨_, _, hs0, ?_⟩
    (conv => whnf); repeat (first | (refine And.intro rfl ?_; conv => whnf) | (refine And.intro (fun _ => ?_) (fun h => Bool.noConfusion h); conv => whnf) | (refine And.intro (fun h => Bool.noConfusion h) (fun _ => ?_); conv => whnf))
    refine Or.inr ⟨[4, 5, 6], _, _, _, hf, rfl, rfl, ?_⟩
    (conv => whnf); repeat (first | (refine And.intro rfl ?_; conv => whnf) | (refine And.intro (fun _ => ?_) (fun h => Bool.noConfusion h); conv => whnf) | (refine And.intro (fun h => Bool.noConfusion h) (fun _ => ?_); conv => whnf))
    refine And.intro (fun h1 => ?_) (fun h1 => ?_)
    · (conv => whnf); repeat (first | (refine And.intro rfl ?_; conv => whnf) | (refine And.intro (fun _ => ?_) (fun h => Bool.noConfusion h); conv => whnf) | (refine And.intro (fun h => Bool.noConfusion h) (fun _ => ?_); conv => whnf))
      refine Exists.intro [] (And.intro List.nodup_nil ?_); ((conv => whnf); repeat (first | (refine And.intro rfl ?_; conv => whnf) | (refine And.intro (fun _ => ?_) (fun h => Bool.noConfusion h); conv => whnf) | (refine And.intro (fun h => Bool.noConfusion h) (fun _ => ?_); conv => whnf)))
      rw [if_pos (by simpa using h1)]
      rfl
    (conv => whnf); repeat (first | (refine And.intro rfl ?_; conv => whnf) | (refine And.intro (fun _ => ?_) (fun h => Bool.noConfusion h); conv => whnf) | (refine And.intro (fun h => Bool.noConfusion h) (fun _ => ?_); conv => whnf))
    refine ⟨_, _, p1, ?_⟩
    (conv => whnf); repeat (first | (refine And.intro rfl ?_; conv => whnf) | (refine And.intro (fun _ => ?_) (fun h => Bool.noConfusion h); conv => whnf) | (refine And.intro (fun h => Bool.noConfusion h) (fun _ => ?_); conv => whnf))
    rw [hw]
    refine ⟨_, _, p2, ?_⟩
    (conv => whnf); repeat (first | (refine And.intro rfl ?_; conv => whnf) | (refine And.intro (fun _ => ?_) (fun h => Bool.noConfusion h); conv => whnf) | (refine And.intro (fun h => Bool.noConfusion h) (fun _ => ?_); conv => whnf))
    refine ⟨by omega, ?_⟩
    (conv => whnf); repeat (first | (refine And.intro rfl ?_; conv => whnf) | (refine And.intro (fun _ => ?_) (fun h => Bool.noConfusion h); conv => whnf) | (refine And.intro (fun h => Bool.noConfusion h) (fun _ => ?_); conv => whnf))
    refine Exists.intro [] (And.intro List.nodup_nil ?_); ((conv => whnf); repeat (first | (refine And.intro rfl ?_; conv => whnf) | (refine And.intro (fun _ => ?_) (fun h => Bool.noConfusion h); conv => whnf) | (refine And.intro (fun h => Bool.noConfusion h) (fun _ => ?_); conv => whnf)))
    rw [if_neg (by simpa using h1), hl]
    rfl
set_option maxRecDepth 100000 in
set_option maxHeartbeats 16000000 in
theorem smakeF' (ss : List ByteArray) (hsz : ss.length ≤ 64 → ∀ s ∈ ss, s.size ≤ 1000000) : Fun Try.prog 39 [slV (sV ss)] [] (.tup [rV (smake ss).1, i64V (smake ss).2]) := by
  have hl : (sV ss).length = ss.length := sLen ss
  by_cases hN : ss.length < 1 ∨ 64 < ss.length
  · have hm : smake ss = (r0, 19) := by unfold smake; rw [if_pos hN]
    rw [hm]
    refine fun_of_vc tabOk mixOk Try.func39 rfl (by rfl) (rs := [.cell 2 34, .tmp 3]) rfl rfl 88 ?_; rw [Try.ntmps39]
    (conv => whnf); repeat (first | (refine And.intro rfl ?_; conv => whnf) | (refine And.intro (fun _ => ?_) (fun h => Bool.noConfusion h); conv => whnf) | (refine And.intro (fun h => Bool.noConfusion h) (fun _ => ?_); conv => whnf))
    refine And.intro (fun h => ?_) (fun h => ?_)
    · (conv => whnf); repeat (first | (refine And.intro rfl ?_; conv => whnf) | (refine And.intro (fun _ => ?_) (fun h => Bool.noConfusion h); conv => whnf) | (refine And.intro (fun h => Bool.noConfusion h) (fun _ => ?_); conv => whnf))
      refine Exists.intro [] (And.intro List.nodup_nil ?_); ((conv => whnf); repeat (first | (refine And.intro rfl ?_; conv => whnf) | (refine And.intro (fun _ => ?_) (fun h => Bool.noConfusion h); conv => whnf) | (refine And.intro (fun h => Bool.noConfusion h) (fun _ => ?_); conv => whnf)))
      rfl
    have h0 : ¬ (((sV ss).length : Int) = 0) := fun e => by rw [e] at h; cases h
    (conv => whnf); repeat (first | (refine And.intro rfl ?_; conv => whnf) | (refine And.intro (fun _ => ?_) (fun h => Bool.noConfusion h); conv => whnf) | (refine And.intro (fun h => Bool.noConfusion h) (fun _ => ?_); conv => whnf))
    refine And.intro (fun h => ?_) (fun h => by have := of_decide_eq_false h; omega)
    (conv => whnf); repeat (first | (refine And.intro rfl ?_; conv => whnf) | (refine And.intro (fun _ => ?_) (fun h => Bool.noConfusion h); conv => whnf) | (refine And.intro (fun h => Bool.noConfusion h) (fun _ => ?_); conv => whnf))
    refine Exists.intro [] (And.intro List.nodup_nil ?_); ((conv => whnf); repeat (first | (refine And.intro rfl ?_; conv => whnf) | (refine And.intro (fun _ => ?_) (fun h => Bool.noConfusion h); conv => whnf) | (refine And.intro (fun h => Bool.noConfusion h) (fun _ => ?_); conv => whnf)))
    rfl
  · replace hsz := hsz (by omega)
    unfold smake
    rw [if_neg hN]
    generalize hR : sfold ss [] 1099511627776 0 = R
    obtain ⟨e, B1, lo1, hi1⟩ := R
    dsimp only
    refine fun_of_vc tabOk mixOk Try.func39 rfl (by rfl) (rs := [.cell 2 34, .tmp 3]) rfl rfl 88 ?_; rw [Try.ntmps39]
    (conv => whnf); repeat (first | (refine And.intro rfl ?_; conv => whnf) | (refine And.intro (fun _ => ?_) (fun h => Bool.noConfusion h); conv => whnf) | (refine And.intro (fun h => Bool.noConfusion h) (fun _ => ?_); conv => whnf))
    refine And.intro (fun h => ?_) (fun h => ?_)
    · exfalso
      have hz0 := beq_iff_eq.1 h
      omega
    (conv => whnf); repeat (first | (refine And.intro rfl ?_; conv => whnf) | (refine And.intro (fun _ => ?_) (fun h => Bool.noConfusion h); conv => whnf) | (refine And.intro (fun h => Bool.noConfusion h) (fun _ => ?_); conv => whnf))
    refine And.intro (fun h => by have := of_decide_eq_true h; omega) (fun h => ?_)
    (conv => whnf); repeat (first | (refine And.intro rfl ?_; conv => whnf) | (refine And.intro (fun _ => ?_) (fun h => Bool.noConfusion h); conv => whnf) | (refine And.intro (fun h => Bool.noConfusion h) (fun _ => ?_); conv => whnf))
    refine vc_loop [0, 2] [2] (X := Nat × List UInt8 × Int × Int) (fun x gs => [(7, ATint x.1), (6, .v (strV (sS x.2.1))), (4, ATint x.2.2.1), (5, ATint x.2.2.2)]) (fun x gs => []) (fun x => x.1 ≤ ss.length ∧ x.2.1.length ≤ 36 * x.1 ∧ sfold (ss.drop x.1) x.2.1 x.2.2.1 x.2.2.2 = (e, B1, lo1, hi1)) (fun x => ss.length - x.1) _ (Ghost.refl _) (0, [], 1099511627776, 0) ⟨Nat.zero_le _, Nat.zero_le _, hR⟩ ?_ ?_
    · (refine And.intro rfl (And.intro rfl ?_)); (repeat' (first | exact trivial | exact rfl | apply And.intro | (refine congrArg (Value.int .i64) (w64_nat ?_); omega)))
    rintro gs ⟨i, B, lo, hi⟩ ⟨hile, hBl, hS⟩
    dsimp only at hile hBl hS ⊢
    (conv => whnf); repeat (first | (refine And.intro rfl ?_; conv => whnf) | (refine And.intro (fun _ => ?_) (fun h => Bool.noConfusion h); conv => whnf) | (refine And.intro (fun h => Bool.noConfusion h) (fun _ => ?_); conv => whnf))
    refine And.intro (fun h => ?_) (fun h => ?_)
    · have hlt : i < ss.length := by have := of_decide_eq_true h; omega
      rw [List.drop_eq_getElem_cons hlt] at hS
      obtain ⟨s, hs⟩ : ∃ s, ss[i] = s := ⟨_, rfl⟩
      have hit := sItem hlt
      rw [hs] at hS hit
      have hd := rdecF' s (hs ▸ hsz _ (List.getElem_mem hlt))
      have h40 : (rdec s).2 = 0 → s.size = 40 := fun h => by
        rcases Nat.decEq s.size 40 with h4 | h4
        · rw [rdec_len h4] at h; exact absurd h (by decide)
        · exact h4
      have f1 := sfold_err (s := s) (ss := ss.drop (i + 1)) (B := B) (lo := lo) (hi := hi)
      have f2 := sfold_kind (s := s) (ss := ss.drop (i + 1)) (B := B) (lo := lo) (hi := hi)
      have f3 := sfold_step (s := s) (ss := ss.drop (i + 1)) (B := B) (lo := lo) (hi := hi)
      generalize rdec s = Y at hd h40 f1 f2 f3
      obtain ⟨⟨k, b, v, m, p⟩, er⟩ := Y
      dsimp only at hd h40 f1 f2 f3
      (conv => whnf); repeat (first | (refine And.intro rfl ?_; conv => whnf) | (refine And.intro (fun _ => ?_) (fun h => Bool.noConfusion h); conv => whnf) | (refine And.intro (fun h => Bool.noConfusion h) (fun _ => ?_); conv => whnf))
      refine ⟨by omega, _, hit, rfl, ?_⟩
      (conv => whnf); repeat (first | (refine And.intro rfl ?_; conv => whnf) | (refine And.intro (fun _ => ?_) (fun h => Bool.noConfusion h); conv => whnf) | (refine And.intro (fun h => Bool.noConfusion h) (fun _ => ?_); conv => whnf))
      refine ⟨_, _, hd, ?_⟩
      (conv => whnf); repeat (first | (refine And.intro rfl ?_; conv => whnf) | (refine And.intro (fun _ => ?_) (fun h => Bool.noConfusion h); conv => whnf) | (refine And.intro (fun h => Bool.noConfusion h) (fun _ => ?_); conv => whnf))
      refine And.intro (fun h1 => ?_) (fun h1 => ?_)
      · have h1' : er ≠ 0 := by simpa using h1
        rw [f1 h1'] at hS
        injection hS with e1 hS
        subst e1
        rw [if_pos h1']
        (conv => whnf); repeat (first | (refine And.intro rfl ?_; conv => whnf) | (refine And.intro (fun _ => ?_) (fun h => Bool.noConfusion h); conv => whnf) | (refine And.intro (fun h => Bool.noConfusion h) (fun _ => ?_); conv => whnf))
        refine Exists.intro [] (And.intro List.nodup_nil ?_); ((conv => whnf); repeat (first | (refine And.intro rfl ?_; conv => whnf) | (refine And.intro (fun _ => ?_) (fun h => Bool.noConfusion h); conv => whnf) | (refine And.intro (fun h => Bool.noConfusion h) (fun _ => ?_); conv => whnf)))
        rfl
      · have h1' : er = 0 := by simpa using h1
        (conv => whnf); repeat (first | (refine And.intro rfl ?_; conv => whnf) | (refine And.intro (fun _ => ?_) (fun h => Bool.noConfusion h); conv => whnf) | (refine And.intro (fun h => Bool.noConfusion h) (fun _ => ?_); conv => whnf))
        repeat' (first | ((refine And.intro (fun h => ?_) (fun h => ?_)) <;> (try simp at h) <;> ((conv => whnf); repeat (first | (refine And.intro rfl ?_; conv => whnf) | (refine And.intro (fun _ => ?_) (fun h => Bool.noConfusion h); conv => whnf) | (refine And.intro (fun h => Bool.noConfusion h) (fun _ => ?_); conv => whnf)))) | fail)
        · rw [f2 h1' ⟨by assumption, by assumption⟩] at hS
          injection hS with e1 hS
          subst e1
          refine Exists.intro [] (And.intro List.nodup_nil ?_); ((conv => whnf); repeat (first | (refine And.intro rfl ?_; conv => whnf) | (refine And.intro (fun _ => ?_) (fun h => Bool.noConfusion h); conv => whnf) | (refine And.intro (fun h => Bool.noConfusion h) (fun _ => ?_); conv => whnf)))
          rfl
        all_goals
          have h4 := h40 h1'
          rw [f3 h1' (by omega)] at hS
          have hex : sS B ++ s.extract (0 : Int).toNat (36 : Int).toNat = sS (B ++ (sL s).take 36) := sL_inj (by rw [sL_append, ex36 h4]; rfl)
          have hez : (s.extract (0 : Int).toNat (36 : Int).toNat).size = 36 := ex36_size h4
          have hBz : (sS B).size ≤ 2304 := by rw [sS_size]; omega
          have hBl' : (B ++ (sL s).take 36).length ≤ 36 * (i + 1) := by rw [List.length_append, List.length_take]; omega
          refine ⟨by omega, _, hit, rfl, ?_⟩
          (conv => whnf); repeat (first | (refine And.intro rfl ?_; conv => whnf) | (refine And.intro (fun _ => ?_) (fun h => Bool.noConfusion h); conv => whnf) | (refine And.intro (fun h => Bool.noConfusion h) (fun _ => ?_); conv => whnf))
          refine ⟨by decide, by decide, by omega, ?_⟩
          (conv => whnf); repeat (first | (refine And.intro rfl ?_; conv => whnf) | (refine And.intro (fun _ => ?_) (fun h => Bool.noConfusion h); conv => whnf) | (refine And.intro (fun h => Bool.noConfusion h) (fun _ => ?_); conv => whnf))
          refine ⟨by omega, ?_⟩
          (conv => whnf); repeat (first | (refine And.intro rfl ?_; conv => whnf) | (refine And.intro (fun _ => ?_) (fun h => Bool.noConfusion h); conv => whnf) | (refine And.intro (fun h => Bool.noConfusion h) (fun _ => ?_); conv => whnf))
          rw [hex]
          refine again (i + 1, B ++ (sL s).take 36, (if v < lo then v else lo), (if v > hi then v else hi)) ⟨hlt, hBl', hS⟩ (by dsimp only; omega) ?_
          (refine And.intro rfl (And.intro rfl ?_)); (repeat' (first | exact trivial | exact rfl | apply And.intro | (refine congrArg (Value.int .i64) (w64_nat ?_); omega)))
    · obtain rfl : i = ss.length := by have := of_decide_eq_false h; omega
      rw [List.drop_length] at hS
      injection hS with e1 hS
      injection hS with e2 hS
      injection hS with e3 e4
      subst e1 e2 e3 e4
      rw [if_neg (by decide)]
      have p1 := putF' lo 6
      have p2 := putF' (crcN B) 4
      have z1 := sput_sz lo 6 (by decide)
      have z2 := sput_sz (crcN B) 4 (by decide)
      have hsum := sumF' (sS B) (by rw [sS_size]; omega)
      rw [sL_S] at hsum
      have hw := crc_i64 B
      generalize sput lo 6 = X at p1 z1
      generalize sput (crcN B : Int) 4 = Y at p2 z2
      obtain ⟨X1, X2⟩ := X
      obtain ⟨Y1, Y2⟩ := Y
      dsimp only at p1 p2 z1 z2 ⊢
      (conv => whnf); repeat (first | (refine And.intro rfl ?_; conv => whnf) | (refine And.intro (fun _ => ?_) (fun h => Bool.noConfusion h); conv => whnf) | (refine And.intro (fun h => Bool.noConfusion h) (fun _ => ?_); conv => whnf))
      refine ⟨_, _, p1, ?_⟩
      (conv => whnf); repeat (first | (refine And.intro rfl ?_; conv => whnf) | (refine And.intro (fun _ => ?_) (fun h => Bool.noConfusion h); conv => whnf) | (refine And.intro (fun h => Bool.noConfusion h) (fun _ => ?_); conv => whnf))
      refine ⟨_, _, hsum, ?_⟩
      (conv => whnf); repeat (first | (refine And.intro rfl ?_; conv => whnf) | (refine And.intro (fun _ => ?_) (fun h => Bool.noConfusion h); conv => whnf) | (refine And.intro (fun h => Bool.noConfusion h) (fun _ => ?_); conv => whnf))
      rw [hw]
      refine ⟨_, _, p2, ?_⟩
      (conv => whnf); repeat (first | (refine And.intro rfl ?_; conv => whnf) | (refine And.intro (fun _ => ?_) (fun h => Bool.noConfusion h); conv => whnf) | (refine And.intro (fun h => Bool.noConfusion h) (fun _ => ?_); conv => whnf))
      refine ⟨by omega, ?_⟩
      (conv => whnf); repeat (first | (refine And.intro rfl ?_; conv => whnf) | (refine And.intro (fun _ => ?_) (fun h => Bool.noConfusion h); conv => whnf) | (refine And.intro (fun h => Bool.noConfusion h) (fun _ => ?_); conv => whnf))
      refine Exists.intro [] (And.intro List.nodup_nil ?_); ((conv => whnf); repeat (first | (refine And.intro rfl ?_; conv => whnf) | (refine And.intro (fun _ => ?_) (fun h => Bool.noConfusion h); conv => whnf) | (refine And.intro (fun h => Bool.noConfusion h) (fun _ => ?_); conv => whnf)))
      rw [hl]
      rfl
def sver (k b v m : Int) (p : ByteArray) (ss : List ByteArray) : Bool := (smake ss).2 == 0 && ((smake ss).1.k == k && ((smake ss).1.b == b && ((smake ss).1.v == v && ((smake ss).1.m == m && ((smake ss).1.p.toList == p.toList && true)))))
set_option maxRecDepth 100000 in
set_option maxHeartbeats 16000000 in
theorem sverF (k b v m : Int) (p : ByteArray) (ss : List ByteArray) (hsz : ss.length ≤ 64 → ∀ s ∈ ss, s.size ≤ 1000000) : Fun Try.prog 40 [recV k b v m p, slV (sV ss)] [] (ATbool (sver k b v m p ss)) := by
  have hm := smakeF ss hsz
  unfold sver
  generalize smake ss = Y at hm
  obtain ⟨⟨Y1, Y2, Y3, Y4, Y5⟩, Y6⟩ := Y
  dsimp only at hm
  refine fun_of_vc tabOk mixOk Try.func40 rfl (by rfl) (rs := [.tmp 4]) rfl rfl 23 ?_; rw [Try.ntmps40]
  (conv => whnf); repeat (first | (refine And.intro rfl ?_; conv => whnf) | (refine And.intro (fun _ => ?_) (fun h => Bool.noConfusion h); conv => whnf) | (refine And.intro (fun h => Bool.noConfusion h) (fun _ => ?_); conv => whnf))
  refine ⟨_, _, hm, ?_⟩
  (conv => whnf); repeat (first | (refine And.intro rfl ?_; conv => whnf) | (refine And.intro (fun _ => ?_) (fun h => Bool.noConfusion h); conv => whnf) | (refine And.intro (fun h => Bool.noConfusion h) (fun _ => ?_); conv => whnf))
  repeat' (first | ((refine And.intro (fun h => ?_) (fun h => ?_)) <;> (try simp at h) <;> ((conv => whnf); repeat (first | (refine And.intro rfl ?_; conv => whnf) | (refine And.intro (fun _ => ?_) (fun h => Bool.noConfusion h); conv => whnf) | (refine And.intro (fun h => Bool.noConfusion h) (fun _ => ?_); conv => whnf)))) | fail)
  all_goals (refine Exists.intro [] (And.intro List.nodup_nil ?_); ((conv => whnf); repeat (first | (refine And.intro rfl ?_; conv => whnf) | (refine And.intro (fun _ => ?_) (fun h => Bool.noConfusion h); conv => whnf) | (refine And.intro (fun h => Bool.noConfusion h) (fun _ => ?_); conv => whnf))))
  all_goals (refine congrArg ATbool ?_)
  all_goals first | (subst h; rfl) | (rw [beq_eq_false_iff_ne.mpr h]; rfl)
set_option maxRecDepth 100000 in
set_option maxHeartbeats 16000000 in
theorem sverF' (k b v m : Int) (p : ByteArray) (ss : List ByteArray) (hsz : ss.length ≤ 64 → ∀ s ∈ ss, s.size ≤ 1000000) : Fun Try.prog 41 [recV k b v m p, slV (sV ss)] [] (ATbool (sver k b v m p ss)) := by
  have hm := smakeF' ss hsz
  unfold sver
  generalize smake ss = Y at hm
  obtain ⟨⟨Y1, Y2, Y3, Y4, Y5⟩, Y6⟩ := Y
  dsimp only at hm
  refine fun_of_vc tabOk mixOk Try.func41 rfl (by rfl) (rs := [.tmp 4]) rfl rfl 23 ?_; rw [Try.ntmps41]
  (conv => whnf); repeat (first | (refine And.intro rfl ?_; conv => whnf) | (refine And.intro (fun _ => ?_) (fun h => Bool.noConfusion h); conv => whnf) | (refine And.intro (fun h => Bool.noConfusion h) (fun _ => ?_); conv => whnf))
  refine ⟨_, _, hm, ?_⟩
  (conv => whnf); repeat (first | (refine And.intro rfl ?_; conv => whnf) | (refine And.intro (fun _ => ?_) (fun h => Bool.noConfusion h); conv => whnf) | (refine And.intro (fun h => Bool.noConfusion h) (fun _ => ?_); conv => whnf))
  repeat' (first | ((refine And.intro (fun h => ?_) (fun h => ?_)) <;> (try simp at h) <;> ((conv => whnf); repeat (first | (refine And.intro rfl ?_; conv => whnf) | (refine And.intro (fun _ => ?_) (fun h => Bool.noConfusion h); conv => whnf) | (refine And.intro (fun h => Bool.noConfusion h) (fun _ => ?_); conv => whnf)))) | fail)
  all_goals (refine Exists.intro [] (And.intro List.nodup_nil ?_); ((conv => whnf); repeat (first | (refine And.intro rfl ?_; conv => whnf) | (refine And.intro (fun _ => ?_) (fun h => Bool.noConfusion h); conv => whnf) | (refine And.intro (fun h => Bool.noConfusion h) (fun _ => ?_); conv => whnf))))
  all_goals (refine congrArg ATbool ?_)
  all_goals first | (subst h; rfl) | (rw [beq_eq_false_iff_ne.mpr h]; rfl)
end Go.Proofs.Ytfldnpjmkllekaa.Ab
