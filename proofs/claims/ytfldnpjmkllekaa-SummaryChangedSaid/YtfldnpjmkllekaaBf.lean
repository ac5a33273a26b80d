/- Numbers as bytes: a number is read back. -/
import Derived.Test.YtfldnpjmkllekaaBe
namespace Go.Proofs.Ytfldnpjmkllekaa.Ab
set_option linter.unusedVariables false
set_option linter.unusedSimpArgs false
open Go.RowKit

theorem dmod_in2 {x n : Int} (h : 1 ≤ n) (h2 : n ≤ 4611686018427387904) : 0 ≤ dmod x n ∧ dmod x n < n := by
  unfold dmod
  rw [if_neg (by omega)]
  have h3 : x.tmod n < n := Int.tmod_lt_of_pos _ (by omega)
  have h4 : -n < x.tmod n := by
    have := Int.tmod_lt_of_pos (-x) (b := n) (by omega)
    rw [Int.neg_tmod] at this
    omega
  rw [show iwrap .i64 (x.tmod n + n) = x.tmod n + n from w64_in (by omega)]
  exact ⟨Int.tmod_nonneg _ (by omega), Int.tmod_lt_of_pos _ (by omega)⟩
theorem le500 {x y : Nat} (h : decide ((x : Int) + (y : Int) > 500) = false) : x + y ≤ 500 := by have := of_decide_eq_false h; omega
theorem sget_mid {b a : ByteArray} {m k : Nat} (h1 : 1 ≤ k) (h7 : k ≤ 7) (hm : m < 256 ^ k) : sget (b ++ sS (putB m k) ++ a) b.size k = ((m : Int), 0) := by
  rw [sget_ok h1 h7 (by rw [← sL_len (b ++ sS (putB m k) ++ a), sL_append, sL_append, sL_S, List.length_append, List.length_append, putB_len, sL_len]; omega)]
  rw [sL_append, sL_append, sL_S, List.append_assoc, List.drop_left' (sL_len b), List.take_left' (putB_len m k), getN_putB k m hm]
set_option maxRecDepth 100000 in
set_option maxHeartbeats 8000000 in
theorem codecBackF (n size : Int) (b a : ByteArray) (hb : b.size ≤ 1099511627776000) (hA : a.size ≤ 1099511627776000) : Fun Try.prog 3 [i64V n, i64V size, strV b, strV a] [] (ATbool true) := by
  have hd := dmod_in (x := size) (n := 7) (by decide) (by decide)
  have hm1 := modF size 7
  obtain ⟨k, hk, g1, g7⟩ : ∃ k : Nat, iwrap .i64 (1 + dmod size 7) = (k : Int) ∧ 1 ≤ k ∧ k ≤ 7 := ⟨(1 + dmod size 7).toNat, by rw [show iwrap .i64 (1 + dmod size 7) = 1 + dmod size 7 from w64_in (by omega)]; omega, by omega, by omega⟩
  have hw8 : iwrap .u64 (iwrap .i64 (8 * (k : Int))) = ((8 * k : Nat) : Int) := by
    rw [show iwrap .i64 (8 * (k : Int)) = ((8 * k : Nat) : Int) from (w64_in (by omega)).trans (by omega)]
    simp [iwrap, IntKind.wrap, IntKind.signed, IntKind.bits]
    omega
  have hpl := pow_le g7
  have hpos : 1 ≤ 256 ^ k := Nat.pow_pos (by decide)
  have hq := shlk g1 g7
  have hdm : 0 ≤ dmod n ((256 ^ k : Nat) : Int) ∧ dmod n ((256 ^ k : Nat) : Int) < ((256 ^ k : Nat) : Int) := by
    generalize 256 ^ k = q at hpl hpos
    exact dmod_in2 (by omega) (by omega)
  have hm2 := modF n ((256 ^ k : Nat) : Int)
  obtain ⟨m, hm, hlt⟩ : ∃ m : Nat, dmod n ((256 ^ k : Nat) : Int) = m ∧ m < 256 ^ k := ⟨(dmod n ((256 ^ k : Nat) : Int)).toNat, by omega, by omega⟩
  rw [hm] at hm2
  have hput := putF m k
  rw [sput_yes g1 g7 hlt] at hput
  dsimp only at hput
  have hsz : (sS (putB m k)).size = k := by rw [sS_size, putB_len]
  have hmid := sget_mid (b := b) (a := a) g1 g7 hlt
  have hs3 : (b ++ sS (putB m k) ++ a).size = b.size + k + a.size := by
    rw [← sL_len (b ++ sS (putB m k) ++ a), sL_append, sL_append, sL_S, List.length_append, List.length_append, putB_len, sL_len, sL_len]
  have hs2 : (b ++ sS (putB m k)).size = b.size + k := by
    rw [← sL_len (b ++ sS (putB m k)), sL_append, sL_S, List.length_append, putB_len, sL_len]
  have hws : iwrap .i64 ((b.size : Int) + a.size) = (b.size : Int) + a.size := w64_in (by omega)
  refine fun_of_vc tabOk mixOk Try.func3 rfl (by rfl) (rs := [.tmp 8]) rfl rfl 73 ?_; rw [Try.ntmps3]
  (conv => whnf); repeat (first | (refine And.intro rfl ?_; conv => whnf) | (refine And.intro (fun _ => ?_) (fun h => Bool.noConfusion h); conv => whnf) | (refine And.intro (fun h => Bool.noConfusion h) (fun _ => ?_); conv => whnf))
  refine ⟨_, _, hm1, ?_⟩
  (conv => whnf); repeat (first | (refine And.intro rfl ?_; conv => whnf) | (refine And.intro (fun _ => ?_) (fun h => Bool.noConfusion h); conv => whnf) | (refine And.intro (fun h => Bool.noConfusion h) (fun _ => ?_); conv => whnf))
  rw [hk, hw8]
  refine ⟨Int.natCast_nonneg _, ?_⟩
  (conv => whnf); repeat (first | (refine And.intro rfl ?_; conv => whnf) | (refine And.intro (fun _ => ?_) (fun h => Bool.noConfusion h); conv => whnf) | (refine And.intro (fun h => Bool.noConfusion h) (fun _ => ?_); conv => whnf))
  rw [hq]
  refine ⟨_, _, hm2, ?_⟩
  (conv => whnf); repeat (first | (refine And.intro rfl ?_; conv => whnf) | (refine And.intro (fun _ => ?_) (fun h => Bool.noConfusion h); conv => whnf) | (refine And.intro (fun h => Bool.noConfusion h) (fun _ => ?_); conv => whnf))
  rw [hws]
  refine And.intro (fun h => ?_) (fun h => ?_)
  · (conv => whnf); repeat (first | (refine And.intro rfl ?_; conv => whnf) | (refine And.intro (fun _ => ?_) (fun h => Bool.noConfusion h); conv => whnf) | (refine And.intro (fun h => Bool.noConfusion h) (fun _ => ?_); conv => whnf))
    refine ⟨_, _, cdAwake, ?_⟩
    (conv => whnf); repeat (first | (refine And.intro rfl ?_; conv => whnf) | (refine And.intro (fun _ => ?_) (fun h => Bool.noConfusion h); conv => whnf) | (refine And.intro (fun h => Bool.noConfusion h) (fun _ => ?_); conv => whnf))
    refine Exists.intro [] (And.intro List.nodup_nil ?_); ((conv => whnf); repeat (first | (refine And.intro rfl ?_; conv => whnf) | (refine And.intro (fun _ => ?_) (fun h => Bool.noConfusion h); conv => whnf) | (refine And.intro (fun h => Bool.noConfusion h) (fun _ => ?_); conv => whnf)))
    rfl
  have hab : b.size + a.size ≤ 500 := le500 h
  clear hd hw8 hpl hpos hq hdm hm hws hk hlt
  have hget := getF (b ++ sS (putB m k) ++ a) b.size k (by rw [hs3]; omega) (by clear hmid hput; omega) (by clear hmid hput; omega)
  rw [hmid] at hget
  dsimp only at hget
  (conv => whnf); repeat (first | (refine And.intro rfl ?_; conv => whnf) | (refine And.intro (fun _ => ?_) (fun h => Bool.noConfusion h); conv => whnf) | (refine And.intro (fun h => Bool.noConfusion h) (fun _ => ?_); conv => whnf))
  refine ⟨_, _, hput, ?_⟩
  (conv => whnf); repeat (first | (refine And.intro rfl ?_; conv => whnf) | (refine And.intro (fun _ => ?_) (fun h => Bool.noConfusion h); conv => whnf) | (refine And.intro (fun h => Bool.noConfusion h) (fun _ => ?_); conv => whnf))
  refine ⟨by omega, ?_⟩
  (conv => whnf); repeat (first | (refine And.intro rfl ?_; conv => whnf) | (refine And.intro (fun _ => ?_) (fun h => Bool.noConfusion h); conv => whnf) | (refine And.intro (fun h => Bool.noConfusion h) (fun _ => ?_); conv => whnf))
  refine ⟨by omega, ?_⟩
  (conv => whnf); repeat (first | (refine And.intro rfl ?_; conv => whnf) | (refine And.intro (fun _ => ?_) (fun h => Bool.noConfusion h); conv => whnf) | (refine And.intro (fun h => Bool.noConfusion h) (fun _ => ?_); conv => whnf))
  refine ⟨_, _, hget, ?_⟩
  (conv => whnf); repeat (first | (refine And.intro rfl ?_; conv => whnf) | (refine And.intro (fun _ => ?_) (fun h => Bool.noConfusion h); conv => whnf) | (refine And.intro (fun h => Bool.noConfusion h) (fun _ => ?_); conv => whnf))
  repeat' (first | ((refine And.intro (fun h => ?_) (fun h => ?_)) <;> (try simp at h) <;> ((conv => whnf); repeat (first | (refine And.intro rfl ?_; conv => whnf) | (refine And.intro (fun _ => ?_) (fun h => Bool.noConfusion h); conv => whnf) | (refine And.intro (fun h => Bool.noConfusion h) (fun _ => ?_); conv => whnf)))) | (refine ⟨_, _, cdAwake, ?_⟩; ((conv => whnf); repeat (first | (refine And.intro rfl ?_; conv => whnf) | (refine And.intro (fun _ => ?_) (fun h => Bool.noConfusion h); conv => whnf) | (refine And.intro (fun h => Bool.noConfusion h) (fun _ => ?_); conv => whnf)))) | fail)
  all_goals (refine Exists.intro [] (And.intro List.nodup_nil ?_); ((conv => whnf); repeat (first | (refine And.intro rfl ?_; conv => whnf) | (refine And.intro (fun _ => ?_) (fun h => Bool.noConfusion h); conv => whnf) | (refine And.intro (fun h => Bool.noConfusion h) (fun _ => ?_); conv => whnf))))
  all_goals exact congrArg ATbool (by simp [hsz])
end Go.Proofs.Ytfldnpjmkllekaa.Ab
namespace Go.Proofs.Ytfldnpjmkllekaa
set_option linter.unusedVariables false
set_option linter.unusedSimpArgs false
open Ab
set_option maxRecDepth 100000 in
theorem codecBack.walk {W : World} (a0 : Int) (w0 : (Lit.int .i64 a0).wf = true) (a1 : Int) (w1 : (Lit.int .i64 a1).wf = true) (s : ByteArray) (hs : s.size ≤ 140737488351232) (s3 : ByteArray) (hs3 : s3.size ≤ 140737488351232)
    (W' : World) (hW : W' = W := by rfl) : Calls Try.prog 3 #[.int .i64 a0, .int .i64 a1, .string s, .string s3] W' (True1 W') := by
  subst hW
  exact law_of_fun (codecBackF a0 a1 s s3 (by omega) (by omega)) rfl (reps_get (vs := [_, _, _, _]) ⟨.sc _ rfl, .sc _ rfl, .sc _ rfl, .sc _ rfl, trivial⟩)
end Go.Proofs.Ytfldnpjmkllekaa
