/- Numbers as bytes: Pad, the example, and the laws. -/
import Derived.Test.YtfldnpjmkllekaaBd
namespace Go.Proofs.Ytfldnpjmkllekaa.Ab
set_option linter.unusedVariables false
set_option linter.unusedSimpArgs false
open Go.RowKit

theorem repeat0 (c : Nat) : (⟨(Lib.repeatL (⟨#[0]⟩ : ByteArray).data.toList c).toArray⟩ : ByteArray) = sS (List.replicate c 0) := by
  show sS _ = _
  congr 1
  induction c with
  | zero => rfl
  | succ c ih => rw [Lib.repeatL, ih]; rfl
theorem repeatF (c : Nat) (hc : c ≤ 1000000) : Fun Try.prog 43 [strV ⟨#[0]⟩, i64V c] [] (.v (strV (sS (List.replicate c 0)))) := by
  rw [← repeat0]
  exact fun_of_calls (args := [.string ⟨#[0]⟩, .int .i64 c]) ⟨_, Try.func43, rfl, by rfl⟩ rfl (fun w => Try.strings_Repeat ⟨#[0]⟩ c w (by omega) (by
    rw [show (⟨#[0]⟩ : ByteArray).size = 1 from rfl]; omega))
theorem cVb_zero (c : Nat) : bytesStr (List.replicate c 0) = sS (List.replicate c 0) := by
  rw [bytesStr_eq]
  congr 1
  rw [List.map_replicate]
  rfl
theorem spad_small {b : ByteArray} {n : Int} (h : n ≤ b.size) : spad b n = b := by unfold spad; rw [if_pos h]
theorem spad_more {b : ByteArray} {c : Nat} : spad b ((b.size : Int) + ((c + 1 : Nat) : Int)) = sS (sL b ++ List.replicate (c + 1) 0) := by
  unfold spad
  rw [if_neg (by omega)]
  congr 3
  omega
theorem sel (b : ByteArray) (n : Int) : n ≤ b.size ∨ ∃ c : Nat, n = (b.size : Int) + ((c + 1 : Nat) : Int) := by
  by_cases h : n ≤ b.size
  · exact Or.inl h
  · exact Or.inr ⟨(n - b.size - 1).toNat, by omega⟩
set_option maxRecDepth 100000 in
set_option maxHeartbeats 8000000 in
theorem padF (b : ByteArray) (n : Int) (hb : b.size ≤ 1000000) (hn : n ≤ 1000000) : Fun Try.prog 19 [strV b, i64V n] [] (.v (strV (spad b n))) := by
  rcases sel b n with h | ⟨c, rfl⟩
  · rw [spad_small h]
    refine fun_of_vc tabOk mixOk Try.func19 rfl (by rfl) (rs := [.tmp 4]) rfl rfl 22 ?_; rw [Try.ntmps19]
    (conv => whnf); repeat (first | (refine And.intro rfl ?_; conv => whnf) | (refine And.intro (fun _ => ?_) (fun h => Bool.noConfusion h); conv => whnf) | (refine And.intro (fun h => Bool.noConfusion h) (fun _ => ?_); conv => whnf))
    refine And.intro (fun _ => ?_) (fun h2 => by have := of_decide_eq_false h2; omega)
    (conv => whnf); repeat (first | (refine And.intro rfl ?_; conv => whnf) | (refine And.intro (fun _ => ?_) (fun h => Bool.noConfusion h); conv => whnf) | (refine And.intro (fun h => Bool.noConfusion h) (fun _ => ?_); conv => whnf))
    refine Exists.intro [] (And.intro List.nodup_nil ?_); ((conv => whnf); repeat (first | (refine And.intro rfl ?_; conv => whnf) | (refine And.intro (fun _ => ?_) (fun h => Bool.noConfusion h); conv => whnf) | (refine And.intro (fun h => Bool.noConfusion h) (fun _ => ?_); conv => whnf)))
    rfl
  · rw [spad_more]
    have hw : iwrap .i64 ((b.size : Int) + ((c + 1 : Nat) : Int) - b.size) = ((c + 1 : Nat) : Int) := (w64_in (by omega)).trans (by omega)
    refine fun_of_vc tabOk mixOk Try.func19 rfl (by rfl) (rs := [.tmp 4]) rfl rfl 22 ?_; rw [Try.ntmps19]
    (conv => whnf); repeat (first | (refine And.intro rfl ?_; conv => whnf) | (refine And.intro (fun _ => ?_) (fun h => Bool.noConfusion h); conv => whnf) | (refine And.intro (fun h => Bool.noConfusion h) (fun _ => ?_); conv => whnf))
    refine And.intro (fun h2 => by have := of_decide_eq_true h2; omega) (fun _ => ?_)
    (conv => whnf); repeat (first | (refine And.intro rfl ?_; conv => whnf) | (refine And.intro (fun _ => ?_) (fun h => Bool.noConfusion h); conv => whnf) | (refine And.intro (fun h => Bool.noConfusion h) (fun _ => ?_); conv => whnf))
    rw [hw]
    refine ⟨_, _, repeatF (c + 1) (by omega), ?_⟩
    (conv => whnf); repeat (first | (refine And.intro rfl ?_; conv => whnf) | (refine And.intro (fun _ => ?_) (fun h => Bool.noConfusion h); conv => whnf) | (refine And.intro (fun h => Bool.noConfusion h) (fun _ => ?_); conv => whnf))
    refine ⟨_, _, joinC [_, _] (by simp) (by rw [cat2', sS_size, List.length_append, sL_len, sL_S, List.length_replicate]; omega), ?_⟩
    (conv => whnf); repeat (first | (refine And.intro rfl ?_; conv => whnf) | (refine And.intro (fun _ => ?_) (fun h => Bool.noConfusion h); conv => whnf) | (refine And.intro (fun h => Bool.noConfusion h) (fun _ => ?_); conv => whnf))
    refine Exists.intro [] (And.intro List.nodup_nil ?_); ((conv => whnf); repeat (first | (refine And.intro rfl ?_; conv => whnf) | (refine And.intro (fun _ => ?_) (fun h => Bool.noConfusion h); conv => whnf) | (refine And.intro (fun h => Bool.noConfusion h) (fun _ => ?_); conv => whnf)))
    exact congrArg (fun s => AT.v (strV s)) (cat2' _ _)
set_option maxRecDepth 100000 in
set_option maxHeartbeats 8000000 in
theorem padF' (b : ByteArray) (n : Int) (hb : b.size ≤ 1000000) (hn : n ≤ 1000000) : Fun Try.prog 20 [strV b, i64V n] [] (.v (strV (spad b n))) := by
  rcases sel b n with h | ⟨c, rfl⟩
  · rw [spad_small h]
    refine fun_of_vc tabOk mixOk Try.func20 rfl (by rfl) (rs := [.tmp 4]) rfl rfl 22 ?_; rw [Try.ntmps20]
    (conv => whnf); repeat (first | (refine And.intro rfl ?_; conv => whnf) | (refine And.intro (fun _ => ?_) (fun h => Bool.noConfusion h); conv => whnf) | (refine And.intro (fun h => Bool.noConfusion h) (fun _ => ?_); conv => whnf))
    refine And.intro (fun _ => ?_) (fun h2 => by have := of_decide_eq_false h2; omega)
    (conv => whnf); repeat (first | (refine And.intro rfl ?_; conv => whnf) | (refine And.intro (fun _ => ?_) (fun h => Bool.noConfusion h); conv => whnf) | (refine And.intro (fun h => Bool.noConfusion h) (fun _ => ?_); conv => whnf))
    refine Exists.intro [] (And.intro List.nodup_nil ?_); ((conv => whnf); repeat (first | (refine And.intro rfl ?_; conv => whnf) | (refine And.intro (fun _ => ?_) (fun h => Bool.noConfusion h); conv => whnf) | (refine And.intro (fun h => Bool.noConfusion h) (fun _ => ?_); conv => whnf)))
    rfl
  · rw [spad_more]
    have hw : iwrap .i64 ((b.size : Int) + ((c + 1 : Nat) : Int) - b.size) = ((c + 1 : Nat) : Int) := (w64_in (by omega)).trans (by omega)
    refine fun_of_vc tabOk mixOk Try.func20 rfl (by rfl) (rs := [.tmp 4]) rfl rfl 22 ?_; rw [Try.ntmps20]
    (conv => whnf); repeat (first | (refine And.intro rfl ?_; conv => whnf) | (refine And.intro (fun _ => ?_) (fun h => Bool.noConfusion h); conv => whnf) | (refine And.intro (fun h => Bool.noConfusion h) (fun _ => ?_); conv => whnf))
    refine And.intro (fun h2 => by have := of_decide_eq_true h2; omega) (fun _ => ?_)
    (conv => whnf); repeat (first | (refine And.intro rfl ?_; conv => whnf) | (refine And.intro (fun _ => ?_) (fun h => Bool.noConfusion h); conv => whnf) | (refine And.intro (fun h => Bool.noConfusion h) (fun _ => ?_); conv => whnf))
    rw [hw]
    refine ⟨by omega, rfl, bytes1 (by omega), by omega, ?_⟩
    (conv => whnf); repeat (first | (refine And.intro rfl ?_; conv => whnf) | (refine And.intro (fun _ => ?_) (fun h => Bool.noConfusion h); conv => whnf) | (refine And.intro (fun h => Bool.noConfusion h) (fun _ => ?_); conv => whnf))
    refine ⟨_, cVb_rep _, ?_⟩
    (conv => whnf); repeat (first | (refine And.intro rfl ?_; conv => whnf) | (refine And.intro (fun _ => ?_) (fun h => Bool.noConfusion h); conv => whnf) | (refine And.intro (fun h => Bool.noConfusion h) (fun _ => ?_); conv => whnf))
    rw [cVb_zero]
    refine ⟨by rw [sS_size, List.length_replicate]; omega, ?_⟩
    (conv => whnf); repeat (first | (refine And.intro rfl ?_; conv => whnf) | (refine And.intro (fun _ => ?_) (fun h => Bool.noConfusion h); conv => whnf) | (refine And.intro (fun h => Bool.noConfusion h) (fun _ => ?_); conv => whnf))
    refine Exists.intro [] (And.intro List.nodup_nil ?_); ((conv => whnf); repeat (first | (refine And.intro rfl ?_; conv => whnf) | (refine And.intro (fun _ => ?_) (fun h => Bool.noConfusion h); conv => whnf) | (refine And.intro (fun h => Bool.noConfusion h) (fun _ => ?_); conv => whnf)))
    exact congrArg (fun s => AT.v (strV s)) (by rw [← sS_append]; rfl)

theorem cdPut : Fun Try.prog 15 [i64V 258, i64V 2] [] (.tup [strV ⟨#[2, 1]⟩, i64V 0]) := by
  have := putF 258 2
  rw [show sput 258 2 = (⟨#[2, 1]⟩, 0) from (sput_yes (n := 258) (k := 2) (by decide) (by decide) (by decide)).trans rfl] at this
  exact this
theorem cdGet : Fun Try.prog 16 [strV ⟨#[2, 1]⟩, i64V 0, i64V 2] [] (.tup [i64V 258, i64V 0]) := by
  have := getF ⟨#[2, 1]⟩ 0 2 (by decide) (by decide) (by decide)
  rw [show sget ⟨#[2, 1]⟩ 0 2 = (258, 0) from (sget_ok (a := 0) (k := 2) (by decide) (by decide) (by decide)).trans rfl] at this
  exact this
set_option maxRecDepth 100000 in
set_option maxHeartbeats 8000000 in
theorem cdAwake : Fun Try.prog 14 [] [] (ATbool true) := by
  refine fun_of_vc tabOk mixOk Try.func14 rfl (by rfl) (rs := [.tmp 0]) rfl rfl 32 ?_; rw [Try.ntmps14]
  (conv => whnf); repeat (first | (refine And.intro rfl ?_; conv => whnf) | (refine And.intro (fun _ => ?_) (fun h => Bool.noConfusion h); conv => whnf) | (refine And.intro (fun h => Bool.noConfusion h) (fun _ => ?_); conv => whnf))
  refine ⟨_, _, cdPut, ?_⟩
  (conv => whnf); repeat (first | (refine And.intro rfl ?_; conv => whnf) | (refine And.intro (fun _ => ?_) (fun h => Bool.noConfusion h); conv => whnf) | (refine And.intro (fun h => Bool.noConfusion h) (fun _ => ?_); conv => whnf))
  refine ⟨_, _, cdGet, ?_⟩
  (conv => whnf); repeat (first | (refine And.intro rfl ?_; conv => whnf) | (refine And.intro (fun _ => ?_) (fun h => Bool.noConfusion h); conv => whnf) | (refine And.intro (fun h => Bool.noConfusion h) (fun _ => ?_); conv => whnf))
  repeat' (first | ((refine And.intro (fun h => ?_) (fun h => ?_)) <;> (try simp at h) <;> ((conv => whnf); repeat (first | (refine And.intro rfl ?_; conv => whnf) | (refine And.intro (fun _ => ?_) (fun h => Bool.noConfusion h); conv => whnf) | (refine And.intro (fun h => Bool.noConfusion h) (fun _ => ?_); conv => whnf)))) | fail)
  all_goals (refine Exists.intro [] (And.intro List.nodup_nil ?_); ((conv => whnf); repeat (first | (refine And.intro rfl ?_; conv => whnf) | (refine And.intro (fun _ => ?_) (fun h => Bool.noConfusion h); conv => whnf) | (refine And.intro (fun h => Bool.noConfusion h) (fun _ => ?_); conv => whnf))))
  all_goals rfl
set_option maxRecDepth 100000 in
set_option maxHeartbeats 8000000 in
theorem codecExactF (n size : Int) (b : ByteArray) (at_ width : Int) (ha : -9223372036854775808 ≤ at_ ∧ at_ ≤ 9223372036854775807) (hs : -9223372036854775808 ≤ size ∧ size ≤ 9223372036854775807) : Fun Try.prog 4 [i64V n, i64V size, strV b, i64V at_, i64V width] [] (ATbool true) := by
  have hd := dmod_in (x := width) (n := 600) (by decide) (by decide)
  generalize hw : dmod width 600 = w at hd
  have hm := modF width 600
  rw [hw] at hm
  refine fun_of_vc tabOk mixOk Try.func4 rfl (by rfl) (rs := [.tmp 10]) rfl rfl 86 ?_; rw [Try.ntmps4]
  (conv => whnf); repeat (first | (refine And.intro rfl ?_; conv => whnf) | (refine And.intro (fun _ => ?_) (fun h => Bool.noConfusion h); conv => whnf) | (refine And.intro (fun h => Bool.noConfusion h) (fun _ => ?_); conv => whnf))
  refine And.intro (fun h => ?_) (fun h => ?_)
  · (conv => whnf); repeat (first | (refine And.intro rfl ?_; conv => whnf) | (refine And.intro (fun _ => ?_) (fun h => Bool.noConfusion h); conv => whnf) | (refine And.intro (fun h => Bool.noConfusion h) (fun _ => ?_); conv => whnf))
    refine ⟨_, _, cdAwake, ?_⟩
    (conv => whnf); repeat (first | (refine And.intro rfl ?_; conv => whnf) | (refine And.intro (fun _ => ?_) (fun h => Bool.noConfusion h); conv => whnf) | (refine And.intro (fun h => Bool.noConfusion h) (fun _ => ?_); conv => whnf))
    refine Exists.intro [] (And.intro List.nodup_nil ?_); ((conv => whnf); repeat (first | (refine And.intro rfl ?_; conv => whnf) | (refine And.intro (fun _ => ?_) (fun h => Bool.noConfusion h); conv => whnf) | (refine And.intro (fun h => Bool.noConfusion h) (fun _ => ?_); conv => whnf)))
    rfl
  have hb : b.size ≤ 500 := by have := of_decide_eq_false h; omega
  (conv => whnf); repeat (first | (refine And.intro rfl ?_; conv => whnf) | (refine And.intro (fun _ => ?_) (fun h => Bool.noConfusion h); conv => whnf) | (refine And.intro (fun h => Bool.noConfusion h) (fun _ => ?_); conv => whnf))
  refine ⟨_, _, putF n size, ?_⟩
  (conv => whnf); repeat (first | (refine And.intro rfl ?_; conv => whnf) | (refine And.intro (fun _ => ?_) (fun h => Bool.noConfusion h); conv => whnf) | (refine And.intro (fun h => Bool.noConfusion h) (fun _ => ?_); conv => whnf))
  refine ⟨_, _, putF' n size, ?_⟩
  (conv => whnf); repeat (first | (refine And.intro rfl ?_; conv => whnf) | (refine And.intro (fun _ => ?_) (fun h => Bool.noConfusion h); conv => whnf) | (refine And.intro (fun h => Bool.noConfusion h) (fun _ => ?_); conv => whnf))
  refine ⟨_, _, getF b at_ size (by omega) ha hs, ?_⟩
  (conv => whnf); repeat (first | (refine And.intro rfl ?_; conv => whnf) | (refine And.intro (fun _ => ?_) (fun h => Bool.noConfusion h); conv => whnf) | (refine And.intro (fun h => Bool.noConfusion h) (fun _ => ?_); conv => whnf))
  refine ⟨_, _, getF' b at_ size (by omega) ha hs, ?_⟩
  (conv => whnf); repeat (first | (refine And.intro rfl ?_; conv => whnf) | (refine And.intro (fun _ => ?_) (fun h => Bool.noConfusion h); conv => whnf) | (refine And.intro (fun h => Bool.noConfusion h) (fun _ => ?_); conv => whnf))
  refine ⟨_, _, hm, ?_⟩
  (conv => whnf); repeat (first | (refine And.intro rfl ?_; conv => whnf) | (refine And.intro (fun _ => ?_) (fun h => Bool.noConfusion h); conv => whnf) | (refine And.intro (fun h => Bool.noConfusion h) (fun _ => ?_); conv => whnf))
  repeat' (first | ((refine And.intro (fun h => ?_) (fun h => ?_)) <;> (try simp at h) <;> ((conv => whnf); repeat (first | (refine And.intro rfl ?_; conv => whnf) | (refine And.intro (fun _ => ?_) (fun h => Bool.noConfusion h); conv => whnf) | (refine And.intro (fun h => Bool.noConfusion h) (fun _ => ?_); conv => whnf)))) | (refine ⟨_, _, cdAwake, ?_⟩; ((conv => whnf); repeat (first | (refine And.intro rfl ?_; conv => whnf) | (refine And.intro (fun _ => ?_) (fun h => Bool.noConfusion h); conv => whnf) | (refine And.intro (fun h => Bool.noConfusion h) (fun _ => ?_); conv => whnf)))) | (refine ⟨_, _, padF b w (by omega) (by omega), ?_⟩; ((conv => whnf); repeat (first | (refine And.intro rfl ?_; conv => whnf) | (refine And.intro (fun _ => ?_) (fun h => Bool.noConfusion h); conv => whnf) | (refine And.intro (fun h => Bool.noConfusion h) (fun _ => ?_); conv => whnf)))) | (refine ⟨_, _, padF' b w (by omega) (by omega), ?_⟩; ((conv => whnf); repeat (first | (refine And.intro rfl ?_; conv => whnf) | (refine And.intro (fun _ => ?_) (fun h => Bool.noConfusion h); conv => whnf) | (refine And.intro (fun h => Bool.noConfusion h) (fun _ => ?_); conv => whnf)))) | fail)
  all_goals (refine Exists.intro [] (And.intro List.nodup_nil ?_); ((conv => whnf); repeat (first | (refine And.intro rfl ?_; conv => whnf) | (refine And.intro (fun _ => ?_) (fun h => Bool.noConfusion h); conv => whnf) | (refine And.intro (fun h => Bool.noConfusion h) (fun _ => ?_); conv => whnf))))
  all_goals exact congrArg ATbool (by simp)
end Go.Proofs.Ytfldnpjmkllekaa.Ab
namespace Go.Proofs.Ytfldnpjmkllekaa
set_option linter.unusedVariables false
set_option linter.unusedSimpArgs false
open Ab
set_option maxRecDepth 100000 in
theorem codecExact.walk {W : World} (a0 : Int) (w0 : (Lit.int .i64 a0).wf = true) (a1 : Int) (w1 : (Lit.int .i64 a1).wf = true) (s : ByteArray) (hs : s.size ≤ 140737488351232) (a3 : Int) (w3 : (Lit.int .i64 a3).wf = true) (a4 : Int) (w4 : (Lit.int .i64 a4).wf = true)
    (W' : World) (hW : W' = W := by rfl) : Calls Try.prog 4 #[.int .i64 a0, .int .i64 a1, .string s, .int .i64 a3, .int .i64 a4] W' (True1 W') := by
  subst hW
  exact law_of_fun (codecExactF a0 a1 s a3 a4 (bounds_i64 w3) (bounds_i64 w1)) rfl (reps_get (vs := [_, _, _, _, _]) ⟨.sc _ rfl, .sc _ rfl, .sc _ rfl, .sc _ rfl, .sc _ rfl, trivial⟩)
end Go.Proofs.Ytfldnpjmkllekaa
