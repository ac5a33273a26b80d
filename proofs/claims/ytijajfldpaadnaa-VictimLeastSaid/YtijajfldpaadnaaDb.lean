/- Devices: Check and New of the reference. No condition. -/
import Derived.Test.YtijajfldpaadnaaDa
namespace Go.Proofs.Ytijajfldpaadnaa.Ab
set_option linter.unusedVariables false
set_option linter.unusedSimpArgs false
open Go.RowKit

set_option maxRecDepth 100000 in
set_option maxHeartbeats 8000000 in
theorem openF (st : Int) : Fun Try.prog 143 [i64V st] [] (ATbool (openB st)) := by
  by_cases h1 : st = 1
  · rw [show openB st = true from decide_eq_true (Or.inl h1)]
    refine fun_of_vc tabOk mixOk Try.func143 rfl (by rfl) (rs := [.tmp 2]) rfl rfl 13 ?_; rw [Try.ntmps143]
    (conv => whnf); repeat (first | (refine And.intro DrawOk.go ?_; conv => whnf) | (refine And.intro rfl ?_; conv => whnf) | (refine And.intro (fun _ => ?_) (fun h => Bool.noConfusion h); conv => whnf) | (refine And.intro (fun h => Bool.noConfusion h) (fun _ => ?_); conv => whnf))
    repeat' (first | ((refine And.intro (fun h => ?_) (fun h => ?_)) <;> (try simp at h) <;> ((conv => whnf); repeat (first | (refine And.intro DrawOk.go ?_; conv => whnf) | (refine And.intro rfl ?_; conv => whnf) | (refine And.intro (fun _ => ?_) (fun h => Bool.noConfusion h); conv => whnf) | (refine And.intro (fun h => Bool.noConfusion h) (fun _ => ?_); conv => whnf)))) | fail)
    all_goals first
      | (exfalso; omega)
      | (refine Exists.intro [] (And.intro List.nodup_nil ?_); ((conv => whnf); repeat (first | (refine And.intro DrawOk.go ?_; conv => whnf) | (refine And.intro rfl ?_; conv => whnf) | (refine And.intro (fun _ => ?_) (fun h => Bool.noConfusion h); conv => whnf) | (refine And.intro (fun h => Bool.noConfusion h) (fun _ => ?_); conv => whnf)))
         rfl)
  · rw [show openB st = (st == 2) from decide_eq_decide.2 ⟨fun h => by omega, Or.inr⟩]
    refine fun_of_vc tabOk mixOk Try.func143 rfl (by rfl) (rs := [.tmp 2]) rfl rfl 13 ?_; rw [Try.ntmps143]
    (conv => whnf); repeat (first | (refine And.intro DrawOk.go ?_; conv => whnf) | (refine And.intro rfl ?_; conv => whnf) | (refine And.intro (fun _ => ?_) (fun h => Bool.noConfusion h); conv => whnf) | (refine And.intro (fun h => Bool.noConfusion h) (fun _ => ?_); conv => whnf))
    repeat' (first | ((refine And.intro (fun h => ?_) (fun h => ?_)) <;> (try simp at h) <;> ((conv => whnf); repeat (first | (refine And.intro DrawOk.go ?_; conv => whnf) | (refine And.intro rfl ?_; conv => whnf) | (refine And.intro (fun _ => ?_) (fun h => Bool.noConfusion h); conv => whnf) | (refine And.intro (fun h => Bool.noConfusion h) (fun _ => ?_); conv => whnf)))) | fail)
    all_goals first
      | (exfalso; omega)
      | (refine Exists.intro [] (And.intro List.nodup_nil ?_); ((conv => whnf); repeat (first | (refine And.intro DrawOk.go ?_; conv => whnf) | (refine And.intro rfl ?_; conv => whnf) | (refine And.intro (fun _ => ?_) (fun h => Bool.noConfusion h); conv => whnf) | (refine And.intro (fun h => Bool.noConfusion h) (fun _ => ?_); conv => whnf)))
         rfl)
set_option maxRecDepth 100000 in
set_option maxHeartbeats 8000000 in
theorem actF (st : Int) : Fun Try.prog 144 [i64V st] [] (ATbool (actB st)) := by
  have ho := openF st
  have hR : actB st = (openB st || (st == 3)) := by unfold actB openB; rw [show (st == 3) = decide (st = 3) from rfl]; by_cases h1 : st = 1 ∨ st = 2 <;> by_cases h2 : st = 3 <;> simp [h1, h2] <;> omega
  rw [hR]
  generalize openB st = o at ho ⊢
  refine fun_of_vc tabOk mixOk Try.func144 rfl (by rfl) (rs := [.tmp 2]) rfl rfl 13 ?_; rw [Try.ntmps144]
  (conv => whnf); repeat (first | (refine And.intro DrawOk.go ?_; conv => whnf) | (refine And.intro rfl ?_; conv => whnf) | (refine And.intro (fun _ => ?_) (fun h => Bool.noConfusion h); conv => whnf) | (refine And.intro (fun h => Bool.noConfusion h) (fun _ => ?_); conv => whnf))
  refine ⟨_, _, ho, ?_⟩
  cases o with
  | true =>
    (conv => whnf); repeat (first | (refine And.intro DrawOk.go ?_; conv => whnf) | (refine And.intro rfl ?_; conv => whnf) | (refine And.intro (fun _ => ?_) (fun h => Bool.noConfusion h); conv => whnf) | (refine And.intro (fun h => Bool.noConfusion h) (fun _ => ?_); conv => whnf))
    refine Exists.intro [] (And.intro List.nodup_nil ?_); ((conv => whnf); repeat (first | (refine And.intro DrawOk.go ?_; conv => whnf) | (refine And.intro rfl ?_; conv => whnf) | (refine And.intro (fun _ => ?_) (fun h => Bool.noConfusion h); conv => whnf) | (refine And.intro (fun h => Bool.noConfusion h) (fun _ => ?_); conv => whnf)))
    rfl
  | false =>
    (conv => whnf); repeat (first | (refine And.intro DrawOk.go ?_; conv => whnf) | (refine And.intro rfl ?_; conv => whnf) | (refine And.intro (fun _ => ?_) (fun h => Bool.noConfusion h); conv => whnf) | (refine And.intro (fun h => Bool.noConfusion h) (fun _ => ?_); conv => whnf))
    refine Exists.intro [] (And.intro List.nodup_nil ?_); ((conv => whnf); repeat (first | (refine And.intro DrawOk.go ?_; conv => whnf) | (refine And.intro rfl ?_; conv => whnf) | (refine And.intro (fun _ => ?_) (fun h => Bool.noConfusion h); conv => whnf) | (refine And.intro (fun h => Bool.noConfusion h) (fun _ => ?_); conv => whnf)))
    rfl
set_option maxRecDepth 100000 in
set_option maxHeartbeats 8000000 in
theorem dcntF (s mo ma : Int) (zs : List Zn) (hl : zs.length ≤ 1000000) : Fun Try.prog 135 [dvA s mo ma zs] [] (.tup [i64V (cntO zs), i64V (cntA zs)]) := by
  refine fun_of_vc tabOk mixOk Try.func135 rfl (by rfl) (rs := [.tmp 2, .tmp 3]) rfl rfl 38 ?_; rw [Try.ntmps135]
  (conv => whnf); repeat (first | (refine And.intro DrawOk.go ?_; conv => whnf) | (refine And.intro rfl ?_; conv => whnf) | (refine And.intro (fun _ => ?_) (fun h => Bool.noConfusion h); conv => whnf) | (refine And.intro (fun h => Bool.noConfusion h) (fun _ => ?_); conv => whnf))
  refine vc_loop [1, 2, 3] [1] (X := Nat) (fun k gs => [(6, ATint k), (4, .v (i64V (cntO (zs.take k)))), (5, .v (i64V (cntA (zs.take k))))]) (fun _ _ => []) (fun k => k ≤ zs.length) (fun k => zs.length - k) _ (Ghost.refl _) 0 (Nat.zero_le _) ?_ ?_
  · (refine And.intro rfl (And.intro rfl ?_)); (repeat' (first | exact trivial | exact rfl | apply And.intro | (refine congrArg (Value.int .i64) (w64_nat ?_); omega)))
  rintro gs k hk
  have b1 := cntO_le (zs.take k)
  have b2 := cntA_le (zs.take k)
  rw [List.length_take] at b1 b2
  (conv => whnf); repeat (first | (refine And.intro DrawOk.go ?_; conv => whnf) | (refine And.intro rfl ?_; conv => whnf) | (refine And.intro (fun _ => ?_) (fun h => Bool.noConfusion h); conv => whnf) | (refine And.intro (fun h => Bool.noConfusion h) (fun _ => ?_); conv => whnf))
  refine And.intro (fun h => ?_) (fun h => ?_)
  · have hlt : k < zs.length := by have := of_decide_eq_true h; rw [zLen] at this; omega
    have e1 : cntO (zs.take (k + 1)) = cntO (zs.take k) + (if openB zs[k].st then 1 else 0) := by rw [List.take_succ_eq_append_getElem hlt, cntO_snoc]
    have e2 : cntA (zs.take (k + 1)) = cntA (zs.take k) + (if actB zs[k].st then 1 else 0) := by rw [List.take_succ_eq_append_getElem hlt, cntA_snoc]
    have o1 := openF zs[k].st
    have o2 := actF zs[k].st
    have hit := zItem hlt
    generalize zs[k] = z at e1 e2 o1 o2 hit
    generalize openB z.st = p1 at e1 o1
    generalize actB z.st = p2 at e2 o2
    obtain ⟨st, du, ss⟩ := z
    dsimp only at o1 o2
    (conv => whnf); repeat (first | (refine And.intro DrawOk.go ?_; conv => whnf) | (refine And.intro rfl ?_; conv => whnf) | (refine And.intro (fun _ => ?_) (fun h => Bool.noConfusion h); conv => whnf) | (refine And.intro (fun h => Bool.noConfusion h) (fun _ => ?_); conv => whnf))
    refine ⟨by omega, _, hit, rfl, ?_⟩
    (conv => whnf); repeat (first | (refine And.intro DrawOk.go ?_; conv => whnf) | (refine And.intro rfl ?_; conv => whnf) | (refine And.intro (fun _ => ?_) (fun h => Bool.noConfusion h); conv => whnf) | (refine And.intro (fun h => Bool.noConfusion h) (fun _ => ?_); conv => whnf))
    refine ⟨_, _, o1, ?_⟩
    cases p1 <;> cases p2
    all_goals
      ((conv => whnf); repeat (first | (refine And.intro DrawOk.go ?_; conv => whnf) | (refine And.intro rfl ?_; conv => whnf) | (refine And.intro (fun _ => ?_) (fun h => Bool.noConfusion h); conv => whnf) | (refine And.intro (fun h => Bool.noConfusion h) (fun _ => ?_); conv => whnf)))
      refine ⟨by omega, _, hit, rfl, ?_⟩
      ((conv => whnf); repeat (first | (refine And.intro DrawOk.go ?_; conv => whnf) | (refine And.intro rfl ?_; conv => whnf) | (refine And.intro (fun _ => ?_) (fun h => Bool.noConfusion h); conv => whnf) | (refine And.intro (fun h => Bool.noConfusion h) (fun _ => ?_); conv => whnf)))
      refine ⟨_, _, o2, ?_⟩
      ((conv => whnf); repeat (first | (refine And.intro DrawOk.go ?_; conv => whnf) | (refine And.intro rfl ?_; conv => whnf) | (refine And.intro (fun _ => ?_) (fun h => Bool.noConfusion h); conv => whnf) | (refine And.intro (fun h => Bool.noConfusion h) (fun _ => ?_); conv => whnf)))
      refine again (k + 1) hlt (by omega) ?_
      ((refine And.intro rfl (And.intro rfl ?_)); (repeat' (first | exact trivial | exact rfl | apply And.intro | (refine congrArg (Value.int .i64) (w64_nat ?_); omega))))
    all_goals first
      | exact congrArg (Value.int .i64) (by rw [e1]; first | (simp; done) | exact (w64_in (by omega)).trans (by simp))
      | exact congrArg (Value.int .i64) (by rw [e2]; first | (simp; done) | exact (w64_in (by omega)).trans (by simp))
  · have hge : ¬ k < zs.length := by have := of_decide_eq_false h; rw [zLen] at this; omega
    rw [List.take_of_length_le (Nat.le_of_not_lt hge)]
    (conv => whnf); repeat (first | (refine And.intro DrawOk.go ?_; conv => whnf) | (refine And.intro rfl ?_; conv => whnf) | (refine And.intro (fun _ => ?_) (fun h => Bool.noConfusion h); conv => whnf) | (refine And.intro (fun h => Bool.noConfusion h) (fun _ => ?_); conv => whnf))
    refine Exists.intro [] (And.intro List.nodup_nil ?_); ((conv => whnf); repeat (first | (refine And.intro DrawOk.go ?_; conv => whnf) | (refine And.intro rfl ?_; conv => whnf) | (refine And.intro (fun _ => ?_) (fun h => Bool.noConfusion h); conv => whnf) | (refine And.intro (fun h => Bool.noConfusion h) (fun _ => ?_); conv => whnf)))
    rfl
theorem sTake {ss : List ByteArray} {k : Nat} (h : k < ss.length) (h2 : ∀ s ∈ ss.take k, s.size = 40) (h3 : ss[k].size = 40) : ∀ s ∈ ss.take (k + 1), s.size = 40 := by
  intro s hs
  rw [List.take_succ_eq_append_getElem h] at hs
  rcases List.mem_append.1 hs with hs | hs
  · exact h2 s hs
  · rw [List.mem_singleton] at hs
    rw [hs]
    exact h3
set_option maxRecDepth 100000 in
set_option maxHeartbeats 16000000 in
theorem rightF (st du : Int) (ss : List ByteArray) (size : Int) (hl : ss.length ≤ 1000000) : Fun Try.prog 134 [zA st du ss, i64V size] [] (ATbool (rightB ⟨st, du, ss⟩ size)) := by
  by_cases q1 : 0 ≤ st ∧ st ≤ 5 ∧ (ss.length : Int) ≤ size ∧ 0 ≤ du ∧ du ≤ ss.length
  rotate_left
  · rw [show rightB ⟨st, du, ss⟩ size = false from decide_eq_false (fun h => q1 h.1)]
    refine fun_of_vc tabOk mixOk Try.func134 rfl (by rfl) (rs := [.tmp 4]) rfl rfl 66 ?_; rw [Try.ntmps134]
    (conv => whnf); repeat (first | (refine And.intro DrawOk.go ?_; conv => whnf) | (refine And.intro rfl ?_; conv => whnf) | (refine And.intro (fun _ => ?_) (fun h => Bool.noConfusion h); conv => whnf) | (refine And.intro (fun h => Bool.noConfusion h) (fun _ => ?_); conv => whnf))
    rw [sLen]
    repeat' (first | ((refine And.intro (fun h => ?_) (fun h => ?_)) <;> (try simp at h) <;> ((conv => whnf); repeat (first | (refine And.intro DrawOk.go ?_; conv => whnf) | (refine And.intro rfl ?_; conv => whnf) | (refine And.intro (fun _ => ?_) (fun h => Bool.noConfusion h); conv => whnf) | (refine And.intro (fun h => Bool.noConfusion h) (fun _ => ?_); conv => whnf)))) | fail)
    all_goals first
      | (exfalso; omega)
      | (refine Exists.intro [] (And.intro List.nodup_nil ?_); ((conv => whnf); repeat (first | (refine And.intro DrawOk.go ?_; conv => whnf) | (refine And.intro rfl ?_; conv => whnf) | (refine And.intro (fun _ => ?_) (fun h => Bool.noConfusion h); conv => whnf) | (refine And.intro (fun h => Bool.noConfusion h) (fun _ => ?_); conv => whnf)))
         rfl)
  refine fun_of_vc tabOk mixOk Try.func134 rfl (by rfl) (rs := [.tmp 4]) rfl rfl 66 ?_; rw [Try.ntmps134]
  (conv => whnf); repeat (first | (refine And.intro DrawOk.go ?_; conv => whnf) | (refine And.intro rfl ?_; conv => whnf) | (refine And.intro (fun _ => ?_) (fun h => Bool.noConfusion h); conv => whnf) | (refine And.intro (fun h => Bool.noConfusion h) (fun _ => ?_); conv => whnf))
  rw [sLen]
  repeat' (first | ((refine And.intro (fun h => ?_) (fun h => ?_)) <;> (try simp at h) <;> ((conv => whnf); repeat (first | (refine And.intro DrawOk.go ?_; conv => whnf) | (refine And.intro rfl ?_; conv => whnf) | (refine And.intro (fun _ => ?_) (fun h => Bool.noConfusion h); conv => whnf) | (refine And.intro (fun h => Bool.noConfusion h) (fun _ => ?_); conv => whnf)))) | fail)
  all_goals first
    | (exfalso; omega)
    | skip
  refine vc_loop [1, 2, 5] [2] (X := Nat) (fun k gs => [(6, ATint k)]) (fun _ _ => []) (fun k => k ≤ ss.length ∧ ∀ s ∈ ss.take k, s.size = 40) (fun k => ss.length - k) _ (Ghost.refl _) 0 ⟨Nat.zero_le _, fun s hs => by cases hs⟩ ?_ ?_
  · (refine And.intro rfl (And.intro rfl ?_)); (repeat' (first | exact trivial | exact rfl | apply And.intro | (refine congrArg (Value.int .i64) (w64_nat ?_); omega)))
  rintro gs k ⟨hk, he⟩
  (conv => whnf); repeat (first | (refine And.intro DrawOk.go ?_; conv => whnf) | (refine And.intro rfl ?_; conv => whnf) | (refine And.intro (fun _ => ?_) (fun h => Bool.noConfusion h); conv => whnf) | (refine And.intro (fun h => Bool.noConfusion h) (fun _ => ?_); conv => whnf))
  refine And.intro (fun h => ?_) (fun h => ?_)
  · have hlt : k < ss.length := by have := of_decide_eq_true h; omega
    (conv => whnf); repeat (first | (refine And.intro DrawOk.go ?_; conv => whnf) | (refine And.intro rfl ?_; conv => whnf) | (refine And.intro (fun _ => ?_) (fun h => Bool.noConfusion h); conv => whnf) | (refine And.intro (fun h => Bool.noConfusion h) (fun _ => ?_); conv => whnf))
    refine ⟨by omega, _, sItem hlt, rfl, ?_⟩
    (conv => whnf); repeat (first | (refine And.intro DrawOk.go ?_; conv => whnf) | (refine And.intro rfl ?_; conv => whnf) | (refine And.intro (fun _ => ?_) (fun h => Bool.noConfusion h); conv => whnf) | (refine And.intro (fun h => Bool.noConfusion h) (fun _ => ?_); conv => whnf))
    refine And.intro (fun h4 => ?_) (fun h4 => ?_)
    · have h4' : ss[k].size ≠ 40 := fun e => by rw [e] at h4; exact absurd h4 (by decide)
      rw [show rightB ⟨st, du, ss⟩ size = false from decide_eq_false (fun h => h4' (h.2.1 _ (List.getElem_mem hlt)))]
      (conv => whnf); repeat (first | (refine And.intro DrawOk.go ?_; conv => whnf) | (refine And.intro rfl ?_; conv => whnf) | (refine And.intro (fun _ => ?_) (fun h => Bool.noConfusion h); conv => whnf) | (refine And.intro (fun h => Bool.noConfusion h) (fun _ => ?_); conv => whnf))
      refine Exists.intro [] (And.intro List.nodup_nil ?_); ((conv => whnf); repeat (first | (refine And.intro DrawOk.go ?_; conv => whnf) | (refine And.intro rfl ?_; conv => whnf) | (refine And.intro (fun _ => ?_) (fun h => Bool.noConfusion h); conv => whnf) | (refine And.intro (fun h => Bool.noConfusion h) (fun _ => ?_); conv => whnf)))
      rfl
    · have h4' : ss[k].size = 40 := by
        have : ((ss[k].size : Int) != 40) = false := h4
        have := of_decide_eq_true (show decide ((ss[k].size : Int) = 40) = true by simpa using this)
        omega
      (conv => whnf); repeat (first | (refine And.intro DrawOk.go ?_; conv => whnf) | (refine And.intro rfl ?_; conv => whnf) | (refine And.intro (fun _ => ?_) (fun h => Bool.noConfusion h); conv => whnf) | (refine And.intro (fun h => Bool.noConfusion h) (fun _ => ?_); conv => whnf))
      refine again (k + 1) ⟨hlt, sTake hlt he h4'⟩ (by omega) ?_
      (refine And.intro rfl (And.intro rfl ?_)); (repeat' (first | exact trivial | exact rfl | apply And.intro | (refine congrArg (Value.int .i64) (w64_nat ?_); omega)))
  · have hge : ¬ k < ss.length := by have := of_decide_eq_false h; omega
    rw [List.take_of_length_le (Nat.le_of_not_lt hge)] at he
    have hR2 : rightB ⟨st, du, ss⟩ size = decide (((st = 0 ∨ st = 5) ∧ ss.length = 0) ∨ (st = 4 ∧ du = ss.length) ∨ (¬ (st = 0 ∨ st = 5 ∨ st = 4) ∧ (ss.length : Int) < size)) := by
      exact decide_eq_decide.2 ⟨fun h => h.2.2, fun h => ⟨q1, he, h⟩⟩
    rw [hR2]
    clear hR2 he
    (conv => whnf); repeat (first | (refine And.intro DrawOk.go ?_; conv => whnf) | (refine And.intro rfl ?_; conv => whnf) | (refine And.intro (fun _ => ?_) (fun h => Bool.noConfusion h); conv => whnf) | (refine And.intro (fun h => Bool.noConfusion h) (fun _ => ?_); conv => whnf))
    repeat' (first | ((refine And.intro (fun h => ?_) (fun h => ?_)) <;> (try simp at h) <;> ((conv => whnf); repeat (first | (refine And.intro DrawOk.go ?_; conv => whnf) | (refine And.intro rfl ?_; conv => whnf) | (refine And.intro (fun _ => ?_) (fun h => Bool.noConfusion h); conv => whnf) | (refine And.intro (fun h => Bool.noConfusion h) (fun _ => ?_); conv => whnf)))) | fail)
    all_goals
      refine Exists.intro [] (And.intro List.nodup_nil ?_); ((conv => whnf); repeat (first | (refine And.intro DrawOk.go ?_; conv => whnf) | (refine And.intro rfl ?_; conv => whnf) | (refine And.intro (fun _ => ?_) (fun h => Bool.noConfusion h); conv => whnf) | (refine And.intro (fun h => Bool.noConfusion h) (fun _ => ?_); conv => whnf)))
      first
        | exact congrArg ATbool (decide_eq_decide.2 (by omega))
        | exact congrArg ATbool ((show ((ss.length : Int) == 0) = decide ((ss.length : Int) = 0) from rfl).trans (decide_eq_decide.2 (by omega)))
        | exact congrArg ATbool ((show (du == (ss.length : Int)) = decide (du = (ss.length : Int)) from rfl).trans (decide_eq_decide.2 (by omega)))
set_option maxRecDepth 100000 in
set_option maxHeartbeats 16000000 in
theorem dchkF (s mo ma : Int) (zs : List Zn) (hl : zs.length ≤ 1000000) (hz : ∀ z ∈ zs, z.ss.length ≤ 1000000) : Fun Try.prog 112 [dvA s mo ma zs] [] (.v (i64V (dchk ⟨s, mo, ma, zs⟩))) := by
  by_cases hb : cfgBad ⟨s, mo, ma, zs⟩
  · have hR : dchk ⟨s, mo, ma, zs⟩ = 11 := by unfold dchk; rw [if_pos hb]
    unfold cfgBad at hb
    dsimp only at hb
    rw [hR]
    refine fun_of_vc tabOk mixOk Try.func112 rfl (by rfl) (rs := [.tmp 2]) rfl rfl 86 ?_; rw [Try.ntmps112]
    have hzl := zLen zs
    (conv => whnf); repeat (first | (refine And.intro DrawOk.go ?_; conv => whnf) | (refine And.intro rfl ?_; conv => whnf) | (refine And.intro (fun _ => ?_) (fun h => Bool.noConfusion h); conv => whnf) | (refine And.intro (fun h => Bool.noConfusion h) (fun _ => ?_); conv => whnf))
    repeat' (first | ((refine And.intro (fun h => ?_) (fun h => ?_)) <;> (try simp at h) <;> ((conv => whnf); repeat (first | (refine And.intro DrawOk.go ?_; conv => whnf) | (refine And.intro rfl ?_; conv => whnf) | (refine And.intro (fun _ => ?_) (fun h => Bool.noConfusion h); conv => whnf) | (refine And.intro (fun h => Bool.noConfusion h) (fun _ => ?_); conv => whnf)))) | fail)
    all_goals first
      | (exfalso; omega)
      | (refine Exists.intro [] (And.intro List.nodup_nil ?_); ((conv => whnf); repeat (first | (refine And.intro DrawOk.go ?_; conv => whnf) | (refine And.intro rfl ?_; conv => whnf) | (refine And.intro (fun _ => ?_) (fun h => Bool.noConfusion h); conv => whnf) | (refine And.intro (fun h => Bool.noConfusion h) (fun _ => ?_); conv => whnf)))
         rfl)
  generalize hR : dchk ⟨s, mo, ma, zs⟩ = R
  unfold dchk at hR
  rw [if_neg hb] at hR
  unfold cfgBad at hb
  dsimp only at hb hR
  refine fun_of_vc tabOk mixOk Try.func112 rfl (by rfl) (rs := [.tmp 2]) rfl rfl 86 ?_; rw [Try.ntmps112]
  have hzl := zLen zs
  (conv => whnf); repeat (first | (refine And.intro DrawOk.go ?_; conv => whnf) | (refine And.intro rfl ?_; conv => whnf) | (refine And.intro (fun _ => ?_) (fun h => Bool.noConfusion h); conv => whnf) | (refine And.intro (fun h => Bool.noConfusion h) (fun _ => ?_); conv => whnf))
  repeat' (first | ((refine And.intro (fun h => ?_) (fun h => ?_)) <;> (try simp at h) <;> ((conv => whnf); repeat (first | (refine And.intro DrawOk.go ?_; conv => whnf) | (refine And.intro rfl ?_; conv => whnf) | (refine And.intro (fun _ => ?_) (fun h => Bool.noConfusion h); conv => whnf) | (refine And.intro (fun h => Bool.noConfusion h) (fun _ => ?_); conv => whnf)))) | fail)
  all_goals first
    | (exfalso; omega)
    | skip
  refine vc_loop [1] [1] (X := Nat) (fun k gs => [(3, ATint k)]) (fun _ _ => []) (fun k => k ≤ zs.length ∧ ∀ z ∈ zs.take k, rightB z s = true) (fun k => zs.length - k) _ (Ghost.refl _) 0 ⟨Nat.zero_le _, fun s hs => by cases hs⟩ ?_ ?_
  · (refine And.intro rfl (And.intro rfl ?_)); (repeat' (first | exact trivial | exact rfl | apply And.intro | (refine congrArg (Value.int .i64) (w64_nat ?_); omega)))
  rintro gs k ⟨hk, he⟩
  (conv => whnf); repeat (first | (refine And.intro DrawOk.go ?_; conv => whnf) | (refine And.intro rfl ?_; conv => whnf) | (refine And.intro (fun _ => ?_) (fun h => Bool.noConfusion h); conv => whnf) | (refine And.intro (fun h => Bool.noConfusion h) (fun _ => ?_); conv => whnf))
  refine And.intro (fun h => ?_) (fun h => ?_)
  · have hlt : k < zs.length := by have := of_decide_eq_true h; rw [zLen] at this; omega
    have hr := rightF zs[k].st zs[k].du zs[k].ss s (hz _ (List.getElem_mem hlt))
    rw [show (⟨zs[k].st, zs[k].du, zs[k].ss⟩ : Zn) = zs[k] from rfl] at hr
    (conv => whnf); repeat (first | (refine And.intro DrawOk.go ?_; conv => whnf) | (refine And.intro rfl ?_; conv => whnf) | (refine And.intro (fun _ => ?_) (fun h => Bool.noConfusion h); conv => whnf) | (refine And.intro (fun h => Bool.noConfusion h) (fun _ => ?_); conv => whnf))
    refine ⟨by omega, _, zItem hlt, rfl, ?_⟩
    (conv => whnf); repeat (first | (refine And.intro DrawOk.go ?_; conv => whnf) | (refine And.intro rfl ?_; conv => whnf) | (refine And.intro (fun _ => ?_) (fun h => Bool.noConfusion h); conv => whnf) | (refine And.intro (fun h => Bool.noConfusion h) (fun _ => ?_); conv => whnf))
    by_cases q : rightB zs[k] s = true
    · rw [q] at hr
      refine ⟨_, _, hr, ?_⟩
      (conv => whnf); repeat (first | (refine And.intro DrawOk.go ?_; conv => whnf) | (refine And.intro rfl ?_; conv => whnf) | (refine And.intro (fun _ => ?_) (fun h => Bool.noConfusion h); conv => whnf) | (refine And.intro (fun h => Bool.noConfusion h) (fun _ => ?_); conv => whnf))
      refine again (k + 1) ⟨hlt, fun z hz' => ?_⟩ (by omega) ?_
      · rw [List.take_succ_eq_append_getElem hlt] at hz'
        rcases List.mem_append.1 hz' with hz' | hz'
        · exact he z hz'
        · rw [List.mem_singleton] at hz'
          rw [hz']
          exact q
      (refine And.intro rfl (And.intro rfl ?_)); (repeat' (first | exact trivial | exact rfl | apply And.intro | (refine congrArg (Value.int .i64) (w64_nat ?_); omega)))
    · have q' : rightB zs[k] s = false := by simpa using q
      rw [q'] at hr
      have hall : zs.all (fun z => rightB z s) = false := by
        rw [List.all_eq_false]
        exact ⟨zs[k], List.getElem_mem hlt, by simp [q']⟩
      rw [if_pos hall] at hR
      subst hR
      refine ⟨_, _, hr, ?_⟩
      (conv => whnf); repeat (first | (refine And.intro DrawOk.go ?_; conv => whnf) | (refine And.intro rfl ?_; conv => whnf) | (refine And.intro (fun _ => ?_) (fun h => Bool.noConfusion h); conv => whnf) | (refine And.intro (fun h => Bool.noConfusion h) (fun _ => ?_); conv => whnf))
      refine Exists.intro [] (And.intro List.nodup_nil ?_); ((conv => whnf); repeat (first | (refine And.intro DrawOk.go ?_; conv => whnf) | (refine And.intro rfl ?_; conv => whnf) | (refine And.intro (fun _ => ?_) (fun h => Bool.noConfusion h); conv => whnf) | (refine And.intro (fun h => Bool.noConfusion h) (fun _ => ?_); conv => whnf)))
      rfl
  · have hge : ¬ k < zs.length := by have := of_decide_eq_false h; rw [zLen] at this; omega
    rw [List.take_of_length_le (Nat.le_of_not_lt hge)] at he
    rw [List.all_eq_true.2 he, if_neg (by decide)] at hR
    have hc := dcntF s mo ma zs hl
    (conv => whnf); repeat (first | (refine And.intro DrawOk.go ?_; conv => whnf) | (refine And.intro rfl ?_; conv => whnf) | (refine And.intro (fun _ => ?_) (fun h => Bool.noConfusion h); conv => whnf) | (refine And.intro (fun h => Bool.noConfusion h) (fun _ => ?_); conv => whnf))
    refine ⟨_, _, hc, ?_⟩
    by_cases q : (cntO zs : Int) > mo ∨ (cntA zs : Int) > ma
    · rw [if_pos q] at hR
      subst hR
      (conv => whnf); repeat (first | (refine And.intro DrawOk.go ?_; conv => whnf) | (refine And.intro rfl ?_; conv => whnf) | (refine And.intro (fun _ => ?_) (fun h => Bool.noConfusion h); conv => whnf) | (refine And.intro (fun h => Bool.noConfusion h) (fun _ => ?_); conv => whnf))
      repeat' (first | ((refine And.intro (fun h => ?_) (fun h => ?_)) <;> (try simp at h) <;> ((conv => whnf); repeat (first | (refine And.intro DrawOk.go ?_; conv => whnf) | (refine And.intro rfl ?_; conv => whnf) | (refine And.intro (fun _ => ?_) (fun h => Bool.noConfusion h); conv => whnf) | (refine And.intro (fun h => Bool.noConfusion h) (fun _ => ?_); conv => whnf)))) | fail)
      all_goals first
        | (exfalso; omega)
        | (refine Exists.intro [] (And.intro List.nodup_nil ?_); ((conv => whnf); repeat (first | (refine And.intro DrawOk.go ?_; conv => whnf) | (refine And.intro rfl ?_; conv => whnf) | (refine And.intro (fun _ => ?_) (fun h => Bool.noConfusion h); conv => whnf) | (refine And.intro (fun h => Bool.noConfusion h) (fun _ => ?_); conv => whnf)))
           rfl)
    · rw [if_neg q] at hR
      subst hR
      (conv => whnf); repeat (first | (refine And.intro DrawOk.go ?_; conv => whnf) | (refine And.intro rfl ?_; conv => whnf) | (refine And.intro (fun _ => ?_) (fun h => Bool.noConfusion h); conv => whnf) | (refine And.intro (fun h => Bool.noConfusion h) (fun _ => ?_); conv => whnf))
      repeat' (first | ((refine And.intro (fun h => ?_) (fun h => ?_)) <;> (try simp at h) <;> ((conv => whnf); repeat (first | (refine And.intro DrawOk.go ?_; conv => whnf) | (refine And.intro rfl ?_; conv => whnf) | (refine And.intro (fun _ => ?_) (fun h => Bool.noConfusion h); conv => whnf) | (refine And.intro (fun h => Bool.noConfusion h) (fun _ => ?_); conv => whnf)))) | fail)
      all_goals first
        | (exfalso; omega)
        | (refine Exists.intro [] (And.intro List.nodup_nil ?_); ((conv => whnf); repeat (first | (refine And.intro DrawOk.go ?_; conv => whnf) | (refine And.intro rfl ?_; conv => whnf) | (refine And.intro (fun _ => ?_) (fun h => Bool.noConfusion h); conv => whnf) | (refine And.intro (fun h => Bool.noConfusion h) (fun _ => ?_); conv => whnf)))
           rfl)
set_option maxRecDepth 100000 in
set_option maxHeartbeats 16000000 in
theorem dnewF (zones size op ac : Int) : Fun Try.prog 65 [i64V zones, i64V size, i64V op, i64V ac] [] (.tup [dvV (dnew zones size op ac).1, i64V (dnew zones size op ac).2]) := by
  by_cases q : zones < 1 ∨ zones > 32
  · have e : dnew zones size op ac = (dv0, 11) := by unfold dnew; rw [if_pos q]
    rw [e]
    refine fun_of_vc tabOk mixOk Try.func65 rfl (by rfl) (rs := [.cell 8 29, .tmp 9]) rfl rfl 36 ?_; rw [Try.ntmps65]
    (conv => whnf); repeat (first | (refine And.intro DrawOk.go ?_; conv => whnf) | (refine And.intro rfl ?_; conv => whnf) | (refine And.intro (fun _ => ?_) (fun h => Bool.noConfusion h); conv => whnf) | (refine And.intro (fun h => Bool.noConfusion h) (fun _ => ?_); conv => whnf))
    repeat' (first | ((refine And.intro (fun h => ?_) (fun h => ?_)) <;> (try simp at h) <;> ((conv => whnf); repeat (first | (refine And.intro DrawOk.go ?_; conv => whnf) | (refine And.intro rfl ?_; conv => whnf) | (refine And.intro (fun _ => ?_) (fun h => Bool.noConfusion h); conv => whnf) | (refine And.intro (fun h => Bool.noConfusion h) (fun _ => ?_); conv => whnf)))) | fail)
    all_goals first
      | (exfalso; omega)
      | (refine Exists.intro [] (And.intro List.nodup_nil ?_); ((conv => whnf); repeat (first | (refine And.intro DrawOk.go ?_; conv => whnf) | (refine And.intro rfl ?_; conv => whnf) | (refine And.intro (fun _ => ?_) (fun h => Bool.noConfusion h); conv => whnf) | (refine And.intro (fun h => Bool.noConfusion h) (fun _ => ?_); conv => whnf)))
         rfl)
  have hc := dchkF size op ac (List.replicate zones.toNat z0) (by rw [List.length_replicate]; omega) (fun z hz => by rw [List.eq_of_mem_replicate hz]; decide)
  have e : dnew zones size op ac = if dchk ⟨size, op, ac, List.replicate zones.toNat z0⟩ = 0 then (⟨size, op, ac, List.replicate zones.toNat z0⟩, 0) else (dv0, dchk ⟨size, op, ac, List.replicate zones.toNat z0⟩) := by unfold dnew; rw [if_neg q]
  rw [e]
  have hrep : List.replicate zones.toNat [IV.sc (.int .i64 0), IV.sc (.int .i64 0), IV.sl []] = zR (List.replicate zones.toNat z0) := by simp [zR, zRow, z0, sV]
  refine fun_of_vc tabOk mixOk Try.func65 rfl (by rfl) (rs := [.cell 8 29, .tmp 9]) rfl rfl 36 ?_; rw [Try.ntmps65]
  (conv => whnf); repeat (first | (refine And.intro DrawOk.go ?_; conv => whnf) | (refine And.intro rfl ?_; conv => whnf) | (refine And.intro (fun _ => ?_) (fun h => Bool.noConfusion h); conv => whnf) | (refine And.intro (fun h => Bool.noConfusion h) (fun _ => ?_); conv => whnf))
  refine And.intro (fun h => by have := of_decide_eq_true h; omega) (fun _ => ?_)
  (conv => whnf); repeat (first | (refine And.intro DrawOk.go ?_; conv => whnf) | (refine And.intro rfl ?_; conv => whnf) | (refine And.intro (fun _ => ?_) (fun h => Bool.noConfusion h); conv => whnf) | (refine And.intro (fun h => Bool.noConfusion h) (fun _ => ?_); conv => whnf))
  refine And.intro (fun h => by have := of_decide_eq_true h; omega) (fun _ => ?_)
  (conv => whnf); repeat (first | (refine And.intro DrawOk.go ?_; conv => whnf) | (refine And.intro rfl ?_; conv => whnf) | (refine And.intro (fun _ => ?_) (fun h => Bool.noConfusion h); conv => whnf) | (refine And.intro (fun h => Bool.noConfusion h) (fun _ => ?_); conv => whnf))
  refine ⟨by omega, rfl, by rw [Nat.mul_comm]; exact bytes_le (by decide) (by omega), by omega, ?_⟩
  (conv => whnf); repeat (first | (refine And.intro DrawOk.go ?_; conv => whnf) | (refine And.intro rfl ?_; conv => whnf) | (refine And.intro (fun _ => ?_) (fun h => Bool.noConfusion h); conv => whnf) | (refine And.intro (fun h => Bool.noConfusion h) (fun _ => ?_); conv => whnf))
  rw [hrep]
  refine ⟨_, _, hc, ?_⟩
  by_cases h0 : dchk ⟨size, op, ac, List.replicate zones.toNat z0⟩ = 0
  · rw [if_pos h0, h0]
    (conv => whnf); repeat (first | (refine And.intro DrawOk.go ?_; conv => whnf) | (refine And.intro rfl ?_; conv => whnf) | (refine And.intro (fun _ => ?_) (fun h => Bool.noConfusion h); conv => whnf) | (refine And.intro (fun h => Bool.noConfusion h) (fun _ => ?_); conv => whnf))
    refine Exists.intro [] (And.intro List.nodup_nil ?_); ((conv => whnf); repeat (first | (refine And.intro DrawOk.go ?_; conv => whnf) | (refine And.intro rfl ?_; conv => whnf) | (refine And.intro (fun _ => ?_) (fun h => Bool.noConfusion h); conv => whnf) | (refine And.intro (fun h => Bool.noConfusion h) (fun _ => ?_); conv => whnf)))
    rfl
  · rw [if_neg h0]
    generalize dchk ⟨size, op, ac, List.replicate zones.toNat z0⟩ = R at h0 ⊢
    (conv => whnf); repeat (first | (refine And.intro DrawOk.go ?_; conv => whnf) | (refine And.intro rfl ?_; conv => whnf) | (refine And.intro (fun _ => ?_) (fun h => Bool.noConfusion h); conv => whnf) | (refine And.intro (fun h => Bool.noConfusion h) (fun _ => ?_); conv => whnf))
    refine And.intro (fun h => ?_) (fun h => absurd h (by simp [h0]))
    (conv => whnf); repeat (first | (refine And.intro DrawOk.go ?_; conv => whnf) | (refine And.intro rfl ?_; conv => whnf) | (refine And.intro (fun _ => ?_) (fun h => Bool.noConfusion h); conv => whnf) | (refine And.intro (fun h => Bool.noConfusion h) (fun _ => ?_); conv => whnf))
    refine Exists.intro [] (And.intro List.nodup_nil ?_); ((conv => whnf); repeat (first | (refine And.intro DrawOk.go ?_; conv => whnf) | (refine And.intro rfl ?_; conv => whnf) | (refine And.intro (fun _ => ?_) (fun h => Bool.noConfusion h); conv => whnf) | (refine And.intro (fun h => Bool.noConfusion h) (fun _ => ?_); conv => whnf)))
    rfl
end Go.Proofs.Ytijajfldpaadnaa.Ab
