/- Maps: the shard of a block, which maps are valid. No condition. -/
import Derived.Test.YtgjcljjgifnjdaaWa
namespace Go.Proofs.Ytgjcljjgifnjdaa.Ab
set_option linter.unusedVariables false
set_option linter.unusedSimpArgs false
open Go.RowKit

def mstr (M : List (List Ety)) (b : Int) : Int := if b < 0 ∨ M.length = 0 then -1 else Int.tmod b M.length
def outM (M : List (List Ety)) (i : Int) (e : Ety) : Bool := mstr M e.b != i
def shOk (M : List (List Ety)) (i : Int) (l : List Ety) : Bool := svalid l && !(l.any (outM M i))
def mGo (M : List (List Ety)) : Nat → List (List Ety) → Bool
  | _, [] => true
  | i, l :: r => shOk M i l && mGo M (i + 1) r
def mvalid (M : List (List Ety)) : Bool := decide (1 ≤ M.length ∧ M.length ≤ 8) && mGo M 0 M
theorem mGo_at {M : List (List Ety)} {i : Nat} (h : i < M.length) : mGo M i (M.drop i) = (shOk M i M[i] && mGo M (i + 1) (M.drop (i + 1))) := by
  rw [List.drop_eq_getElem_cons h, mGo]
set_option maxRecDepth 100000 in
set_option maxHeartbeats 16000000 in
theorem stripeF (M : List (List Ety)) (b : Int) : Fun Try.prog 68 [mpV M, i64V b] [] (.v (i64V (mstr M b))) := by
  have ml := mLen M
  by_cases h : b < 0 ∨ M.length = 0
  · rw [mstr, if_pos h]
    have hnil : ¬ b < 0 → mR M = [] := fun hb => by
      have : M = [] := List.length_eq_zero_iff.1 (by omega)
      rw [this]
      rfl
    refine fun_of_vc tabOk mixOk Try.func68 rfl (by rfl) (rs := [.tmp 4]) rfl rfl 22 ?_; rw [Try.ntmps68]
    (conv => whnf); repeat ((first | refine And.intro DrawOk.go ?_ | refine And.intro rfl ?_ | refine And.intro (fun _ => ?_) (fun h => Bool.noConfusion h) | refine And.intro (fun h => Bool.noConfusion h) (fun _ => ?_)); conv => whnf)
    repeat' (first | ((refine And.intro (fun h => ?_) (fun h => ?_)) <;> (try simp at h) <;> ((conv => whnf); repeat ((first | refine And.intro DrawOk.go ?_ | refine And.intro rfl ?_ | refine And.intro (fun _ => ?_) (fun h => Bool.noConfusion h) | refine And.intro (fun h => Bool.noConfusion h) (fun _ => ?_)); conv => whnf))) | fail)
    all_goals first
      | (exfalso; omega)
      | (exfalso; exact h (hnil (by omega)))
      | (refine Exists.intro [] (And.intro List.nodup_nil ?_); ((conv => whnf); repeat ((first | refine And.intro DrawOk.go ?_ | refine And.intro rfl ?_ | refine And.intro (fun _ => ?_) (fun h => Bool.noConfusion h) | refine And.intro (fun h => Bool.noConfusion h) (fun _ => ?_)); conv => whnf))
         rfl)
  · rw [mstr, if_neg h, ← ml]
    have hne : ((mR M).length : Int) ≠ 0 := by rw [ml]; omega
    have hn2 : ¬ mR M = [] := fun h => by rw [h] at hne; exact hne rfl
    refine fun_of_vc tabOk mixOk Try.func68 rfl (by rfl) (rs := [.tmp 4]) rfl rfl 22 ?_; rw [Try.ntmps68]
    (conv => whnf); repeat ((first | refine And.intro DrawOk.go ?_ | refine And.intro rfl ?_ | refine And.intro (fun _ => ?_) (fun h => Bool.noConfusion h) | refine And.intro (fun h => Bool.noConfusion h) (fun _ => ?_)); conv => whnf)
    repeat' (first | ((refine And.intro (fun h => ?_) (fun h => ?_)) <;> (try simp at h) <;> ((conv => whnf); repeat ((first | refine And.intro DrawOk.go ?_ | refine And.intro rfl ?_ | refine And.intro (fun _ => ?_) (fun h => Bool.noConfusion h) | refine And.intro (fun h => Bool.noConfusion h) (fun _ => ?_)); conv => whnf))) | (refine ⟨hne, ?_⟩; ((conv => whnf); repeat ((first | refine And.intro DrawOk.go ?_ | refine And.intro rfl ?_ | refine And.intro (fun _ => ?_) (fun h => Bool.noConfusion h) | refine And.intro (fun h => Bool.noConfusion h) (fun _ => ?_)); conv => whnf))) | fail)
    all_goals first
      | contradiction
      | (exfalso; omega)
      | (refine Exists.intro [] (And.intro List.nodup_nil ?_); ((conv => whnf); repeat ((first | refine And.intro DrawOk.go ?_ | refine And.intro rfl ?_ | refine And.intro (fun _ => ?_) (fun h => Bool.noConfusion h) | refine And.intro (fun h => Bool.noConfusion h) (fun _ => ?_)); conv => whnf))
         rfl)
set_option maxRecDepth 100000 in
set_option maxHeartbeats 16000000 in
theorem stripeF' (M : List (List Ety)) (b : Int) : Fun Try.prog 59 [mpV M, i64V b] [] (.v (i64V (mstr M b))) := by
  have ml := mLen M
  by_cases h : b < 0 ∨ M.length = 0
  · rw [mstr, if_pos h]
    have hnil : ¬ b < 0 → mR M = [] := fun hb => by
      have : M = [] := List.length_eq_zero_iff.1 (by omega)
      rw [this]
      rfl
    refine fun_of_vc tabOk mixOk Try.func59 rfl (by rfl) (rs := [.tmp 4]) rfl rfl 22 ?_; rw [Try.ntmps59]
    (conv => whnf); repeat ((first | refine And.intro DrawOk.go ?_ | refine And.intro rfl ?_ | refine And.intro (fun _ => ?_) (fun h => Bool.noConfusion h) | refine And.intro (fun h => Bool.noConfusion h) (fun _ => ?_)); conv => whnf)
    repeat' (first | ((refine And.intro (fun h => ?_) (fun h => ?_)) <;> (try simp at h) <;> ((conv => whnf); repeat ((first | refine And.intro DrawOk.go ?_ | refine And.intro rfl ?_ | refine And.intro (fun _ => ?_) (fun h => Bool.noConfusion h) | refine And.intro (fun h => Bool.noConfusion h) (fun _ => ?_)); conv => whnf))) | fail)
    all_goals first
      | (exfalso; omega)
      | (exfalso; exact h (hnil (by omega)))
      | (refine Exists.intro [] (And.intro List.nodup_nil ?_); ((conv => whnf); repeat ((first | refine And.intro DrawOk.go ?_ | refine And.intro rfl ?_ | refine And.intro (fun _ => ?_) (fun h => Bool.noConfusion h) | refine And.intro (fun h => Bool.noConfusion h) (fun _ => ?_)); conv => whnf))
         rfl)
  · rw [mstr, if_neg h, ← ml]
    have hne : ((mR M).length : Int) ≠ 0 := by rw [ml]; omega
    have hn2 : ¬ mR M = [] := fun h => by rw [h] at hne; exact hne rfl
    refine fun_of_vc tabOk mixOk Try.func59 rfl (by rfl) (rs := [.tmp 4]) rfl rfl 22 ?_; rw [Try.ntmps59]
    (conv => whnf); repeat ((first | refine And.intro DrawOk.go ?_ | refine And.intro rfl ?_ | refine And.intro (fun _ => ?_) (fun h => Bool.noConfusion h) | refine And.intro (fun h => Bool.noConfusion h) (fun _ => ?_)); conv => whnf)
    repeat' (first | ((refine And.intro (fun h => ?_) (fun h => ?_)) <;> (try simp at h) <;> ((conv => whnf); repeat ((first | refine And.intro DrawOk.go ?_ | refine And.intro rfl ?_ | refine And.intro (fun _ => ?_) (fun h => Bool.noConfusion h) | refine And.intro (fun h => Bool.noConfusion h) (fun _ => ?_)); conv => whnf))) | (refine ⟨hne, ?_⟩; ((conv => whnf); repeat ((first | refine And.intro DrawOk.go ?_ | refine And.intro rfl ?_ | refine And.intro (fun _ => ?_) (fun h => Bool.noConfusion h) | refine And.intro (fun h => Bool.noConfusion h) (fun _ => ?_)); conv => whnf))) | fail)
    all_goals first
      | contradiction
      | (exfalso; omega)
      | (refine Exists.intro [] (And.intro List.nodup_nil ?_); ((conv => whnf); repeat ((first | refine And.intro DrawOk.go ?_ | refine And.intro rfl ?_ | refine And.intro (fun _ => ?_) (fun h => Bool.noConfusion h) | refine And.intro (fun h => Bool.noConfusion h) (fun _ => ?_)); conv => whnf))
         rfl)
def cloM (M : List (List Ety)) (i : Int) : AV := .c (.clo 71 [.pim [.sl (mR M)], .pim [.sc (.int .i64 i)]])
set_option maxRecDepth 100000 in
set_option maxHeartbeats 16000000 in
theorem outMF (M : List (List Ety)) (i : Int) (e : Ety) : Fun Try.prog 71 [eV e, .c (.pim [.sl (mR M)]), .c (.pim [.sc (.int .i64 i)])] [] (ATbool (outM M i e)) := by
  have hs := stripeF M e.b
  unfold outM
  generalize mstr M e.b = R at hs ⊢
  refine fun_of_vc tabOk mixOk Try.func71 rfl (by rfl) (rs := [.tmp 4]) rfl rfl 15 ?_; rw [Try.ntmps71]
  (conv => whnf); repeat ((first | refine And.intro DrawOk.go ?_ | refine And.intro rfl ?_ | refine And.intro (fun _ => ?_) (fun h => Bool.noConfusion h) | refine And.intro (fun h => Bool.noConfusion h) (fun _ => ?_)); conv => whnf)
  refine ⟨_, _, hs, ?_⟩
  (conv => whnf); repeat ((first | refine And.intro DrawOk.go ?_ | refine And.intro rfl ?_ | refine And.intro (fun _ => ?_) (fun h => Bool.noConfusion h) | refine And.intro (fun h => Bool.noConfusion h) (fun _ => ?_)); conv => whnf)
  refine Exists.intro [] (And.intro List.nodup_nil ?_); ((conv => whnf); repeat ((first | refine And.intro DrawOk.go ?_ | refine And.intro rfl ?_ | refine And.intro (fun _ => ?_) (fun h => Bool.noConfusion h) | refine And.intro (fun h => Bool.noConfusion h) (fun _ => ?_)); conv => whnf))
  rfl
def eIx (p : Ety → Bool) : Nat → List Ety → Int
  | _, [] => -1
  | n, e :: l => if p e = true then n else eIx p (n + 1) l
theorem eIx_at {p : Ety → Bool} {l : List Ety} {i : Nat} (h : i < l.length) : eIx p i (l.drop i) = if p l[i] = true then (i : Int) else eIx p (i + 1) (l.drop (i + 1)) := by
  rw [List.drop_eq_getElem_cons h, eIx]
theorem eIx_any (p : Ety → Bool) (l : List Ety) : ∀ n, decide (eIx p n l ≥ 0) = l.any p := by
  induction l with
  | nil => intro n; rfl
  | cons e l ih =>
    intro n
    rw [eIx, List.any_cons]
    by_cases h : p e = true
    · rw [if_pos h, h, Bool.true_or]
      exact decide_eq_true (by omega)
    · rw [if_neg h, ih]
      simp [h]
theorem eI_lt {i : Nat} {l : List Ety} (h : decide ((i : Int) < ((eR l).length : Int)) = true) : i < l.length := by have := of_decide_eq_true h; simp only [eR, List.length_map] at this; omega
theorem eI_ge {i : Nat} {l : List Ety} (h : decide ((i : Int) < ((eR l).length : Int)) = false) (hi : i ≤ l.length) : i = l.length := by have := of_decide_eq_false h; simp only [eR, List.length_map] at this; omega
theorem eI_i {i n : Nat} (h : i < n) (hn : n ≤ 1000000) : i ≤ 9223372036854775806 := by omega
theorem eI_item {l : List Ety} {k : Nat} (h : k < l.length) : (eR l)[((k : Int)).toNat]? = some (eRow l[k]) := by simp [eR, h]
set_option maxRecDepth 100000 in
set_option maxHeartbeats 16000000 in
theorem eIxF (M : List (List Ety)) (i : Int) (l : List Ety) (hl : l.length ≤ 1000000) : Fun Try.prog 75 [slV (eR l), cloM M i] [] (.v (i64V (eIx (outM M i) 0 l))) := by
  have ho := outMF M i
  have hat := fun (k : Nat) (h : k < l.length) => eIx_at (p := outM M i) h
  have h0 : eIx (outM M i) 0 l = eIx (outM M i) 0 (l.drop 0) := by rw [List.drop_zero]
  have hend : eIx (outM M i) l.length (l.drop l.length) = -1 := by rw [List.drop_length]; rfl
  rw [h0]
  generalize outM M i = p at ho hat hend h0 ⊢
  obtain ⟨R, hR⟩ : ∃ R, R = eIx p 0 (l.drop 0) := ⟨_, rfl⟩
  rw [← hR]
  clear h0
  refine fun_of_vc tabOk mixOk Try.func75 rfl (by rfl) (rs := [.tmp 4]) rfl rfl 23 ?_; rw [Try.ntmps75]
  (conv => whnf); repeat ((first | refine And.intro DrawOk.go ?_ | refine And.intro rfl ?_ | refine And.intro (fun _ => ?_) (fun h => Bool.noConfusion h) | refine And.intro (fun h => Bool.noConfusion h) (fun _ => ?_)); conv => whnf)
  refine vc_loop [0, 1, 7] [] (X := Nat) (fun k gs => [(8, ATint k)]) (fun _ _ => []) (fun k => k ≤ l.length ∧ R = eIx p k (l.drop k)) (fun k => l.length - k) _ (Ghost.refl _) 0 ⟨Nat.zero_le _, hR⟩ ?_ ?_
  · (refine And.intro rfl (And.intro rfl ?_)); (repeat' (first | exact trivial | exact rfl | apply And.intro | (refine congrArg (Value.int .i64) (w64_nat ?_); omega)))
  intro gs k hx
  have hk : k ≤ l.length := hx.1
  have hF : R = eIx p k (l.drop k) := hx.2
  clear hx hR
  (conv => whnf); repeat ((first | refine And.intro DrawOk.go ?_ | refine And.intro rfl ?_ | refine And.intro (fun _ => ?_) (fun h => Bool.noConfusion h) | refine And.intro (fun h => Bool.noConfusion h) (fun _ => ?_)); conv => whnf)
  refine And.intro (fun h1 => ?_) (fun h1 => ?_)
  · have hlt := eI_lt h1
    rw [hat k hlt] at hF
    have hok := ho l[k]
    have hit := eI_item hlt
    have hib := eI_i hlt hl
    generalize l[k] = e at hF hok hit
    generalize p e = b at hF hok
    (conv => whnf); repeat ((first | refine And.intro DrawOk.go ?_ | refine And.intro rfl ?_ | refine And.intro (fun _ => ?_) (fun h => Bool.noConfusion h) | refine And.intro (fun h => Bool.noConfusion h) (fun _ => ?_)); conv => whnf)
    refine ⟨Int.natCast_nonneg _, _, hit, rfl, ?_⟩
    (conv => whnf); repeat ((first | refine And.intro DrawOk.go ?_ | refine And.intro rfl ?_ | refine And.intro (fun _ => ?_) (fun h => Bool.noConfusion h) | refine And.intro (fun h => Bool.noConfusion h) (fun _ => ?_)); conv => whnf)
    refine ⟨_, _, hok, ?_⟩
    (conv => whnf); repeat ((first | refine And.intro DrawOk.go ?_ | refine And.intro rfl ?_ | refine And.intro (fun _ => ?_) (fun h => Bool.noConfusion h) | refine And.intro (fun h => Bool.noConfusion h) (fun _ => ?_)); conv => whnf)
    cases b with
    | true =>
      rw [if_pos rfl] at hF
      subst hF
      (conv => whnf); repeat ((first | refine And.intro DrawOk.go ?_ | refine And.intro rfl ?_ | refine And.intro (fun _ => ?_) (fun h => Bool.noConfusion h) | refine And.intro (fun h => Bool.noConfusion h) (fun _ => ?_)); conv => whnf)
      refine Exists.intro [] (And.intro List.nodup_nil ?_); ((conv => whnf); repeat ((first | refine And.intro DrawOk.go ?_ | refine And.intro rfl ?_ | refine And.intro (fun _ => ?_) (fun h => Bool.noConfusion h) | refine And.intro (fun h => Bool.noConfusion h) (fun _ => ?_)); conv => whnf))
      rfl
    | false =>
      rw [if_neg (by decide)] at hF
      (conv => whnf); repeat ((first | refine And.intro DrawOk.go ?_ | refine And.intro rfl ?_ | refine And.intro (fun _ => ?_) (fun h => Bool.noConfusion h) | refine And.intro (fun h => Bool.noConfusion h) (fun _ => ?_)); conv => whnf)
      refine again (k + 1) ⟨hlt, hF⟩ (Nat.sub_lt_sub_left hlt (Nat.lt_succ_self k)) ?_
      (refine And.intro rfl (And.intro rfl ?_)); (repeat' (first | exact trivial | exact rfl | apply And.intro | (refine congrArg (Value.int .i64) (w64_nat ?_); omega)))
      all_goals exact congrArg (Value.int .i64) (w64_nat hib)
  · obtain rfl := eI_ge h1 hk
    rw [hend] at hF
    subst hF
    (conv => whnf); repeat ((first | refine And.intro DrawOk.go ?_ | refine And.intro rfl ?_ | refine And.intro (fun _ => ?_) (fun h => Bool.noConfusion h) | refine And.intro (fun h => Bool.noConfusion h) (fun _ => ?_)); conv => whnf)
    refine Exists.intro [] (And.intro List.nodup_nil ?_); ((conv => whnf); repeat ((first | refine And.intro DrawOk.go ?_ | refine And.intro rfl ?_ | refine And.intro (fun _ => ?_) (fun h => Bool.noConfusion h) | refine And.intro (fun h => Bool.noConfusion h) (fun _ => ?_)); conv => whnf))
    rfl
set_option maxRecDepth 100000 in
set_option maxHeartbeats 16000000 in
theorem eConF (M : List (List Ety)) (i : Int) (l : List Ety) (hl : l.length ≤ 1000000) : Fun Try.prog 70 [slV (eR l), cloM M i] [] (ATbool (l.any (outM M i))) := by
  have h := eIxF M i l hl
  rw [← eIx_any _ _ 0]
  generalize eIx (outM M i) 0 l = R at h ⊢
  refine fun_of_vc tabOk mixOk Try.func70 rfl (by rfl) (rs := [.tmp 4]) rfl rfl 13 ?_; rw [Try.ntmps70]
  (conv => whnf); repeat ((first | refine And.intro DrawOk.go ?_ | refine And.intro rfl ?_ | refine And.intro (fun _ => ?_) (fun h => Bool.noConfusion h) | refine And.intro (fun h => Bool.noConfusion h) (fun _ => ?_)); conv => whnf)
  refine ⟨_, _, h, ?_⟩
  (conv => whnf); repeat ((first | refine And.intro DrawOk.go ?_ | refine And.intro rfl ?_ | refine And.intro (fun _ => ?_) (fun h => Bool.noConfusion h) | refine And.intro (fun h => Bool.noConfusion h) (fun _ => ?_)); conv => whnf)
  refine Exists.intro [] (And.intro List.nodup_nil ?_); ((conv => whnf); repeat ((first | refine And.intro DrawOk.go ?_ | refine And.intro rfl ?_ | refine And.intro (fun _ => ?_) (fun h => Bool.noConfusion h) | refine And.intro (fun h => Bool.noConfusion h) (fun _ => ?_)); conv => whnf))
  rfl
end Go.Proofs.Ytgjcljjgifnjdaa.Ab
