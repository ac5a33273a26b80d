/- Epochs: Advance, New; the document's Retire, Ready, Forget, Same. -/
import Derived.Test.YtijajfldpaadnaaEd
namespace Go.Proofs.Ytijajfldpaadnaa.Ab
set_option linter.unusedVariables false
set_option linter.unusedSimpArgs false
open Go.RowKit

theorem eadv_out {g : Int} {p : List Int} {z : List (Int × Int)} (h : evalid g p z = false ∨ ¬ g < 1099511627776) : eadv g p z = (g, false) := by
  unfold eadv
  rw [if_neg]
  rintro ⟨h1, h2, _⟩
  rcases h with h | h
  · rw [h] at h1; cases h1
  · exact h h2
theorem eadv_in {g : Int} {p : List Int} {z : List (Int × Int)} (h1 : evalid g p z = true) (h2 : g < 1099511627776) : eadv g p z = if p.all (advOk g) = true then (g + 1, true) else (g, false) := by
  unfold eadv
  by_cases h : p.all (advOk g) = true
  · rw [if_pos ⟨h1, h2, h⟩, if_pos h]
  · rw [if_neg (fun hh => h hh.2.2), if_neg h]
section
variable (g : Int) (p : List Int) (z : List (Int × Int)) (hp : p.length ≤ 1000000) (hz : z.length ≤ 1000000)
include hp hz
set_option maxRecDepth 100000 in
set_option maxHeartbeats 16000000 in
theorem eadvF : Fun Try.prog 48 [epA g p z] [] (epT (eadv g p z).1 (wV p) (zpR z) (eadv g p z).2) := by
  have hvf := evalidF g p z hz
  by_cases hc : evalid g p z = true ∧ g < 1099511627776
  rotate_left
  · have e := eadv_out (g := g) (p := p) (z := z) (by
      by_cases h : evalid g p z = true
      · exact Or.inr (fun h2 => hc ⟨h, h2⟩)
      · exact Or.inl (by simpa using h))
    rw [e]
    cases hv : evalid g p z
    all_goals
      rw [hv] at hvf
      refine fun_of_vc tabOk mixOk Try.func48 rfl (by rfl) (rs := [.cell 2 39, .tmp 3]) rfl rfl 44 ?_; rw [Try.ntmps48]
      (conv => whnf); repeat (first | (refine And.intro DrawOk.go ?_; conv => whnf) | (refine And.intro rfl ?_; conv => whnf) | (refine And.intro (fun _ => ?_) (fun h => Bool.noConfusion h); conv => whnf) | (refine And.intro (fun h => Bool.noConfusion h) (fun _ => ?_); conv => whnf))
      refine ⟨_, _, eclF g p z hp hz, ?_⟩
      (conv => whnf); repeat (first | (refine And.intro DrawOk.go ?_; conv => whnf) | (refine And.intro rfl ?_; conv => whnf) | (refine And.intro (fun _ => ?_) (fun h => Bool.noConfusion h); conv => whnf) | (refine And.intro (fun h => Bool.noConfusion h) (fun _ => ?_); conv => whnf))
      repeat' (first | ((refine And.intro (fun h => ?_) (fun h => ?_)) <;> (try simp at h) <;> ((conv => whnf); repeat (first | (refine And.intro DrawOk.go ?_; conv => whnf) | (refine And.intro rfl ?_; conv => whnf) | (refine And.intro (fun _ => ?_) (fun h => Bool.noConfusion h); conv => whnf) | (refine And.intro (fun h => Bool.noConfusion h) (fun _ => ?_); conv => whnf)))) | (refine ⟨_, _, hvf, ?_⟩; ((conv => whnf); repeat (first | (refine And.intro DrawOk.go ?_; conv => whnf) | (refine And.intro rfl ?_; conv => whnf) | (refine And.intro (fun _ => ?_) (fun h => Bool.noConfusion h); conv => whnf) | (refine And.intro (fun h => Bool.noConfusion h) (fun _ => ?_); conv => whnf)))) | fail)
    all_goals first
      | (refine Exists.intro [] (And.intro List.nodup_nil ?_); ((conv => whnf); repeat (first | (refine And.intro DrawOk.go ?_; conv => whnf) | (refine And.intro rfl ?_; conv => whnf) | (refine And.intro (fun _ => ?_) (fun h => Bool.noConfusion h); conv => whnf) | (refine And.intro (fun h => Bool.noConfusion h) (fun _ => ?_); conv => whnf)))
         rfl)
      | (exfalso; exact hc ⟨hv, by omega⟩)
  obtain ⟨hv, hg⟩ := hc
  rw [eadv_in hv hg]
  rw [hv] at hvf
  have hgb := evalid_g hv
  have hw : iwrap .i64 (g + 1) = g + 1 := w64_in (by omega)
  refine fun_of_vc tabOk mixOk Try.func48 rfl (by rfl) (rs := [.cell 2 39, .tmp 3]) rfl rfl 44 ?_; rw [Try.ntmps48]
  (conv => whnf); repeat (first | (refine And.intro DrawOk.go ?_; conv => whnf) | (refine And.intro rfl ?_; conv => whnf) | (refine And.intro (fun _ => ?_) (fun h => Bool.noConfusion h); conv => whnf) | (refine And.intro (fun h => Bool.noConfusion h) (fun _ => ?_); conv => whnf))
  refine ⟨_, _, eclF g p z hp hz, ?_⟩
  (conv => whnf); repeat (first | (refine And.intro DrawOk.go ?_; conv => whnf) | (refine And.intro rfl ?_; conv => whnf) | (refine And.intro (fun _ => ?_) (fun h => Bool.noConfusion h); conv => whnf) | (refine And.intro (fun h => Bool.noConfusion h) (fun _ => ?_); conv => whnf))
  refine ⟨_, _, hvf, ?_⟩
  (conv => whnf); repeat (first | (refine And.intro DrawOk.go ?_; conv => whnf) | (refine And.intro rfl ?_; conv => whnf) | (refine And.intro (fun _ => ?_) (fun h => Bool.noConfusion h); conv => whnf) | (refine And.intro (fun h => Bool.noConfusion h) (fun _ => ?_); conv => whnf))
  refine And.intro (fun h => by simp at h; omega) (fun _ => ?_)
  (conv => whnf); repeat (first | (refine And.intro DrawOk.go ?_; conv => whnf) | (refine And.intro rfl ?_; conv => whnf) | (refine And.intro (fun _ => ?_) (fun h => Bool.noConfusion h); conv => whnf) | (refine And.intro (fun h => Bool.noConfusion h) (fun _ => ?_); conv => whnf))
  refine vc_loop [1, 2, 4, 19, 20] [1, 2, 4] (X := Nat) (fun k gs => [(21, ATint k)]) (fun _ _ => []) (fun k => k ≤ p.length ∧ p.all (advOk g) = (p.drop k).all (advOk g)) (fun k => p.length - k) _ (Ghost.refl _) 0 ⟨by omega, rfl⟩ ?_ ?_
  · (refine And.intro rfl (And.intro rfl ?_)); (repeat' (first | exact trivial | exact rfl | apply And.intro | (refine congrArg (Value.int .i64) (w64_nat ?_); omega)))
  rintro gs k ⟨hk, ha⟩
  (conv => whnf); repeat (first | (refine And.intro DrawOk.go ?_; conv => whnf) | (refine And.intro rfl ?_; conv => whnf) | (refine And.intro (fun _ => ?_) (fun h => Bool.noConfusion h); conv => whnf) | (refine And.intro (fun h => Bool.noConfusion h) (fun _ => ?_); conv => whnf))
  refine And.intro (fun h4 => ?_) (fun h4 => ?_)
  · have hlt : k < p.length := by have := of_decide_eq_true h4; rw [wLen] at this; omega
    rw [List.drop_eq_getElem_cons hlt, List.all_cons] at ha
    (conv => whnf); repeat (first | (refine And.intro DrawOk.go ?_; conv => whnf) | (refine And.intro rfl ?_; conv => whnf) | (refine And.intro (fun _ => ?_) (fun h => Bool.noConfusion h); conv => whnf) | (refine And.intro (fun h => Bool.noConfusion h) (fun _ => ?_); conv => whnf))
    refine ⟨by omega, _, wItem hlt, rfl, ?_⟩
    (conv => whnf); repeat (first | (refine And.intro DrawOk.go ?_; conv => whnf) | (refine And.intro rfl ?_; conv => whnf) | (refine And.intro (fun _ => ?_) (fun h => Bool.noConfusion h); conv => whnf) | (refine And.intro (fun h => Bool.noConfusion h) (fun _ => ?_); conv => whnf))
    repeat' (first | ((refine And.intro (fun h => ?_) (fun h => ?_)) <;> (try simp at h) <;> ((conv => whnf); repeat (first | (refine And.intro DrawOk.go ?_; conv => whnf) | (refine And.intro rfl ?_; conv => whnf) | (refine And.intro (fun _ => ?_) (fun h => Bool.noConfusion h); conv => whnf) | (refine And.intro (fun h => Bool.noConfusion h) (fun _ => ?_); conv => whnf)))) | fail)
    all_goals first
      | (refine again (k + 1) ⟨hlt, ?_⟩ (by omega) ?_
         · rw [ha, show advOk g p[k] = true from by simp [advOk, *], Bool.true_and]
         · (refine And.intro rfl (And.intro rfl ?_)); (repeat' (first | exact trivial | exact rfl | apply And.intro | (refine congrArg (Value.int .i64) (w64_nat ?_); omega))))
      | (refine Exists.intro [] (And.intro List.nodup_nil ?_); ((conv => whnf); repeat (first | (refine And.intro DrawOk.go ?_; conv => whnf) | (refine And.intro rfl ?_; conv => whnf) | (refine And.intro (fun _ => ?_) (fun h => Bool.noConfusion h); conv => whnf) | (refine And.intro (fun h => Bool.noConfusion h) (fun _ => ?_); conv => whnf)))
         rw [ha, show advOk g p[k] = false from by simp [advOk, *]]
         rfl)
  have hge : ¬ k < p.length := by have := of_decide_eq_false h4; rw [wLen] at this; omega
  rw [List.drop_of_length_le (by omega)] at ha
  rw [show p.all (advOk g) = true from ha, if_pos rfl]
  clear h4
  (conv => whnf); repeat (first | (refine And.intro DrawOk.go ?_; conv => whnf) | (refine And.intro rfl ?_; conv => whnf) | (refine And.intro (fun _ => ?_) (fun h => Bool.noConfusion h); conv => whnf) | (refine And.intro (fun h => Bool.noConfusion h) (fun _ => ?_); conv => whnf))
  refine Exists.intro [] (And.intro List.nodup_nil ?_); ((conv => whnf); repeat (first | (refine And.intro DrawOk.go ?_; conv => whnf) | (refine And.intro rfl ?_; conv => whnf) | (refine And.intro (fun _ => ?_) (fun h => Bool.noConfusion h); conv => whnf) | (refine And.intro (fun h => Bool.noConfusion h) (fun _ => ?_); conv => whnf)))
  rw [hw]; rfl
omit hp in
set_option maxRecDepth 100000 in
set_option maxHeartbeats 16000000 in
theorem eadvF' : Fun Try.prog 93 [epA g p z] [] (epT (eadv g p z).1 (wV p) (zpR z) (eadv g p z).2) := by
  have hvf := evalidF' g p z hz
  by_cases hc : evalid g p z = true ∧ g < 1099511627776
  rotate_left
  · have e := eadv_out (g := g) (p := p) (z := z) (by
      by_cases h : evalid g p z = true
      · exact Or.inr (fun h2 => hc ⟨h, h2⟩)
      · exact Or.inl (by simpa using h))
    rw [e]
    cases hv : evalid g p z
    all_goals
      rw [hv] at hvf
      refine fun_of_vc tabOk mixOk Try.func93 rfl (by rfl) (rs := [.cell 2 39, .tmp 3]) rfl rfl 47 ?_; rw [Try.ntmps93]
      (conv => whnf); repeat (first | (refine And.intro DrawOk.go ?_; conv => whnf) | (refine And.intro rfl ?_; conv => whnf) | (refine And.intro (fun _ => ?_) (fun h => Bool.noConfusion h); conv => whnf) | (refine And.intro (fun h => Bool.noConfusion h) (fun _ => ?_); conv => whnf))
      repeat' (first | ((refine And.intro (fun h => ?_) (fun h => ?_)) <;> (try simp at h) <;> ((conv => whnf); repeat (first | (refine And.intro DrawOk.go ?_; conv => whnf) | (refine And.intro rfl ?_; conv => whnf) | (refine And.intro (fun _ => ?_) (fun h => Bool.noConfusion h); conv => whnf) | (refine And.intro (fun h => Bool.noConfusion h) (fun _ => ?_); conv => whnf)))) | (refine ⟨_, _, hvf, ?_⟩; ((conv => whnf); repeat (first | (refine And.intro DrawOk.go ?_; conv => whnf) | (refine And.intro rfl ?_; conv => whnf) | (refine And.intro (fun _ => ?_) (fun h => Bool.noConfusion h); conv => whnf) | (refine And.intro (fun h => Bool.noConfusion h) (fun _ => ?_); conv => whnf)))) | fail)
    all_goals first
      | (refine Exists.intro [] (And.intro List.nodup_nil ?_); ((conv => whnf); repeat (first | (refine And.intro DrawOk.go ?_; conv => whnf) | (refine And.intro rfl ?_; conv => whnf) | (refine And.intro (fun _ => ?_) (fun h => Bool.noConfusion h); conv => whnf) | (refine And.intro (fun h => Bool.noConfusion h) (fun _ => ?_); conv => whnf)))
         rfl)
      | (exfalso; exact hc ⟨hv, by have := evalid_g hv; omega⟩)
  obtain ⟨hv, hg⟩ := hc
  rw [eadv_in hv hg]
  rw [hv] at hvf
  have hgb := evalid_g hv
  have hw : iwrap .i64 (g + 1) = g + 1 := w64_in (by omega)
  refine fun_of_vc tabOk mixOk Try.func93 rfl (by rfl) (rs := [.cell 2 39, .tmp 3]) rfl rfl 47 ?_; rw [Try.ntmps93]
  (conv => whnf); repeat (first | (refine And.intro DrawOk.go ?_; conv => whnf) | (refine And.intro rfl ?_; conv => whnf) | (refine And.intro (fun _ => ?_) (fun h => Bool.noConfusion h); conv => whnf) | (refine And.intro (fun h => Bool.noConfusion h) (fun _ => ?_); conv => whnf))
  refine ⟨_, _, hvf, ?_⟩
  (conv => whnf); repeat (first | (refine And.intro DrawOk.go ?_; conv => whnf) | (refine And.intro rfl ?_; conv => whnf) | (refine And.intro (fun _ => ?_) (fun h => Bool.noConfusion h); conv => whnf) | (refine And.intro (fun h => Bool.noConfusion h) (fun _ => ?_); conv => whnf))
  refine And.intro (fun h => by simp at h; omega) (fun _ => ?_)
  (conv => whnf); repeat (first | (refine And.intro DrawOk.go ?_; conv => whnf) | (refine And.intro rfl ?_; conv => whnf) | (refine And.intro (fun _ => ?_) (fun h => Bool.noConfusion h); conv => whnf) | (refine And.intro (fun h => Bool.noConfusion h) (fun _ => ?_); conv => whnf))
  refine vc_loop [1, 2] [1, 2] (X := Nat) (fun k gs => [(4, ATint k)]) (fun _ _ => []) (fun k => k ≤ p.length ∧ p.all (advOk g) = (p.drop k).all (advOk g)) (fun k => p.length - k) _ (Ghost.refl _) 0 ⟨by omega, rfl⟩ ?_ ?_
  · (refine And.intro rfl (And.intro rfl ?_)); (repeat' (first | exact trivial | exact rfl | apply And.intro | (refine congrArg (Value.int .i64) (w64_nat ?_); omega)))
  rintro gs k ⟨hk, ha⟩
  (conv => whnf); repeat (first | (refine And.intro DrawOk.go ?_; conv => whnf) | (refine And.intro rfl ?_; conv => whnf) | (refine And.intro (fun _ => ?_) (fun h => Bool.noConfusion h); conv => whnf) | (refine And.intro (fun h => Bool.noConfusion h) (fun _ => ?_); conv => whnf))
  refine And.intro (fun h4 => ?_) (fun h4 => ?_)
  · have hlt : k < p.length := by have := of_decide_eq_true h4; rw [wLen] at this; omega
    rw [List.drop_eq_getElem_cons hlt, List.all_cons] at ha
    (conv => whnf); repeat (first | (refine And.intro DrawOk.go ?_; conv => whnf) | (refine And.intro rfl ?_; conv => whnf) | (refine And.intro (fun _ => ?_) (fun h => Bool.noConfusion h); conv => whnf) | (refine And.intro (fun h => Bool.noConfusion h) (fun _ => ?_); conv => whnf))
    repeat' (first | ((refine And.intro (fun h => ?_) (fun h => ?_)) <;> (try simp at h) <;> ((conv => whnf); repeat (first | (refine And.intro DrawOk.go ?_; conv => whnf) | (refine And.intro rfl ?_; conv => whnf) | (refine And.intro (fun _ => ?_) (fun h => Bool.noConfusion h); conv => whnf) | (refine And.intro (fun h => Bool.noConfusion h) (fun _ => ?_); conv => whnf)))) | (refine ⟨by omega, _, wItem hlt, rfl, ?_⟩; ((conv => whnf); repeat (first | (refine And.intro DrawOk.go ?_; conv => whnf) | (refine And.intro rfl ?_; conv => whnf) | (refine And.intro (fun _ => ?_) (fun h => Bool.noConfusion h); conv => whnf) | (refine And.intro (fun h => Bool.noConfusion h) (fun _ => ?_); conv => whnf)))) | fail)
    all_goals first
      | (refine again (k + 1) ⟨hlt, ?_⟩ (by omega) ?_
         · rw [ha, show advOk g p[k] = true from by simp [advOk, *], Bool.true_and]
         · (refine And.intro rfl (And.intro rfl ?_)); (repeat' (first | exact trivial | exact rfl | apply And.intro | (refine congrArg (Value.int .i64) (w64_nat ?_); omega))))
      | (refine Exists.intro [] (And.intro List.nodup_nil ?_); ((conv => whnf); repeat (first | (refine And.intro DrawOk.go ?_; conv => whnf) | (refine And.intro rfl ?_; conv => whnf) | (refine And.intro (fun _ => ?_) (fun h => Bool.noConfusion h); conv => whnf) | (refine And.intro (fun h => Bool.noConfusion h) (fun _ => ?_); conv => whnf)))
         rw [ha, show advOk g p[k] = false from by simp [advOk, *]]
         rfl)
  have hge : ¬ k < p.length := by have := of_decide_eq_false h4; rw [wLen] at this; omega
  rw [List.drop_of_length_le (by omega)] at ha
  rw [show p.all (advOk g) = true from ha, if_pos rfl]
  clear h4
  (conv => whnf); repeat (first | (refine And.intro DrawOk.go ?_; conv => whnf) | (refine And.intro rfl ?_; conv => whnf) | (refine And.intro (fun _ => ?_) (fun h => Bool.noConfusion h); conv => whnf) | (refine And.intro (fun h => Bool.noConfusion h) (fun _ => ?_); conv => whnf))
  refine Exists.intro [] (And.intro List.nodup_nil ?_); ((conv => whnf); repeat (first | (refine And.intro DrawOk.go ?_; conv => whnf) | (refine And.intro rfl ?_; conv => whnf) | (refine And.intro (fun _ => ?_) (fun h => Bool.noConfusion h); conv => whnf) | (refine And.intro (fun h => Bool.noConfusion h) (fun _ => ?_); conv => whnf)))
  rw [hw]; rfl
omit hp in
set_option maxRecDepth 100000 in
set_option maxHeartbeats 16000000 in
theorem isRetF (n : Int) : Fun Try.prog 117 [epA g p z, i64V n] [] (ATbool (z.any (znB n))) := by
  have hr := retiredF' g p z n z.length (Nat.le_refl _) hz
  rw [List.take_length, ← zpLen z] at hr
  refine fun_of_vc tabOk mixOk Try.func117 rfl (by rfl) (rs := [.tmp 4]) rfl rfl 15 ?_; rw [Try.ntmps117]
  (conv => whnf); repeat (first | (refine And.intro DrawOk.go ?_; conv => whnf) | (refine And.intro rfl ?_; conv => whnf) | (refine And.intro (fun _ => ?_) (fun h => Bool.noConfusion h); conv => whnf) | (refine And.intro (fun h => Bool.noConfusion h) (fun _ => ?_); conv => whnf))
  refine ⟨_, _, hr, ?_⟩
  (conv => whnf); repeat (first | (refine And.intro DrawOk.go ?_; conv => whnf) | (refine And.intro rfl ?_; conv => whnf) | (refine And.intro (fun _ => ?_) (fun h => Bool.noConfusion h); conv => whnf) | (refine And.intro (fun h => Bool.noConfusion h) (fun _ => ?_); conv => whnf))
  refine Exists.intro [] (And.intro List.nodup_nil ?_); ((conv => whnf); repeat (first | (refine And.intro DrawOk.go ?_; conv => whnf) | (refine And.intro rfl ?_; conv => whnf) | (refine And.intro (fun _ => ?_) (fun h => Bool.noConfusion h); conv => whnf) | (refine And.intro (fun h => Bool.noConfusion h) (fun _ => ?_); conv => whnf)))
  rfl
omit hp in
set_option maxRecDepth 100000 in
set_option maxHeartbeats 16000000 in
theorem eretF' (n : Int) : Fun Try.prog 68 [epA g p z, i64V n] [] (epT g (wV p) (zpR (eret g p z n).1) (eret g p z n).2) := by
  have hvf := evalidF' g p z hz
  have hr := retiredF' g p z n z.length (Nat.le_refl _) hz
  rw [List.take_length, ← zpLen z] at hr
  by_cases hc : evalid g p z = true ∧ 0 ≤ n ∧ z.any (znB n) = false
  · have e : eret g p z n = (z ++ [(n, g)], true) := by unfold eret; rw [if_pos hc]
    rw [hc.1] at hvf
    rw [hc.2.2] at hr
    refine fun_of_vc tabOk mixOk Try.func68 rfl (by rfl) (rs := [.cell 4 39, .tmp 5]) rfl rfl 38 ?_; rw [Try.ntmps68]
    (conv => whnf); repeat (first | (refine And.intro DrawOk.go ?_; conv => whnf) | (refine And.intro rfl ?_; conv => whnf) | (refine And.intro (fun _ => ?_) (fun h => Bool.noConfusion h); conv => whnf) | (refine And.intro (fun h => Bool.noConfusion h) (fun _ => ?_); conv => whnf))
    refine ⟨_, _, hvf, ?_⟩
    (conv => whnf); repeat (first | (refine And.intro DrawOk.go ?_; conv => whnf) | (refine And.intro rfl ?_; conv => whnf) | (refine And.intro (fun _ => ?_) (fun h => Bool.noConfusion h); conv => whnf) | (refine And.intro (fun h => Bool.noConfusion h) (fun _ => ?_); conv => whnf))
    refine And.intro (fun h => by simp at h; omega) (fun _ => ?_)
    (conv => whnf); repeat (first | (refine And.intro DrawOk.go ?_; conv => whnf) | (refine And.intro rfl ?_; conv => whnf) | (refine And.intro (fun _ => ?_) (fun h => Bool.noConfusion h); conv => whnf) | (refine And.intro (fun h => Bool.noConfusion h) (fun _ => ?_); conv => whnf))
    refine ⟨_, _, hr, ?_⟩
    (conv => whnf); repeat (first | (refine And.intro DrawOk.go ?_; conv => whnf) | (refine And.intro rfl ?_; conv => whnf) | (refine And.intro (fun _ => ?_) (fun h => Bool.noConfusion h); conv => whnf) | (refine And.intro (fun h => Bool.noConfusion h) (fun _ => ?_); conv => whnf))
    refine ⟨zpSz _, ?_⟩
    (conv => whnf); repeat (first | (refine And.intro DrawOk.go ?_; conv => whnf) | (refine And.intro rfl ?_; conv => whnf) | (refine And.intro (fun _ => ?_) (fun h => Bool.noConfusion h); conv => whnf) | (refine And.intro (fun h => Bool.noConfusion h) (fun _ => ?_); conv => whnf))
    refine ⟨bytes_le (by decide) (by simp [zpR]; omega), ?_⟩
    (conv => whnf); repeat (first | (refine And.intro DrawOk.go ?_; conv => whnf) | (refine And.intro rfl ?_; conv => whnf) | (refine And.intro (fun _ => ?_) (fun h => Bool.noConfusion h); conv => whnf) | (refine And.intro (fun h => Bool.noConfusion h) (fun _ => ?_); conv => whnf))
    refine ⟨zpSz [(n, g)], ?_⟩
    (conv => whnf); repeat (first | (refine And.intro DrawOk.go ?_; conv => whnf) | (refine And.intro rfl ?_; conv => whnf) | (refine And.intro (fun _ => ?_) (fun h => Bool.noConfusion h); conv => whnf) | (refine And.intro (fun h => Bool.noConfusion h) (fun _ => ?_); conv => whnf))
    refine ⟨bytes_le (by decide) (by simp [zpR]; omega), ?_⟩
    (conv => whnf); repeat (first | (refine And.intro DrawOk.go ?_; conv => whnf) | (refine And.intro rfl ?_; conv => whnf) | (refine And.intro (fun _ => ?_) (fun h => Bool.noConfusion h); conv => whnf) | (refine And.intro (fun h => Bool.noConfusion h) (fun _ => ?_); conv => whnf))
    refine Exists.intro [] (And.intro List.nodup_nil ?_); ((conv => whnf); repeat (first | (refine And.intro DrawOk.go ?_; conv => whnf) | (refine And.intro rfl ?_; conv => whnf) | (refine And.intro (fun _ => ?_) (fun h => Bool.noConfusion h); conv => whnf) | (refine And.intro (fun h => Bool.noConfusion h) (fun _ => ?_); conv => whnf)))
    rw [e]
    exact congrArg (fun l => epT g (wV p) l true) (show zpR z ++ [zpRow (n, g)] = zpR (z ++ [(n, g)]) by simp [zpR])
  · have e : eret g p z n = (z, false) := by unfold eret; rw [if_neg hc]
    rw [e]
    cases hv : evalid g p z <;> cases ha : z.any (znB n)
    all_goals
      rw [hv] at hvf
      rw [ha] at hr
      refine fun_of_vc tabOk mixOk Try.func68 rfl (by rfl) (rs := [.cell 4 39, .tmp 5]) rfl rfl 38 ?_; rw [Try.ntmps68]
      (conv => whnf); repeat (first | (refine And.intro DrawOk.go ?_; conv => whnf) | (refine And.intro rfl ?_; conv => whnf) | (refine And.intro (fun _ => ?_) (fun h => Bool.noConfusion h); conv => whnf) | (refine And.intro (fun h => Bool.noConfusion h) (fun _ => ?_); conv => whnf))
      repeat' (first | ((refine And.intro (fun h => ?_) (fun h => ?_)) <;> (try simp at h) <;> ((conv => whnf); repeat (first | (refine And.intro DrawOk.go ?_; conv => whnf) | (refine And.intro rfl ?_; conv => whnf) | (refine And.intro (fun _ => ?_) (fun h => Bool.noConfusion h); conv => whnf) | (refine And.intro (fun h => Bool.noConfusion h) (fun _ => ?_); conv => whnf)))) | (refine ⟨_, _, hvf, ?_⟩; ((conv => whnf); repeat (first | (refine And.intro DrawOk.go ?_; conv => whnf) | (refine And.intro rfl ?_; conv => whnf) | (refine And.intro (fun _ => ?_) (fun h => Bool.noConfusion h); conv => whnf) | (refine And.intro (fun h => Bool.noConfusion h) (fun _ => ?_); conv => whnf)))) | (refine ⟨_, _, hr, ?_⟩; ((conv => whnf); repeat (first | (refine And.intro DrawOk.go ?_; conv => whnf) | (refine And.intro rfl ?_; conv => whnf) | (refine And.intro (fun _ => ?_) (fun h => Bool.noConfusion h); conv => whnf) | (refine And.intro (fun h => Bool.noConfusion h) (fun _ => ?_); conv => whnf)))) | fail)
    all_goals first
      | (refine Exists.intro [] (And.intro List.nodup_nil ?_); ((conv => whnf); repeat (first | (refine And.intro DrawOk.go ?_; conv => whnf) | (refine And.intro rfl ?_; conv => whnf) | (refine And.intro (fun _ => ?_) (fun h => Bool.noConfusion h); conv => whnf) | (refine And.intro (fun h => Bool.noConfusion h) (fun _ => ?_); conv => whnf)))
         rfl)
      | (exfalso; exact hc ⟨hv, by omega, ha⟩)
end
end Go.Proofs.Ytijajfldpaadnaa.Ab
