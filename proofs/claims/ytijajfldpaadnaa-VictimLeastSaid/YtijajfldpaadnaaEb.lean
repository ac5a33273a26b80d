/- Epochs: Valid, slot, and the document's. -/
import Derived.Test.YtijajfldpaadnaaEa
namespace Go.Proofs.Ytijajfldpaadnaa.Ab
set_option linter.unusedVariables false
set_option linter.unusedSimpArgs false
open Go.RowKit

theorem evalid_no {g : Int} {p : List Int} {z : List (Int × Int)} (h : ¬ (1 ≤ p.length ∧ p.length ≤ 4 ∧ 0 ≤ g ∧ g ≤ 1099511627776)) : evalid g p z = false := by
  unfold evalid; rw [decide_eq_false h]; rfl
theorem evalid_yes {g : Int} {p : List Int} {z : List (Int × Int)} (h : 1 ≤ p.length ∧ p.length ≤ 4 ∧ 0 ≤ g ∧ g ≤ 1099511627776) : evalid g p z = (p.all (pinOk g) && zGo g [] z) := by
  unfold evalid; rw [decide_eq_true h]; rfl
set_option maxRecDepth 100000 in
set_option maxHeartbeats 16000000 in
theorem evalidF_no (g : Int) (p : List Int) (z : List (Int × Int)) (h : ¬ (1 ≤ p.length ∧ p.length ≤ 4 ∧ 0 ≤ g ∧ g ≤ 1099511627776)) : Fun Try.prog 51 [epA g p z] [] (ATbool false) := by
  refine fun_of_vc tabOk mixOk Try.func51 rfl (by rfl) (rs := [.tmp 2]) rfl rfl 92 ?_; rw [Try.ntmps51]
  (conv => whnf); repeat (first | (refine And.intro DrawOk.go ?_; conv => whnf) | (refine And.intro rfl ?_; conv => whnf) | (refine And.intro (fun _ => ?_) (fun h => Bool.noConfusion h); conv => whnf) | (refine And.intro (fun h => Bool.noConfusion h) (fun _ => ?_); conv => whnf))
  repeat' (first | ((refine And.intro (fun h => ?_) (fun h => ?_)) <;> (try simp at h) <;> ((conv => whnf); repeat (first | (refine And.intro DrawOk.go ?_; conv => whnf) | (refine And.intro rfl ?_; conv => whnf) | (refine And.intro (fun _ => ?_) (fun h => Bool.noConfusion h); conv => whnf) | (refine And.intro (fun h => Bool.noConfusion h) (fun _ => ?_); conv => whnf)))) | fail)
  all_goals first
    | (exfalso; rw [wLen] at *; omega)
    | (refine Exists.intro [] (And.intro List.nodup_nil ?_); ((conv => whnf); repeat (first | (refine And.intro DrawOk.go ?_; conv => whnf) | (refine And.intro rfl ?_; conv => whnf) | (refine And.intro (fun _ => ?_) (fun h => Bool.noConfusion h); conv => whnf) | (refine And.intro (fun h => Bool.noConfusion h) (fun _ => ?_); conv => whnf)))
       rfl)
set_option maxRecDepth 100000 in
set_option maxHeartbeats 16000000 in
theorem evalidF'_no (g : Int) (p : List Int) (z : List (Int × Int)) (h : ¬ (1 ≤ p.length ∧ p.length ≤ 4 ∧ 0 ≤ g ∧ g ≤ 1099511627776)) : Fun Try.prog 91 [epA g p z] [] (ATbool false) := by
  refine fun_of_vc tabOk mixOk Try.func91 rfl (by rfl) (rs := [.tmp 2]) rfl rfl 106 ?_; rw [Try.ntmps91]
  (conv => whnf); repeat (first | (refine And.intro DrawOk.go ?_; conv => whnf) | (refine And.intro rfl ?_; conv => whnf) | (refine And.intro (fun _ => ?_) (fun h => Bool.noConfusion h); conv => whnf) | (refine And.intro (fun h => Bool.noConfusion h) (fun _ => ?_); conv => whnf))
  repeat' (first | ((refine And.intro (fun h => ?_) (fun h => ?_)) <;> (try simp at h) <;> ((conv => whnf); repeat (first | (refine And.intro DrawOk.go ?_; conv => whnf) | (refine And.intro rfl ?_; conv => whnf) | (refine And.intro (fun _ => ?_) (fun h => Bool.noConfusion h); conv => whnf) | (refine And.intro (fun h => Bool.noConfusion h) (fun _ => ?_); conv => whnf)))) | fail)
  all_goals first
    | (exfalso; rw [wLen] at *; omega)
    | (refine Exists.intro [] (And.intro List.nodup_nil ?_); ((conv => whnf); repeat (first | (refine And.intro DrawOk.go ?_; conv => whnf) | (refine And.intro rfl ?_; conv => whnf) | (refine And.intro (fun _ => ?_) (fun h => Bool.noConfusion h); conv => whnf) | (refine And.intro (fun h => Bool.noConfusion h) (fun _ => ?_); conv => whnf)))
       rfl)

theorem sF_at {pre : List (Int × Int)} {n : Int} {b : Bool} (h : pre.any (znB n) = b) : sF pre (.int .i64 n) = if b = true then some [.sc (.bool true)] else none := by
  subst h
  unfold sF
  dsimp only
  cases pre.any (znB n) <;> rfl
set_option maxRecDepth 100000 in
set_option maxHeartbeats 16000000 in
theorem evalidF (g : Int) (p : List Int) (z : List (Int × Int)) (hz : z.length ≤ 1000000) : Fun Try.prog 51 [epA g p z] [] (ATbool (evalid g p z)) := by
  by_cases h1 : 1 ≤ p.length ∧ p.length ≤ 4 ∧ 0 ≤ g ∧ g ≤ 1099511627776
  rotate_left
  · rw [evalid_no h1]; exact evalidF_no g p z h1
  rw [evalid_yes h1]
  have hw : iwrap .i64 (g - 1) = g - 1 := w64_in (by omega)
  refine fun_of_vc tabOk mixOk Try.func51 rfl (by rfl) (rs := [.tmp 2]) rfl rfl 92 ?_; rw [Try.ntmps51]
  (conv => whnf); repeat (first | (refine And.intro DrawOk.go ?_; conv => whnf) | (refine And.intro rfl ?_; conv => whnf) | (refine And.intro (fun _ => ?_) (fun h => Bool.noConfusion h); conv => whnf) | (refine And.intro (fun h => Bool.noConfusion h) (fun _ => ?_); conv => whnf))
  refine And.intro (fun h => by simp [wLen] at h; omega) (fun _ => ?_)
  (conv => whnf); repeat (first | (refine And.intro DrawOk.go ?_; conv => whnf) | (refine And.intro rfl ?_; conv => whnf) | (refine And.intro (fun _ => ?_) (fun h => Bool.noConfusion h); conv => whnf) | (refine And.intro (fun h => Bool.noConfusion h) (fun _ => ?_); conv => whnf))
  refine And.intro (fun h => by simp [wLen] at h; omega) (fun _ => ?_)
  (conv => whnf); repeat (first | (refine And.intro DrawOk.go ?_; conv => whnf) | (refine And.intro rfl ?_; conv => whnf) | (refine And.intro (fun _ => ?_) (fun h => Bool.noConfusion h); conv => whnf) | (refine And.intro (fun h => Bool.noConfusion h) (fun _ => ?_); conv => whnf))
  refine And.intro (fun h => by simp at h; omega) (fun _ => ?_)
  (conv => whnf); repeat (first | (refine And.intro DrawOk.go ?_; conv => whnf) | (refine And.intro rfl ?_; conv => whnf) | (refine And.intro (fun _ => ?_) (fun h => Bool.noConfusion h); conv => whnf) | (refine And.intro (fun h => Bool.noConfusion h) (fun _ => ?_); conv => whnf))
  refine And.intro (fun h => by simp at h; omega) (fun _ => ?_)
  (conv => whnf); repeat (first | (refine And.intro DrawOk.go ?_; conv => whnf) | (refine And.intro rfl ?_; conv => whnf) | (refine And.intro (fun _ => ?_) (fun h => Bool.noConfusion h); conv => whnf) | (refine And.intro (fun h => Bool.noConfusion h) (fun _ => ?_); conv => whnf))
  refine vc_loop [1, 29, 30] [1] (X := Nat) (fun k gs => [(31, ATint k)]) (fun _ _ => []) (fun k => k ≤ p.length ∧ p.all (pinOk g) = (p.drop k).all (pinOk g)) (fun k => p.length - k) _ (Ghost.refl _) 0 ⟨by omega, rfl⟩ ?_ ?_
  · (refine And.intro rfl (And.intro rfl ?_)); (repeat' (first | exact trivial | exact rfl | apply And.intro | (refine congrArg (Value.int .i64) (w64_nat ?_); omega)))
  rintro gs k ⟨hk, ha⟩
  (conv => whnf); repeat (first | (refine And.intro DrawOk.go ?_; conv => whnf) | (refine And.intro rfl ?_; conv => whnf) | (refine And.intro (fun _ => ?_) (fun h => Bool.noConfusion h); conv => whnf) | (refine And.intro (fun h => Bool.noConfusion h) (fun _ => ?_); conv => whnf))
  refine And.intro (fun h4 => ?_) (fun h4 => ?_)
  · have hlt : k < p.length := by have := of_decide_eq_true h4; rw [wLen] at this; omega
    rw [List.drop_eq_getElem_cons hlt, List.all_cons] at ha
    (conv => whnf); repeat (first | (refine And.intro DrawOk.go ?_; conv => whnf) | (refine And.intro rfl ?_; conv => whnf) | (refine And.intro (fun _ => ?_) (fun h => Bool.noConfusion h); conv => whnf) | (refine And.intro (fun h => Bool.noConfusion h) (fun _ => ?_); conv => whnf))
    refine ⟨by omega, _, wItem hlt, rfl, ?_⟩
    (conv => whnf); repeat (first | (refine And.intro DrawOk.go ?_; conv => whnf) | (refine And.intro rfl ?_; conv => whnf) | (refine And.intro (fun _ => ?_) (fun h => Bool.noConfusion h); conv => whnf) | (refine And.intro (fun h => Bool.noConfusion h) (fun _ => ?_); conv => whnf))
    repeat' (first | ((refine And.intro (fun h => ?_) (fun h => ?_)) <;> (try simp at h) <;> ((conv => whnf); repeat (first | (refine And.intro DrawOk.go ?_; conv => whnf) | (refine And.intro rfl ?_; conv => whnf) | (refine And.intro (fun _ => ?_) (fun h => Bool.noConfusion h); conv => whnf) | (refine And.intro (fun h => Bool.noConfusion h) (fun _ => ?_); conv => whnf)))) | fail)
    all_goals first
      | (refine again (k + 1) ⟨hlt, ?_⟩ (by omega) ?_
         · rw [ha, show pinOk g p[k] = true from decide_eq_true (by omega), Bool.true_and]
         · (refine And.intro rfl (And.intro rfl ?_)); (repeat' (first | exact trivial | exact rfl | apply And.intro | (refine congrArg (Value.int .i64) (w64_nat ?_); omega))))
      | (refine Exists.intro [] (And.intro List.nodup_nil ?_); ((conv => whnf); repeat (first | (refine And.intro DrawOk.go ?_; conv => whnf) | (refine And.intro rfl ?_; conv => whnf) | (refine And.intro (fun _ => ?_) (fun h => Bool.noConfusion h); conv => whnf) | (refine And.intro (fun h => Bool.noConfusion h) (fun _ => ?_); conv => whnf)))
         rw [ha, show pinOk g p[k] = false from decide_eq_false (by omega)]
         rfl)
  have hge : ¬ k < p.length := by have := of_decide_eq_false h4; rw [wLen] at this; omega
  rw [List.drop_of_length_le (by omega)] at ha
  rw [show p.all (pinOk g) = true from ha, Bool.true_and]
  clear h4
  (conv => whnf); repeat (first | (refine And.intro DrawOk.go ?_; conv => whnf) | (refine And.intro rfl ?_; conv => whnf) | (refine And.intro (fun _ => ?_) (fun h => Bool.noConfusion h); conv => whnf) | (refine And.intro (fun h => Bool.noConfusion h) (fun _ => ?_); conv => whnf))
  refine vc_loop [1, 57, 58] [1] (X := Nat) (fun k gs => [(59, ATint k), (5, .v (.c (.own 55 (gs 55))))]) (fun k gs => [(55, .mp (gs 55) (.int .i64) false (sF (z.take k)))]) (fun k => k ≤ z.length ∧ zGo g [] z = zGo g (z.take k) (z.drop k)) (fun k => z.length - k) _ (Ghost.refl _) 0 ⟨by omega, rfl⟩ ?_ ?_
  · (refine And.intro rfl (And.intro rfl ?_)); (repeat' (first | exact trivial | exact rfl | apply And.intro | (refine congrArg (Value.int .i64) (w64_nat ?_); omega)))
    exact congrArg (Blk.mp _ _ _) sF_nil.symm
  rintro gs2 k ⟨hk, ha⟩
  (conv => whnf); repeat (first | (refine And.intro DrawOk.go ?_; conv => whnf) | (refine And.intro rfl ?_; conv => whnf) | (refine And.intro (fun _ => ?_) (fun h => Bool.noConfusion h); conv => whnf) | (refine And.intro (fun h => Bool.noConfusion h) (fun _ => ?_); conv => whnf))
  refine And.intro (fun h4 => ?_) (fun h4 => ?_)
  · have hlt : k < z.length := by have := of_decide_eq_true h4; rw [zpLen] at this; omega
    rw [zGo_step hlt] at ha
    have e1 : z.take (k + 1) = z.take k ++ [z[k]] := List.take_succ_eq_append_getElem hlt
    have hput := sF_put (z.take k) z[k]
    rw [← e1] at hput
    cases hany : (z.take k).any (znB z[k].1)
    all_goals
      have hl := sF_at hany
      simp only [Bool.false_eq_true, if_true, if_false] at hl
      (conv => whnf); repeat (first | (refine And.intro DrawOk.go ?_; conv => whnf) | (refine And.intro rfl ?_; conv => whnf) | (refine And.intro (fun _ => ?_) (fun h => Bool.noConfusion h); conv => whnf) | (refine And.intro (fun h => Bool.noConfusion h) (fun _ => ?_); conv => whnf))
      refine ⟨by omega, _, zpItem hlt, rfl, ?_⟩
      (conv => whnf); repeat (first | (refine And.intro DrawOk.go ?_; conv => whnf) | (refine And.intro rfl ?_; conv => whnf) | (refine And.intro (fun _ => ?_) (fun h => Bool.noConfusion h); conv => whnf) | (refine And.intro (fun h => Bool.noConfusion h) (fun _ => ?_); conv => whnf))
      repeat' (first | ((refine And.intro (fun h => ?_) (fun h => ?_)) <;> (try simp at h) <;> ((conv => whnf); repeat (first | (refine And.intro DrawOk.go ?_; conv => whnf) | (refine And.intro rfl ?_; conv => whnf) | (refine And.intro (fun _ => ?_) (fun h => Bool.noConfusion h); conv => whnf) | (refine And.intro (fun h => Bool.noConfusion h) (fun _ => ?_); conv => whnf)))) | (refine ⟨_, hl, ?_⟩; ((conv => whnf); repeat (first | (refine And.intro DrawOk.go ?_; conv => whnf) | (refine And.intro rfl ?_; conv => whnf) | (refine And.intro (fun _ => ?_) (fun h => Bool.noConfusion h); conv => whnf) | (refine And.intro (fun h => Bool.noConfusion h) (fun _ => ?_); conv => whnf)))) | fail)
    all_goals first
      | (refine again (k + 1) ⟨hlt, ?_⟩ (by omega) ?_
         · rw [ha, show zOk g (z.take k) z[k] = true from by unfold zOk; rw [hany, decide_eq_true (by omega)]; rfl, Bool.true_and]
         · (refine And.intro rfl (And.intro rfl ?_)); (repeat' (first | exact trivial | exact rfl | apply And.intro | (refine congrArg (Value.int .i64) (w64_nat ?_); omega)))
           exact congrArg (Blk.mp _ _ _) hput)
      | (refine Exists.intro [] (And.intro List.nodup_nil ?_); ((conv => whnf); repeat (first | (refine And.intro DrawOk.go ?_; conv => whnf) | (refine And.intro rfl ?_; conv => whnf) | (refine And.intro (fun _ => ?_) (fun h => Bool.noConfusion h); conv => whnf) | (refine And.intro (fun h => Bool.noConfusion h) (fun _ => ?_); conv => whnf)))
         rw [ha, show zOk g (z.take k) z[k] = false from by unfold zOk; rw [hany]; first | (simp; done) | (rw [decide_eq_false (by omega)]; rfl)]
         rfl)
  have hge2 : ¬ k < z.length := by have := of_decide_eq_false h4; rw [zpLen] at this; omega
  rw [List.drop_of_length_le (by omega)] at ha
  (conv => whnf); repeat (first | (refine And.intro DrawOk.go ?_; conv => whnf) | (refine And.intro rfl ?_; conv => whnf) | (refine And.intro (fun _ => ?_) (fun h => Bool.noConfusion h); conv => whnf) | (refine And.intro (fun h => Bool.noConfusion h) (fun _ => ?_); conv => whnf))
  refine Exists.intro [] (And.intro List.nodup_nil ?_); ((conv => whnf); repeat (first | (refine And.intro DrawOk.go ?_; conv => whnf) | (refine And.intro rfl ?_; conv => whnf) | (refine And.intro (fun _ => ?_) (fun h => Bool.noConfusion h); conv => whnf) | (refine And.intro (fun h => Bool.noConfusion h) (fun _ => ?_); conv => whnf)))
  rw [show zGo g [] z = true from ha]; rfl
set_option maxRecDepth 100000 in
set_option maxHeartbeats 16000000 in
theorem retiredF' (g : Int) (p : List Int) (z : List (Int × Int)) (n : Int) (u : Nat) (hu : u ≤ z.length) (hz : z.length ≤ 1000000) : Fun Try.prog 115 [epA g p z, i64V n, i64V u] [] (ATbool ((z.take u).any (znB n))) := by
  refine fun_of_vc tabOk mixOk Try.func115 rfl (by rfl) (rs := [.tmp 6]) rfl rfl 25 ?_; rw [Try.ntmps115]
  (conv => whnf); repeat (first | (refine And.intro DrawOk.go ?_; conv => whnf) | (refine And.intro rfl ?_; conv => whnf) | (refine And.intro (fun _ => ?_) (fun h => Bool.noConfusion h); conv => whnf) | (refine And.intro (fun h => Bool.noConfusion h) (fun _ => ?_); conv => whnf))
  refine vc_loop [1, 2, 3] [3] (X := Nat) (fun k gs => [(7, ATint k)]) (fun _ _ => []) (fun k => k ≤ u ∧ (z.take u).any (znB n) = ((z.take u).drop k).any (znB n)) (fun k => u - k) _ (Ghost.refl _) 0 ⟨by omega, rfl⟩ ?_ ?_
  · (refine And.intro rfl (And.intro rfl ?_)); (repeat' (first | exact trivial | exact rfl | apply And.intro | (refine congrArg (Value.int .i64) (w64_nat ?_); omega)))
  rintro gs k ⟨hk, ha⟩
  (conv => whnf); repeat (first | (refine And.intro DrawOk.go ?_; conv => whnf) | (refine And.intro rfl ?_; conv => whnf) | (refine And.intro (fun _ => ?_) (fun h => Bool.noConfusion h); conv => whnf) | (refine And.intro (fun h => Bool.noConfusion h) (fun _ => ?_); conv => whnf))
  refine And.intro (fun h4 => ?_) (fun h4 => ?_)
  · have hlu : k < u := by have := of_decide_eq_true h4; omega
    have hlt : k < z.length := by omega
    have hlt2 : k < (z.take u).length := by rw [List.length_take]; omega
    rw [List.drop_eq_getElem_cons hlt2, List.any_cons, List.getElem_take] at ha
    (conv => whnf); repeat (first | (refine And.intro DrawOk.go ?_; conv => whnf) | (refine And.intro rfl ?_; conv => whnf) | (refine And.intro (fun _ => ?_) (fun h => Bool.noConfusion h); conv => whnf) | (refine And.intro (fun h => Bool.noConfusion h) (fun _ => ?_); conv => whnf))
    refine ⟨by omega, _, zpItem hlt, rfl, ?_⟩
    (conv => whnf); repeat (first | (refine And.intro DrawOk.go ?_; conv => whnf) | (refine And.intro rfl ?_; conv => whnf) | (refine And.intro (fun _ => ?_) (fun h => Bool.noConfusion h); conv => whnf) | (refine And.intro (fun h => Bool.noConfusion h) (fun _ => ?_); conv => whnf))
    refine And.intro (fun h5 => ?_) (fun h5 => ?_)
    · (conv => whnf); repeat (first | (refine And.intro DrawOk.go ?_; conv => whnf) | (refine And.intro rfl ?_; conv => whnf) | (refine And.intro (fun _ => ?_) (fun h => Bool.noConfusion h); conv => whnf) | (refine And.intro (fun h => Bool.noConfusion h) (fun _ => ?_); conv => whnf))
      refine Exists.intro [] (And.intro List.nodup_nil ?_); ((conv => whnf); repeat (first | (refine And.intro DrawOk.go ?_; conv => whnf) | (refine And.intro rfl ?_; conv => whnf) | (refine And.intro (fun _ => ?_) (fun h => Bool.noConfusion h); conv => whnf) | (refine And.intro (fun h => Bool.noConfusion h) (fun _ => ?_); conv => whnf)))
      rw [ha, show znB n z[k] = true from h5]; rfl
    · (conv => whnf); repeat (first | (refine And.intro DrawOk.go ?_; conv => whnf) | (refine And.intro rfl ?_; conv => whnf) | (refine And.intro (fun _ => ?_) (fun h => Bool.noConfusion h); conv => whnf) | (refine And.intro (fun h => Bool.noConfusion h) (fun _ => ?_); conv => whnf))
      refine again (k + 1) ⟨hlu, ?_⟩ (by omega) ?_
      · rw [ha, show znB n z[k] = false from h5, Bool.false_or]
      · (refine And.intro rfl (And.intro rfl ?_)); (repeat' (first | exact trivial | exact rfl | apply And.intro | (refine congrArg (Value.int .i64) (w64_nat ?_); omega)))
  have hge2 : ¬ k < u := by have := of_decide_eq_false h4; omega
  rw [List.drop_of_length_le (by rw [List.length_take]; omega)] at ha
  (conv => whnf); repeat (first | (refine And.intro DrawOk.go ?_; conv => whnf) | (refine And.intro rfl ?_; conv => whnf) | (refine And.intro (fun _ => ?_) (fun h => Bool.noConfusion h); conv => whnf) | (refine And.intro (fun h => Bool.noConfusion h) (fun _ => ?_); conv => whnf))
  refine Exists.intro [] (And.intro List.nodup_nil ?_); ((conv => whnf); repeat (first | (refine And.intro DrawOk.go ?_; conv => whnf) | (refine And.intro rfl ?_; conv => whnf) | (refine And.intro (fun _ => ?_) (fun h => Bool.noConfusion h); conv => whnf) | (refine And.intro (fun h => Bool.noConfusion h) (fun _ => ?_); conv => whnf)))
  rw [ha]; rfl
set_option maxRecDepth 100000 in
set_option maxHeartbeats 16000000 in
theorem evalidF' (g : Int) (p : List Int) (z : List (Int × Int)) (hz : z.length ≤ 1000000) : Fun Try.prog 91 [epA g p z] [] (ATbool (evalid g p z)) := by
  by_cases h1 : 1 ≤ p.length ∧ p.length ≤ 4 ∧ 0 ≤ g ∧ g ≤ 1099511627776
  rotate_left
  · rw [evalid_no h1]; exact evalidF'_no g p z h1
  rw [evalid_yes h1]
  have hw : iwrap .i64 (g - 1) = g - 1 := w64_in (by omega)
  refine fun_of_vc tabOk mixOk Try.func91 rfl (by rfl) (rs := [.tmp 2]) rfl rfl 106 ?_; rw [Try.ntmps91]
  (conv => whnf); repeat (first | (refine And.intro DrawOk.go ?_; conv => whnf) | (refine And.intro rfl ?_; conv => whnf) | (refine And.intro (fun _ => ?_) (fun h => Bool.noConfusion h); conv => whnf) | (refine And.intro (fun h => Bool.noConfusion h) (fun _ => ?_); conv => whnf))
  refine And.intro (fun h => by simp [wLen] at h; omega) (fun _ => ?_)
  (conv => whnf); repeat (first | (refine And.intro DrawOk.go ?_; conv => whnf) | (refine And.intro rfl ?_; conv => whnf) | (refine And.intro (fun _ => ?_) (fun h => Bool.noConfusion h); conv => whnf) | (refine And.intro (fun h => Bool.noConfusion h) (fun _ => ?_); conv => whnf))
  refine And.intro (fun h => by simp [wLen] at h; omega) (fun _ => ?_)
  (conv => whnf); repeat (first | (refine And.intro DrawOk.go ?_; conv => whnf) | (refine And.intro rfl ?_; conv => whnf) | (refine And.intro (fun _ => ?_) (fun h => Bool.noConfusion h); conv => whnf) | (refine And.intro (fun h => Bool.noConfusion h) (fun _ => ?_); conv => whnf))
  refine And.intro (fun h => by simp at h; omega) (fun _ => ?_)
  (conv => whnf); repeat (first | (refine And.intro DrawOk.go ?_; conv => whnf) | (refine And.intro rfl ?_; conv => whnf) | (refine And.intro (fun _ => ?_) (fun h => Bool.noConfusion h); conv => whnf) | (refine And.intro (fun h => Bool.noConfusion h) (fun _ => ?_); conv => whnf))
  refine And.intro (fun h => by simp at h; omega) (fun _ => ?_)
  (conv => whnf); repeat (first | (refine And.intro DrawOk.go ?_; conv => whnf) | (refine And.intro rfl ?_; conv => whnf) | (refine And.intro (fun _ => ?_) (fun h => Bool.noConfusion h); conv => whnf) | (refine And.intro (fun h => Bool.noConfusion h) (fun _ => ?_); conv => whnf))
  refine vc_loop [1] [1] (X := Nat) (fun k gs => [(3, ATint k)]) (fun _ _ => []) (fun k => k ≤ p.length ∧ p.all (pinOk g) = (p.drop k).all (pinOk g)) (fun k => p.length - k) _ (Ghost.refl _) 0 ⟨by omega, rfl⟩ ?_ ?_
  · (refine And.intro rfl (And.intro rfl ?_)); (repeat' (first | exact trivial | exact rfl | apply And.intro | (refine congrArg (Value.int .i64) (w64_nat ?_); omega)))
  rintro gs k ⟨hk, ha⟩
  (conv => whnf); repeat (first | (refine And.intro DrawOk.go ?_; conv => whnf) | (refine And.intro rfl ?_; conv => whnf) | (refine And.intro (fun _ => ?_) (fun h => Bool.noConfusion h); conv => whnf) | (refine And.intro (fun h => Bool.noConfusion h) (fun _ => ?_); conv => whnf))
  refine And.intro (fun h4 => ?_) (fun h4 => ?_)
  · have hlt : k < p.length := by have := of_decide_eq_true h4; rw [wLen] at this; omega
    rw [List.drop_eq_getElem_cons hlt, List.all_cons] at ha
    (conv => whnf); repeat (first | (refine And.intro DrawOk.go ?_; conv => whnf) | (refine And.intro rfl ?_; conv => whnf) | (refine And.intro (fun _ => ?_) (fun h => Bool.noConfusion h); conv => whnf) | (refine And.intro (fun h => Bool.noConfusion h) (fun _ => ?_); conv => whnf))
    refine ⟨by omega, _, wItem hlt, rfl, ?_⟩
    (conv => whnf); repeat (first | (refine And.intro DrawOk.go ?_; conv => whnf) | (refine And.intro rfl ?_; conv => whnf) | (refine And.intro (fun _ => ?_) (fun h => Bool.noConfusion h); conv => whnf) | (refine And.intro (fun h => Bool.noConfusion h) (fun _ => ?_); conv => whnf))
    repeat' (first | ((refine And.intro (fun h => ?_) (fun h => ?_)) <;> (try simp at h) <;> ((conv => whnf); repeat (first | (refine And.intro DrawOk.go ?_; conv => whnf) | (refine And.intro rfl ?_; conv => whnf) | (refine And.intro (fun _ => ?_) (fun h => Bool.noConfusion h); conv => whnf) | (refine And.intro (fun h => Bool.noConfusion h) (fun _ => ?_); conv => whnf)))) | fail)
    all_goals first
      | (refine again (k + 1) ⟨hlt, ?_⟩ (by omega) ?_
         · rw [ha, show pinOk g p[k] = true from decide_eq_true (by omega), Bool.true_and]
         · (refine And.intro rfl (And.intro rfl ?_)); (repeat' (first | exact trivial | exact rfl | apply And.intro | (refine congrArg (Value.int .i64) (w64_nat ?_); omega))))
      | (refine Exists.intro [] (And.intro List.nodup_nil ?_); ((conv => whnf); repeat (first | (refine And.intro DrawOk.go ?_; conv => whnf) | (refine And.intro rfl ?_; conv => whnf) | (refine And.intro (fun _ => ?_) (fun h => Bool.noConfusion h); conv => whnf) | (refine And.intro (fun h => Bool.noConfusion h) (fun _ => ?_); conv => whnf)))
         rw [ha, show pinOk g p[k] = false from decide_eq_false (by omega)]
         rfl)
  have hge : ¬ k < p.length := by have := of_decide_eq_false h4; rw [wLen] at this; omega
  rw [List.drop_of_length_le (by omega)] at ha
  rw [show p.all (pinOk g) = true from ha, Bool.true_and]
  clear h4
  (conv => whnf); repeat (first | (refine And.intro DrawOk.go ?_; conv => whnf) | (refine And.intro rfl ?_; conv => whnf) | (refine And.intro (fun _ => ?_) (fun h => Bool.noConfusion h); conv => whnf) | (refine And.intro (fun h => Bool.noConfusion h) (fun _ => ?_); conv => whnf))
  refine vc_loop [1] [1] (X := Nat) (fun k gs => [(5, ATint k)]) (fun _ _ => []) (fun k => k ≤ z.length ∧ zGo g [] z = zGo g (z.take k) (z.drop k)) (fun k => z.length - k) _ (Ghost.refl _) 0 ⟨by omega, rfl⟩ ?_ ?_
  · (refine And.intro rfl (And.intro rfl ?_)); (repeat' (first | exact trivial | exact rfl | apply And.intro | (refine congrArg (Value.int .i64) (w64_nat ?_); omega)))
  rintro gs2 k ⟨hk, ha⟩
  (conv => whnf); repeat (first | (refine And.intro DrawOk.go ?_; conv => whnf) | (refine And.intro rfl ?_; conv => whnf) | (refine And.intro (fun _ => ?_) (fun h => Bool.noConfusion h); conv => whnf) | (refine And.intro (fun h => Bool.noConfusion h) (fun _ => ?_); conv => whnf))
  refine And.intro (fun h4 => ?_) (fun h4 => ?_)
  · have hlt : k < z.length := by have := of_decide_eq_true h4; rw [zpLen] at this; omega
    rw [zGo_step hlt] at ha
    have hr := retiredF' g p z z[k].1 k (by omega) hz
    cases hany : (z.take k).any (znB z[k].1)
    all_goals
      rw [hany] at hr
      (conv => whnf); repeat (first | (refine And.intro DrawOk.go ?_; conv => whnf) | (refine And.intro rfl ?_; conv => whnf) | (refine And.intro (fun _ => ?_) (fun h => Bool.noConfusion h); conv => whnf) | (refine And.intro (fun h => Bool.noConfusion h) (fun _ => ?_); conv => whnf))
      repeat' (first | ((refine And.intro (fun h => ?_) (fun h => ?_)) <;> (try simp at h) <;> ((conv => whnf); repeat (first | (refine And.intro DrawOk.go ?_; conv => whnf) | (refine And.intro rfl ?_; conv => whnf) | (refine And.intro (fun _ => ?_) (fun h => Bool.noConfusion h); conv => whnf) | (refine And.intro (fun h => Bool.noConfusion h) (fun _ => ?_); conv => whnf)))) | (refine ⟨_, _, hr, ?_⟩; ((conv => whnf); repeat (first | (refine And.intro DrawOk.go ?_; conv => whnf) | (refine And.intro rfl ?_; conv => whnf) | (refine And.intro (fun _ => ?_) (fun h => Bool.noConfusion h); conv => whnf) | (refine And.intro (fun h => Bool.noConfusion h) (fun _ => ?_); conv => whnf)))) | (refine ⟨by omega, _, zpItem hlt, rfl, ?_⟩; ((conv => whnf); repeat (first | (refine And.intro DrawOk.go ?_; conv => whnf) | (refine And.intro rfl ?_; conv => whnf) | (refine And.intro (fun _ => ?_) (fun h => Bool.noConfusion h); conv => whnf) | (refine And.intro (fun h => Bool.noConfusion h) (fun _ => ?_); conv => whnf)))) | fail)
    all_goals first
      | (refine again (k + 1) ⟨hlt, ?_⟩ (by omega) ?_
         · rw [ha, show zOk g (z.take k) z[k] = true from by unfold zOk; rw [hany, decide_eq_true (by omega)]; rfl, Bool.true_and]
         · (refine And.intro rfl (And.intro rfl ?_)); (repeat' (first | exact trivial | exact rfl | apply And.intro | (refine congrArg (Value.int .i64) (w64_nat ?_); omega))))
      | (refine Exists.intro [] (And.intro List.nodup_nil ?_); ((conv => whnf); repeat (first | (refine And.intro DrawOk.go ?_; conv => whnf) | (refine And.intro rfl ?_; conv => whnf) | (refine And.intro (fun _ => ?_) (fun h => Bool.noConfusion h); conv => whnf) | (refine And.intro (fun h => Bool.noConfusion h) (fun _ => ?_); conv => whnf)))
         rw [ha, show zOk g (z.take k) z[k] = false from by unfold zOk; rw [hany]; first | (simp; done) | (rw [decide_eq_false (by omega)]; rfl)]
         rfl)
  have hge2 : ¬ k < z.length := by have := of_decide_eq_false h4; rw [zpLen] at this; omega
  rw [List.drop_of_length_le (by omega)] at ha
  (conv => whnf); repeat (first | (refine And.intro DrawOk.go ?_; conv => whnf) | (refine And.intro rfl ?_; conv => whnf) | (refine And.intro (fun _ => ?_) (fun h => Bool.noConfusion h); conv => whnf) | (refine And.intro (fun h => Bool.noConfusion h) (fun _ => ?_); conv => whnf))
  refine Exists.intro [] (And.intro List.nodup_nil ?_); ((conv => whnf); repeat (first | (refine And.intro DrawOk.go ?_; conv => whnf) | (refine And.intro rfl ?_; conv => whnf) | (refine And.intro (fun _ => ?_) (fun h => Bool.noConfusion h); conv => whnf) | (refine And.intro (fun h => Bool.noConfusion h) (fun _ => ?_); conv => whnf)))
  rw [show zGo g [] z = true from ha]; rfl
end Go.Proofs.Ytijajfldpaadnaa.Ab
