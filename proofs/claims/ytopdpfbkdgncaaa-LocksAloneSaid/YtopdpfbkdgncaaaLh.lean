/- The locks: what is held. -/
import Derived.Test.YtopdpfbkdgncaaaLt
namespace Go.Proofs.Ytopdpfbkdgncaaa.Ab
set_option linter.unusedVariables false
set_option linter.unusedSimpArgs false
open Go.RowKit

def heldF (t : Int) : Nat → List Int → List Int
  | _, [] => []
  | k, x :: xs => (if x = t then [(k : Int)] else []) ++ heldF t (k + 1) xs
def heldL (t : Int) (ws : List Int) : List Int := if 0 ≤ t then heldF t 0 ws else []
/-- A list that is grown by appending: nil, or an own row. -/
def oA (b : Nat) (l : List Int) (gs : Nat → Nat) : AT := match l with
  | [] => .v (.c .nl)
  | _ :: _ => .v (.c (.own b (gs b)))
def oH (b : Nat) (l : List Int) (gs : Nat → Nat) : List (Nat × Blk) := match l with
  | [] => []
  | _ :: _ => [(b, .row (gs b) 3 1 (wV l))]
theorem heldF_len (t : Int) (ws : List Int) : ∀ k, (heldF t k ws).length ≤ ws.length := by
  induction ws with
  | nil => intro k; simp [heldF]
  | cons x ws ih => intro k; have := ih (k + 1); simp only [heldF, List.length_append, List.length_cons]; split <;> simp <;> omega
theorem heldL_len (t : Int) (ws : List Int) : (heldL t ws).length ≤ ws.length := by unfold heldL; split; exact heldF_len _ _ _; simp

theorem hsn (y : Int) (l : List Int) (k : Nat) : wV (y :: l) ++ [[.sc (.int .i64 k)]] = wV ((y :: l) ++ [(k : Int)]) := by simp [wV]

set_option maxRecDepth 100000 in
set_option maxHeartbeats 8000000 in
theorem heldP (ws : List Int) (t : Int) (hl : ws.length ≤ 100000) : Fun Try.prog 42 [lockV ws, i64V t] [] (.v (slV (wV (heldL t ws)))) := by
  refine fun_of_vc tabOk mixOk Try.func42 rfl (by rfl) (rs := [.tmp 4]) rfl rfl 34 ?_; rw [Try.ntmps42]
  (conv => whnf); repeat (first | (refine And.intro rfl ?_; conv => whnf) | (refine And.intro (fun _ => ?_) (fun h => Bool.noConfusion h); conv => whnf) | (refine And.intro (fun h => Bool.noConfusion h) (fun _ => ?_); conv => whnf))
  refine vc_loop [1, 2, 4, 9] [2] (X := Nat × List Int) (fun x gs => [(10, ATint x.1), (5, oA 27 x.2 gs)]) (fun x gs => oH 27 x.2 gs) (fun x => x.1 ≤ ws.length ∧ x.2.length ≤ x.1 ∧ heldL t ws = x.2 ++ (if 0 ≤ t then heldF t x.1 (ws.drop x.1) else [])) (fun x => ws.length - x.1) _ (Ghost.refl _) (0, []) ⟨by omega, by simp, rfl⟩ ?_ ?_
  · (refine And.intro rfl (And.intro rfl ?_)); (repeat' (first | exact trivial | exact rfl | apply And.intro | (refine congrArg (Value.int .i64) (w64_nat ?_); omega)))
  rintro gs ⟨k, l⟩ ⟨hk, hll, hh⟩
  dsimp only at hk hll hh ⊢
  cases l with
  | nil =>
    (conv => whnf); repeat (first | (refine And.intro rfl ?_; conv => whnf) | (refine And.intro (fun _ => ?_) (fun h => Bool.noConfusion h); conv => whnf) | (refine And.intro (fun h => Bool.noConfusion h) (fun _ => ?_); conv => whnf))
    refine And.intro (fun h4 => ?_) (fun h4 => ?_)
    · have hlt : k < ws.length := by simpa [wV] using h4
      rw [List.drop_eq_getElem_cons hlt] at hh
      (conv => whnf); repeat (first | (refine And.intro rfl ?_; conv => whnf) | (refine And.intro (fun _ => ?_) (fun h => Bool.noConfusion h); conv => whnf) | (refine And.intro (fun h => Bool.noConfusion h) (fun _ => ?_); conv => whnf))
      refine And.intro (fun h5 => ?_) (fun h5 => ?_)
      · have h5' : 0 ≤ t := of_decide_eq_true h5
        rw [if_pos h5'] at hh
        (conv => whnf); repeat (first | (refine And.intro rfl ?_; conv => whnf) | (refine And.intro (fun _ => ?_) (fun h => Bool.noConfusion h); conv => whnf) | (refine And.intro (fun h => Bool.noConfusion h) (fun _ => ?_); conv => whnf))
        refine ⟨by omega, _, wItem hlt, rfl, ?_⟩
        (conv => whnf); repeat (first | (refine And.intro rfl ?_; conv => whnf) | (refine And.intro (fun _ => ?_) (fun h => Bool.noConfusion h); conv => whnf) | (refine And.intro (fun h => Bool.noConfusion h) (fun _ => ?_); conv => whnf))
        refine And.intro (fun h6 => ?_) (fun h6 => ?_)
        · have h6' : ws[k] = t := by simpa using h6
          (conv => whnf); repeat (first | (refine And.intro rfl ?_; conv => whnf) | (refine And.intro (fun _ => ?_) (fun h => Bool.noConfusion h); conv => whnf) | (refine And.intro (fun h => Bool.noConfusion h) (fun _ => ?_); conv => whnf))
          refine ⟨fun z hz => ?_, ?_⟩
          · obtain rfl := List.mem_singleton.1 hz; rfl
          (conv => whnf); repeat (first | (refine And.intro rfl ?_; conv => whnf) | (refine And.intro (fun _ => ?_) (fun h => Bool.noConfusion h); conv => whnf) | (refine And.intro (fun h => Bool.noConfusion h) (fun _ => ?_); conv => whnf))
          refine ⟨bytes_le (by decide) (by simp [wV] at hll ⊢), ?_⟩
          (conv => whnf); repeat (first | (refine And.intro rfl ?_; conv => whnf) | (refine And.intro (fun _ => ?_) (fun h => Bool.noConfusion h); conv => whnf) | (refine And.intro (fun h => Bool.noConfusion h) (fun _ => ?_); conv => whnf))
          refine again (k + 1, [] ++ [(k : Int)]) ⟨hlt, by simp at hll ⊢, ?_⟩ (by dsimp only; omega) ?_
          · rw [if_pos h5', hh, heldF, if_pos h6']; simp
          · (refine And.intro rfl (And.intro rfl ?_)); (repeat' (first | exact trivial | exact rfl | apply And.intro | (refine congrArg (Value.int .i64) (w64_nat ?_); omega)))
        · have h6' : ¬ ws[k] = t := by simpa using h6
          (conv => whnf); repeat (first | (refine And.intro rfl ?_; conv => whnf) | (refine And.intro (fun _ => ?_) (fun h => Bool.noConfusion h); conv => whnf) | (refine And.intro (fun h => Bool.noConfusion h) (fun _ => ?_); conv => whnf))
          refine again (k + 1, []) ⟨hlt, by simp, ?_⟩ (by dsimp only; omega) ?_
          · rw [if_pos h5', hh, heldF, if_neg h6']; rfl
          · (refine And.intro rfl (And.intro rfl ?_)); (repeat' (first | exact trivial | exact rfl | apply And.intro | (refine congrArg (Value.int .i64) (w64_nat ?_); omega)))
      · have h5' : ¬ 0 ≤ t := of_decide_eq_false h5
        rw [if_neg h5'] at hh
        (conv => whnf); repeat (first | (refine And.intro rfl ?_; conv => whnf) | (refine And.intro (fun _ => ?_) (fun h => Bool.noConfusion h); conv => whnf) | (refine And.intro (fun h => Bool.noConfusion h) (fun _ => ?_); conv => whnf))
        refine again (k + 1, []) ⟨hlt, by simp, ?_⟩ (by dsimp only; omega) ?_
        · rw [if_neg h5', hh]
        · (refine And.intro rfl (And.intro rfl ?_)); (repeat' (first | exact trivial | exact rfl | apply And.intro | (refine congrArg (Value.int .i64) (w64_nat ?_); omega)))
    · have hge : ¬ k < ws.length := by simpa [wV] using h4
      rw [List.drop_of_length_le (by omega)] at hh
      (conv => whnf); repeat (first | (refine And.intro rfl ?_; conv => whnf) | (refine And.intro (fun _ => ?_) (fun h => Bool.noConfusion h); conv => whnf) | (refine And.intro (fun h => Bool.noConfusion h) (fun _ => ?_); conv => whnf))
      refine Exists.intro [] (And.intro List.nodup_nil ?_); ((conv => whnf); repeat (first | (refine And.intro rfl ?_; conv => whnf) | (refine And.intro (fun _ => ?_) (fun h => Bool.noConfusion h); conv => whnf) | (refine And.intro (fun h => Bool.noConfusion h) (fun _ => ?_); conv => whnf)))
      have e : heldL t ws = [] := by rw [hh]; split <;> simp [heldF]
      rw [e]; rfl
  | cons y l =>
    (conv => whnf); repeat (first | (refine And.intro rfl ?_; conv => whnf) | (refine And.intro (fun _ => ?_) (fun h => Bool.noConfusion h); conv => whnf) | (refine And.intro (fun h => Bool.noConfusion h) (fun _ => ?_); conv => whnf))
    refine And.intro (fun h4 => ?_) (fun h4 => ?_)
    · have hlt : k < ws.length := by simpa [wV] using h4
      rw [List.drop_eq_getElem_cons hlt] at hh
      (conv => whnf); repeat (first | (refine And.intro rfl ?_; conv => whnf) | (refine And.intro (fun _ => ?_) (fun h => Bool.noConfusion h); conv => whnf) | (refine And.intro (fun h => Bool.noConfusion h) (fun _ => ?_); conv => whnf))
      refine And.intro (fun h5 => ?_) (fun h5 => ?_)
      · have h5' : 0 ≤ t := of_decide_eq_true h5
        rw [if_pos h5'] at hh
        (conv => whnf); repeat (first | (refine And.intro rfl ?_; conv => whnf) | (refine And.intro (fun _ => ?_) (fun h => Bool.noConfusion h); conv => whnf) | (refine And.intro (fun h => Bool.noConfusion h) (fun _ => ?_); conv => whnf))
        refine ⟨by omega, _, wItem hlt, rfl, ?_⟩
        (conv => whnf); repeat (first | (refine And.intro rfl ?_; conv => whnf) | (refine And.intro (fun _ => ?_) (fun h => Bool.noConfusion h); conv => whnf) | (refine And.intro (fun h => Bool.noConfusion h) (fun _ => ?_); conv => whnf))
        refine And.intro (fun h6 => ?_) (fun h6 => ?_)
        · have h6' : ws[k] = t := by simpa using h6
          (conv => whnf); repeat (first | (refine And.intro rfl ?_; conv => whnf) | (refine And.intro (fun _ => ?_) (fun h => Bool.noConfusion h); conv => whnf) | (refine And.intro (fun h => Bool.noConfusion h) (fun _ => ?_); conv => whnf))
          refine ⟨fun z hz => ?_, ?_⟩
          · obtain rfl := List.mem_singleton.1 hz; rfl
          (conv => whnf); repeat (first | (refine And.intro rfl ?_; conv => whnf) | (refine And.intro (fun _ => ?_) (fun h => Bool.noConfusion h); conv => whnf) | (refine And.intro (fun h => Bool.noConfusion h) (fun _ => ?_); conv => whnf))
          refine ⟨bytes_le (by decide) (by simp [wV] at hll ⊢; omega), ?_⟩
          (conv => whnf); repeat (first | (refine And.intro rfl ?_; conv => whnf) | (refine And.intro (fun _ => ?_) (fun h => Bool.noConfusion h); conv => whnf) | (refine And.intro (fun h => Bool.noConfusion h) (fun _ => ?_); conv => whnf))
          refine again (k + 1, (y :: l) ++ [(k : Int)]) ⟨hlt, by simp at hll ⊢; omega, ?_⟩ (by dsimp only; omega) ?_
          · rw [if_pos h5', hh, heldF, if_pos h6']; simp
          · (refine And.intro rfl (And.intro rfl ?_)); (repeat' (first | exact trivial | exact rfl | apply And.intro | (refine congrArg (Value.int .i64) (w64_nat ?_); omega)))
            all_goals (exact congrArg (Blk.row _ _ _) (hsn y l k))
        · have h6' : ¬ ws[k] = t := by simpa using h6
          (conv => whnf); repeat (first | (refine And.intro rfl ?_; conv => whnf) | (refine And.intro (fun _ => ?_) (fun h => Bool.noConfusion h); conv => whnf) | (refine And.intro (fun h => Bool.noConfusion h) (fun _ => ?_); conv => whnf))
          refine again (k + 1, (y :: l)) ⟨hlt, by simp at hll ⊢; omega, ?_⟩ (by dsimp only; omega) ?_
          · rw [if_pos h5', hh, heldF, if_neg h6']; rfl
          · (refine And.intro rfl (And.intro rfl ?_)); (repeat' (first | exact trivial | exact rfl | apply And.intro | (refine congrArg (Value.int .i64) (w64_nat ?_); omega)))
      · have h5' : ¬ 0 ≤ t := of_decide_eq_false h5
        rw [if_neg h5'] at hh
        (conv => whnf); repeat (first | (refine And.intro rfl ?_; conv => whnf) | (refine And.intro (fun _ => ?_) (fun h => Bool.noConfusion h); conv => whnf) | (refine And.intro (fun h => Bool.noConfusion h) (fun _ => ?_); conv => whnf))
        refine again (k + 1, (y :: l)) ⟨hlt, by simp at hll ⊢; omega, ?_⟩ (by dsimp only; omega) ?_
        · rw [if_neg h5', hh]
        · (refine And.intro rfl (And.intro rfl ?_)); (repeat' (first | exact trivial | exact rfl | apply And.intro | (refine congrArg (Value.int .i64) (w64_nat ?_); omega)))
    · have hge : ¬ k < ws.length := by simpa [wV] using h4
      rw [List.drop_of_length_le (by omega)] at hh
      (conv => whnf); repeat (first | (refine And.intro rfl ?_; conv => whnf) | (refine And.intro (fun _ => ?_) (fun h => Bool.noConfusion h); conv => whnf) | (refine And.intro (fun h => Bool.noConfusion h) (fun _ => ?_); conv => whnf))
      refine Exists.intro [] (And.intro List.nodup_nil ?_); ((conv => whnf); repeat (first | (refine And.intro rfl ?_; conv => whnf) | (refine And.intro (fun _ => ?_) (fun h => Bool.noConfusion h); conv => whnf) | (refine And.intro (fun h => Bool.noConfusion h) (fun _ => ?_); conv => whnf)))
      have e : heldL t ws = (y :: l) := by rw [hh]; split <;> simp [heldF]
      rw [e]; rfl

set_option maxRecDepth 100000 in
set_option maxHeartbeats 8000000 in
theorem heldP' (ws : List Int) (t : Int) (hl : ws.length ≤ 100000) : Fun Try.prog 55 [lockV ws, i64V t] [] (.v (slV (wV (heldL t ws)))) := by
  refine fun_of_vc tabOk mixOk Try.func55 rfl (by rfl) (rs := [.tmp 4]) rfl rfl 34 ?_; rw [Try.ntmps55]
  (conv => whnf); repeat (first | (refine And.intro rfl ?_; conv => whnf) | (refine And.intro (fun _ => ?_) (fun h => Bool.noConfusion h); conv => whnf) | (refine And.intro (fun h => Bool.noConfusion h) (fun _ => ?_); conv => whnf))
  refine vc_loop [1, 2, 4] [2] (X := Nat × List Int) (fun x gs => [(6, ATint x.1), (5, oA 28 x.2 gs)]) (fun x gs => oH 28 x.2 gs) (fun x => x.1 ≤ ws.length ∧ x.2.length ≤ x.1 ∧ heldL t ws = x.2 ++ (if 0 ≤ t then heldF t x.1 (ws.drop x.1) else [])) (fun x => ws.length - x.1) _ (Ghost.refl _) (0, []) ⟨by omega, by simp, rfl⟩ ?_ ?_
  · (refine And.intro rfl (And.intro rfl ?_)); (repeat' (first | exact trivial | exact rfl | apply And.intro | (refine congrArg (Value.int .i64) (w64_nat ?_); omega)))
  rintro gs ⟨k, l⟩ ⟨hk, hll, hh⟩
  dsimp only at hk hll hh ⊢
  cases l with
  | nil =>
    (conv => whnf); repeat (first | (refine And.intro rfl ?_; conv => whnf) | (refine And.intro (fun _ => ?_) (fun h => Bool.noConfusion h); conv => whnf) | (refine And.intro (fun h => Bool.noConfusion h) (fun _ => ?_); conv => whnf))
    refine And.intro (fun h4 => ?_) (fun h4 => ?_)
    · have hlt : k < ws.length := by simpa [wV] using h4
      rw [List.drop_eq_getElem_cons hlt] at hh
      (conv => whnf); repeat (first | (refine And.intro rfl ?_; conv => whnf) | (refine And.intro (fun _ => ?_) (fun h => Bool.noConfusion h); conv => whnf) | (refine And.intro (fun h => Bool.noConfusion h) (fun _ => ?_); conv => whnf))
      refine And.intro (fun h5 => ?_) (fun h5 => ?_)
      · have h5' : 0 ≤ t := of_decide_eq_true h5
        rw [if_pos h5'] at hh
        (conv => whnf); repeat (first | (refine And.intro rfl ?_; conv => whnf) | (refine And.intro (fun _ => ?_) (fun h => Bool.noConfusion h); conv => whnf) | (refine And.intro (fun h => Bool.noConfusion h) (fun _ => ?_); conv => whnf))
        refine ⟨by omega, _, wItem hlt, rfl, ?_⟩
        (conv => whnf); repeat (first | (refine And.intro rfl ?_; conv => whnf) | (refine And.intro (fun _ => ?_) (fun h => Bool.noConfusion h); conv => whnf) | (refine And.intro (fun h => Bool.noConfusion h) (fun _ => ?_); conv => whnf))
        refine And.intro (fun h6 => ?_) (fun h6 => ?_)
        · have h6' : ws[k] = t := by simpa using h6
          (conv => whnf); repeat (first | (refine And.intro rfl ?_; conv => whnf) | (refine And.intro (fun _ => ?_) (fun h => Bool.noConfusion h); conv => whnf) | (refine And.intro (fun h => Bool.noConfusion h) (fun _ => ?_); conv => whnf))
          refine ⟨fun z hz => ?_, ?_⟩
          · obtain rfl := List.mem_singleton.1 hz; rfl
          (conv => whnf); repeat (first | (refine And.intro rfl ?_; conv => whnf) | (refine And.intro (fun _ => ?_) (fun h => Bool.noConfusion h); conv => whnf) | (refine And.intro (fun h => Bool.noConfusion h) (fun _ => ?_); conv => whnf))
          refine ⟨bytes_le (by decide) (by simp [wV] at hll ⊢), ?_⟩
          (conv => whnf); repeat (first | (refine And.intro rfl ?_; conv => whnf) | (refine And.intro (fun _ => ?_) (fun h => Bool.noConfusion h); conv => whnf) | (refine And.intro (fun h => Bool.noConfusion h) (fun _ => ?_); conv => whnf))
          refine again (k + 1, [] ++ [(k : Int)]) ⟨hlt, by simp at hll ⊢, ?_⟩ (by dsimp only; omega) ?_
          · rw [if_pos h5', hh, heldF, if_pos h6']; simp
          · (refine And.intro rfl (And.intro rfl ?_)); (repeat' (first | exact trivial | exact rfl | apply And.intro | (refine congrArg (Value.int .i64) (w64_nat ?_); omega)))
        · have h6' : ¬ ws[k] = t := by simpa using h6
          (conv => whnf); repeat (first | (refine And.intro rfl ?_; conv => whnf) | (refine And.intro (fun _ => ?_) (fun h => Bool.noConfusion h); conv => whnf) | (refine And.intro (fun h => Bool.noConfusion h) (fun _ => ?_); conv => whnf))
          refine again (k + 1, []) ⟨hlt, by simp, ?_⟩ (by dsimp only; omega) ?_
          · rw [if_pos h5', hh, heldF, if_neg h6']; rfl
          · (refine And.intro rfl (And.intro rfl ?_)); (repeat' (first | exact trivial | exact rfl | apply And.intro | (refine congrArg (Value.int .i64) (w64_nat ?_); omega)))
      · have h5' : ¬ 0 ≤ t := of_decide_eq_false h5
        rw [if_neg h5'] at hh
        (conv => whnf); repeat (first | (refine And.intro rfl ?_; conv => whnf) | (refine And.intro (fun _ => ?_) (fun h => Bool.noConfusion h); conv => whnf) | (refine And.intro (fun h => Bool.noConfusion h) (fun _ => ?_); conv => whnf))
        refine Exists.intro [] (And.intro List.nodup_nil ?_); ((conv => whnf); repeat (first | (refine And.intro rfl ?_; conv => whnf) | (refine And.intro (fun _ => ?_) (fun h => Bool.noConfusion h); conv => whnf) | (refine And.intro (fun h => Bool.noConfusion h) (fun _ => ?_); conv => whnf)))
        have e : heldL t ws = [] := by rw [hh]; simp
        rw [e]; rfl
    · have hge : ¬ k < ws.length := by simpa [wV] using h4
      rw [List.drop_of_length_le (by omega)] at hh
      (conv => whnf); repeat (first | (refine And.intro rfl ?_; conv => whnf) | (refine And.intro (fun _ => ?_) (fun h => Bool.noConfusion h); conv => whnf) | (refine And.intro (fun h => Bool.noConfusion h) (fun _ => ?_); conv => whnf))
      refine Exists.intro [] (And.intro List.nodup_nil ?_); ((conv => whnf); repeat (first | (refine And.intro rfl ?_; conv => whnf) | (refine And.intro (fun _ => ?_) (fun h => Bool.noConfusion h); conv => whnf) | (refine And.intro (fun h => Bool.noConfusion h) (fun _ => ?_); conv => whnf)))
      have e : heldL t ws = [] := by rw [hh]; split <;> simp [heldF]
      rw [e]; rfl
  | cons y l =>
    (conv => whnf); repeat (first | (refine And.intro rfl ?_; conv => whnf) | (refine And.intro (fun _ => ?_) (fun h => Bool.noConfusion h); conv => whnf) | (refine And.intro (fun h => Bool.noConfusion h) (fun _ => ?_); conv => whnf))
    refine And.intro (fun h4 => ?_) (fun h4 => ?_)
    · have hlt : k < ws.length := by simpa [wV] using h4
      rw [List.drop_eq_getElem_cons hlt] at hh
      (conv => whnf); repeat (first | (refine And.intro rfl ?_; conv => whnf) | (refine And.intro (fun _ => ?_) (fun h => Bool.noConfusion h); conv => whnf) | (refine And.intro (fun h => Bool.noConfusion h) (fun _ => ?_); conv => whnf))
      refine And.intro (fun h5 => ?_) (fun h5 => ?_)
      · have h5' : 0 ≤ t := of_decide_eq_true h5
        rw [if_pos h5'] at hh
        (conv => whnf); repeat (first | (refine And.intro rfl ?_; conv => whnf) | (refine And.intro (fun _ => ?_) (fun h => Bool.noConfusion h); conv => whnf) | (refine And.intro (fun h => Bool.noConfusion h) (fun _ => ?_); conv => whnf))
        refine ⟨by omega, _, wItem hlt, rfl, ?_⟩
        (conv => whnf); repeat (first | (refine And.intro rfl ?_; conv => whnf) | (refine And.intro (fun _ => ?_) (fun h => Bool.noConfusion h); conv => whnf) | (refine And.intro (fun h => Bool.noConfusion h) (fun _ => ?_); conv => whnf))
        refine And.intro (fun h6 => ?_) (fun h6 => ?_)
        · have h6' : ws[k] = t := by simpa using h6
          (conv => whnf); repeat (first | (refine And.intro rfl ?_; conv => whnf) | (refine And.intro (fun _ => ?_) (fun h => Bool.noConfusion h); conv => whnf) | (refine And.intro (fun h => Bool.noConfusion h) (fun _ => ?_); conv => whnf))
          refine ⟨fun z hz => ?_, ?_⟩
          · obtain rfl := List.mem_singleton.1 hz; rfl
          (conv => whnf); repeat (first | (refine And.intro rfl ?_; conv => whnf) | (refine And.intro (fun _ => ?_) (fun h => Bool.noConfusion h); conv => whnf) | (refine And.intro (fun h => Bool.noConfusion h) (fun _ => ?_); conv => whnf))
          refine ⟨bytes_le (by decide) (by simp [wV] at hll ⊢; omega), ?_⟩
          (conv => whnf); repeat (first | (refine And.intro rfl ?_; conv => whnf) | (refine And.intro (fun _ => ?_) (fun h => Bool.noConfusion h); conv => whnf) | (refine And.intro (fun h => Bool.noConfusion h) (fun _ => ?_); conv => whnf))
          refine again (k + 1, (y :: l) ++ [(k : Int)]) ⟨hlt, by simp at hll ⊢; omega, ?_⟩ (by dsimp only; omega) ?_
          · rw [if_pos h5', hh, heldF, if_pos h6']; simp
          · (refine And.intro rfl (And.intro rfl ?_)); (repeat' (first | exact trivial | exact rfl | apply And.intro | (refine congrArg (Value.int .i64) (w64_nat ?_); omega)))
            all_goals (exact congrArg (Blk.row _ _ _) (hsn y l k))
        · have h6' : ¬ ws[k] = t := by simpa using h6
          (conv => whnf); repeat (first | (refine And.intro rfl ?_; conv => whnf) | (refine And.intro (fun _ => ?_) (fun h => Bool.noConfusion h); conv => whnf) | (refine And.intro (fun h => Bool.noConfusion h) (fun _ => ?_); conv => whnf))
          refine again (k + 1, (y :: l)) ⟨hlt, by simp at hll ⊢; omega, ?_⟩ (by dsimp only; omega) ?_
          · rw [if_pos h5', hh, heldF, if_neg h6']; rfl
          · (refine And.intro rfl (And.intro rfl ?_)); (repeat' (first | exact trivial | exact rfl | apply And.intro | (refine congrArg (Value.int .i64) (w64_nat ?_); omega)))
      · have h5' : ¬ 0 ≤ t := of_decide_eq_false h5
        rw [if_neg h5'] at hh
        (conv => whnf); repeat (first | (refine And.intro rfl ?_; conv => whnf) | (refine And.intro (fun _ => ?_) (fun h => Bool.noConfusion h); conv => whnf) | (refine And.intro (fun h => Bool.noConfusion h) (fun _ => ?_); conv => whnf))
        refine Exists.intro [] (And.intro List.nodup_nil ?_); ((conv => whnf); repeat (first | (refine And.intro rfl ?_; conv => whnf) | (refine And.intro (fun _ => ?_) (fun h => Bool.noConfusion h); conv => whnf) | (refine And.intro (fun h => Bool.noConfusion h) (fun _ => ?_); conv => whnf)))
        have e : heldL t ws = (y :: l) := by rw [hh]; simp
        rw [e]; rfl
    · have hge : ¬ k < ws.length := by simpa [wV] using h4
      rw [List.drop_of_length_le (by omega)] at hh
      (conv => whnf); repeat (first | (refine And.intro rfl ?_; conv => whnf) | (refine And.intro (fun _ => ?_) (fun h => Bool.noConfusion h); conv => whnf) | (refine And.intro (fun h => Bool.noConfusion h) (fun _ => ?_); conv => whnf))
      refine Exists.intro [] (And.intro List.nodup_nil ?_); ((conv => whnf); repeat (first | (refine And.intro rfl ?_; conv => whnf) | (refine And.intro (fun _ => ?_) (fun h => Bool.noConfusion h); conv => whnf) | (refine And.intro (fun h => Bool.noConfusion h) (fun _ => ?_); conv => whnf)))
      have e : heldL t ws = (y :: l) := by rw [hh]; split <;> simp [heldF]
      rw [e]; rfl

end Go.Proofs.Ytopdpfbkdgncaaa.Ab
