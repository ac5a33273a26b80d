/- Lists of numbers: has, Contains, BinarySearch, Insert. -/
import Derived.Test.YtijajfldpaadnaaPb
namespace Go.Proofs.Ytijajfldpaadnaa.Ab
set_option linter.unusedVariables false
set_option linter.unusedSimpArgs false
open Go.RowKit

theorem pwLen (z : List Int) : (wV z).length = z.length := by simp [wV]
def eqB (n x : Int) : Bool := x == n
def hasB (l : List Int) (n : Int) : Bool := l.any (eqB n)
set_option maxRecDepth 100000 in
set_option maxHeartbeats 16000000 in
theorem hasF' (l : List Int) (n : Int) (hl : l.length ≤ 1000000) : Fun Try.prog 103 [slV (wV l), i64V n] [] (ATbool (hasB l n)) := by
  refine fun_of_vc tabOk mixOk Try.func103 rfl (by rfl) (rs := [.tmp 4]) rfl rfl 22 ?_; rw [Try.ntmps103]
  (conv => whnf); repeat (first | (refine And.intro (DrawOk.mk (by first | (simp only [List.map_cons, List.map_nil, List.nil_append, List.cons_append, List.append_nil, updsL, List.length_cons, List.length_nil]; decide +kernel) | exact rfl)) ?_; conv => whnf) | (refine And.intro rfl ?_; conv => whnf) | (refine And.intro (fun _ => ?_) (fun h => Bool.noConfusion h); conv => whnf) | (refine And.intro (fun h => Bool.noConfusion h) (fun _ => ?_); conv => whnf))
  refine vc_loop [0, 1] [] (X := Nat) (fun k gs => [(5, ATint k)]) (fun _ _ => []) (fun k => k ≤ l.length ∧ hasB l n = (l.drop k).any (eqB n)) (fun k => l.length - k) _ (Ghost.refl _) 0 ⟨by omega, rfl⟩ ?_ ?_
  · (refine And.intro rfl (And.intro rfl ?_)); (repeat' (first | exact trivial | exact rfl | apply And.intro | (refine congrArg (Value.int .i64) (w64_nat ?_); omega)))
  rintro gs k ⟨hk, ha⟩
  (conv => whnf); repeat (first | (refine And.intro (DrawOk.mk (by first | (simp only [List.map_cons, List.map_nil, List.nil_append, List.cons_append, List.append_nil, updsL, List.length_cons, List.length_nil]; decide +kernel) | exact rfl)) ?_; conv => whnf) | (refine And.intro rfl ?_; conv => whnf) | (refine And.intro (fun _ => ?_) (fun h => Bool.noConfusion h); conv => whnf) | (refine And.intro (fun h => Bool.noConfusion h) (fun _ => ?_); conv => whnf))
  refine And.intro (fun h4 => ?_) (fun h4 => ?_)
  · have hlt : k < l.length := by have := of_decide_eq_true h4; rw [pwLen] at this; omega
    rw [List.drop_eq_getElem_cons hlt, List.any_cons] at ha
    (conv => whnf); repeat (first | (refine And.intro (DrawOk.mk (by first | (simp only [List.map_cons, List.map_nil, List.nil_append, List.cons_append, List.append_nil, updsL, List.length_cons, List.length_nil]; decide +kernel) | exact rfl)) ?_; conv => whnf) | (refine And.intro rfl ?_; conv => whnf) | (refine And.intro (fun _ => ?_) (fun h => Bool.noConfusion h); conv => whnf) | (refine And.intro (fun h => Bool.noConfusion h) (fun _ => ?_); conv => whnf))
    refine ⟨by omega, _, wItem hlt, rfl, ?_⟩
    (conv => whnf); repeat (first | (refine And.intro (DrawOk.mk (by first | (simp only [List.map_cons, List.map_nil, List.nil_append, List.cons_append, List.append_nil, updsL, List.length_cons, List.length_nil]; decide +kernel) | exact rfl)) ?_; conv => whnf) | (refine And.intro rfl ?_; conv => whnf) | (refine And.intro (fun _ => ?_) (fun h => Bool.noConfusion h); conv => whnf) | (refine And.intro (fun h => Bool.noConfusion h) (fun _ => ?_); conv => whnf))
    refine And.intro (fun h5 => ?_) (fun h5 => ?_)
    · (conv => whnf); repeat (first | (refine And.intro (DrawOk.mk (by first | (simp only [List.map_cons, List.map_nil, List.nil_append, List.cons_append, List.append_nil, updsL, List.length_cons, List.length_nil]; decide +kernel) | exact rfl)) ?_; conv => whnf) | (refine And.intro rfl ?_; conv => whnf) | (refine And.intro (fun _ => ?_) (fun h => Bool.noConfusion h); conv => whnf) | (refine And.intro (fun h => Bool.noConfusion h) (fun _ => ?_); conv => whnf))
      refine Exists.intro [] (And.intro List.nodup_nil ?_); ((conv => whnf); repeat (first | (refine And.intro (DrawOk.mk (by first | (simp only [List.map_cons, List.map_nil, List.nil_append, List.cons_append, List.append_nil, updsL, List.length_cons, List.length_nil]; decide +kernel) | exact rfl)) ?_; conv => whnf) | (refine And.intro rfl ?_; conv => whnf) | (refine And.intro (fun _ => ?_) (fun h => Bool.noConfusion h); conv => whnf) | (refine And.intro (fun h => Bool.noConfusion h) (fun _ => ?_); conv => whnf)))
      rw [ha, show eqB n l[k] = true from h5]; rfl
    · (conv => whnf); repeat (first | (refine And.intro (DrawOk.mk (by first | (simp only [List.map_cons, List.map_nil, List.nil_append, List.cons_append, List.append_nil, updsL, List.length_cons, List.length_nil]; decide +kernel) | exact rfl)) ?_; conv => whnf) | (refine And.intro rfl ?_; conv => whnf) | (refine And.intro (fun _ => ?_) (fun h => Bool.noConfusion h); conv => whnf) | (refine And.intro (fun h => Bool.noConfusion h) (fun _ => ?_); conv => whnf))
      refine again (k + 1) ⟨hlt, ?_⟩ (by omega) ?_
      · rw [ha, show eqB n l[k] = false from h5, Bool.false_or]
      · (refine And.intro rfl (And.intro rfl ?_)); (repeat' (first | exact trivial | exact rfl | apply And.intro | (refine congrArg (Value.int .i64) (w64_nat ?_); omega)))
  have hge : ¬ k < l.length := by have := of_decide_eq_false h4; rw [pwLen] at this; omega
  rw [List.drop_of_length_le (by omega)] at ha
  (conv => whnf); repeat (first | (refine And.intro (DrawOk.mk (by first | (simp only [List.map_cons, List.map_nil, List.nil_append, List.cons_append, List.append_nil, updsL, List.length_cons, List.length_nil]; decide +kernel) | exact rfl)) ?_; conv => whnf) | (refine And.intro rfl ?_; conv => whnf) | (refine And.intro (fun _ => ?_) (fun h => Bool.noConfusion h); conv => whnf) | (refine And.intro (fun h => Bool.noConfusion h) (fun _ => ?_); conv => whnf))
  refine Exists.intro [] (And.intro List.nodup_nil ?_); ((conv => whnf); repeat (first | (refine And.intro (DrawOk.mk (by first | (simp only [List.map_cons, List.map_nil, List.nil_append, List.cons_append, List.append_nil, updsL, List.length_cons, List.length_nil]; decide +kernel) | exact rfl)) ?_; conv => whnf) | (refine And.intro rfl ?_; conv => whnf) | (refine And.intro (fun _ => ?_) (fun h => Bool.noConfusion h); conv => whnf) | (refine And.intro (fun h => Bool.noConfusion h) (fun _ => ?_); conv => whnf)))
  rw [ha]; rfl
/-- The place of a number, or -1. -/
def idxL (n : Int) : Nat → List Int → Int
  | _, [] => -1
  | k, x :: l => if x = n then (k : Int) else idxL n (k + 1) l
theorem idxL_has (n : Int) : ∀ (l : List Int) (k : Nat), decide (idxL n k l ≥ 0) = hasB l n
  | [], k => by simp [idxL, hasB]
  | x :: l, k => by
    rw [idxL]
    by_cases h : x = n
    · rw [if_pos h]; simp [hasB, eqB, h]
    · rw [if_neg h, idxL_has n l]; simp [hasB, eqB, h]
set_option maxRecDepth 100000 in
set_option maxHeartbeats 16000000 in
theorem indexF (l : List Int) (n : Int) (hl : l.length ≤ 1000000) : Fun Try.prog 142 [slV (wV l), i64V n] [] (.v (i64V (idxL n 0 l))) := by
  refine fun_of_vc tabOk mixOk Try.func142 rfl (by rfl) (rs := [.tmp 4]) rfl rfl 23 ?_; rw [Try.ntmps142]
  (conv => whnf); repeat (first | (refine And.intro (DrawOk.mk (by first | (simp only [List.map_cons, List.map_nil, List.nil_append, List.cons_append, List.append_nil, updsL, List.length_cons, List.length_nil]; decide +kernel) | exact rfl)) ?_; conv => whnf) | (refine And.intro rfl ?_; conv => whnf) | (refine And.intro (fun _ => ?_) (fun h => Bool.noConfusion h); conv => whnf) | (refine And.intro (fun h => Bool.noConfusion h) (fun _ => ?_); conv => whnf))
  refine vc_loop [0, 1, 7] [] (X := Nat) (fun k gs => [(8, ATint k)]) (fun _ _ => []) (fun k => k ≤ l.length ∧ idxL n 0 l = idxL n k (l.drop k)) (fun k => l.length - k) _ (Ghost.refl _) 0 ⟨by omega, rfl⟩ ?_ ?_
  · (refine And.intro rfl (And.intro rfl ?_)); (repeat' (first | exact trivial | exact rfl | apply And.intro | (refine congrArg (Value.int .i64) (w64_nat ?_); omega)))
  rintro gs k ⟨hk, ha⟩
  (conv => whnf); repeat (first | (refine And.intro (DrawOk.mk (by first | (simp only [List.map_cons, List.map_nil, List.nil_append, List.cons_append, List.append_nil, updsL, List.length_cons, List.length_nil]; decide +kernel) | exact rfl)) ?_; conv => whnf) | (refine And.intro rfl ?_; conv => whnf) | (refine And.intro (fun _ => ?_) (fun h => Bool.noConfusion h); conv => whnf) | (refine And.intro (fun h => Bool.noConfusion h) (fun _ => ?_); conv => whnf))
  refine And.intro (fun h4 => ?_) (fun h4 => ?_)
  · have hlt : k < l.length := by have := of_decide_eq_true h4; rw [pwLen] at this; omega
    rw [List.drop_eq_getElem_cons hlt, idxL] at ha
    (conv => whnf); repeat (first | (refine And.intro (DrawOk.mk (by first | (simp only [List.map_cons, List.map_nil, List.nil_append, List.cons_append, List.append_nil, updsL, List.length_cons, List.length_nil]; decide +kernel) | exact rfl)) ?_; conv => whnf) | (refine And.intro rfl ?_; conv => whnf) | (refine And.intro (fun _ => ?_) (fun h => Bool.noConfusion h); conv => whnf) | (refine And.intro (fun h => Bool.noConfusion h) (fun _ => ?_); conv => whnf))
    refine ⟨by omega, _, wItem hlt, rfl, ?_⟩
    (conv => whnf); repeat (first | (refine And.intro (DrawOk.mk (by first | (simp only [List.map_cons, List.map_nil, List.nil_append, List.cons_append, List.append_nil, updsL, List.length_cons, List.length_nil]; decide +kernel) | exact rfl)) ?_; conv => whnf) | (refine And.intro rfl ?_; conv => whnf) | (refine And.intro (fun _ => ?_) (fun h => Bool.noConfusion h); conv => whnf) | (refine And.intro (fun h => Bool.noConfusion h) (fun _ => ?_); conv => whnf))
    refine And.intro (fun h5 => ?_) (fun h5 => ?_)
    · have h5' : n = l[k] := by simpa using h5
      (conv => whnf); repeat (first | (refine And.intro (DrawOk.mk (by first | (simp only [List.map_cons, List.map_nil, List.nil_append, List.cons_append, List.append_nil, updsL, List.length_cons, List.length_nil]; decide +kernel) | exact rfl)) ?_; conv => whnf) | (refine And.intro rfl ?_; conv => whnf) | (refine And.intro (fun _ => ?_) (fun h => Bool.noConfusion h); conv => whnf) | (refine And.intro (fun h => Bool.noConfusion h) (fun _ => ?_); conv => whnf))
      refine Exists.intro [] (And.intro List.nodup_nil ?_); ((conv => whnf); repeat (first | (refine And.intro (DrawOk.mk (by first | (simp only [List.map_cons, List.map_nil, List.nil_append, List.cons_append, List.append_nil, updsL, List.length_cons, List.length_nil]; decide +kernel) | exact rfl)) ?_; conv => whnf) | (refine And.intro rfl ?_; conv => whnf) | (refine And.intro (fun _ => ?_) (fun h => Bool.noConfusion h); conv => whnf) | (refine And.intro (fun h => Bool.noConfusion h) (fun _ => ?_); conv => whnf)))
      rw [ha, if_pos h5'.symm]; rfl
    · have h5' : ¬ n = l[k] := by simpa using h5
      (conv => whnf); repeat (first | (refine And.intro (DrawOk.mk (by first | (simp only [List.map_cons, List.map_nil, List.nil_append, List.cons_append, List.append_nil, updsL, List.length_cons, List.length_nil]; decide +kernel) | exact rfl)) ?_; conv => whnf) | (refine And.intro rfl ?_; conv => whnf) | (refine And.intro (fun _ => ?_) (fun h => Bool.noConfusion h); conv => whnf) | (refine And.intro (fun h => Bool.noConfusion h) (fun _ => ?_); conv => whnf))
      refine again (k + 1) ⟨hlt, ?_⟩ (by omega) ?_
      · rw [ha, if_neg (fun e => h5' e.symm)]
      · (refine And.intro rfl (And.intro rfl ?_)); (repeat' (first | exact trivial | exact rfl | apply And.intro | (refine congrArg (Value.int .i64) (w64_nat ?_); omega)))
  have hge : ¬ k < l.length := by have := of_decide_eq_false h4; rw [pwLen] at this; omega
  rw [List.drop_of_length_le (by omega)] at ha
  (conv => whnf); repeat (first | (refine And.intro (DrawOk.mk (by first | (simp only [List.map_cons, List.map_nil, List.nil_append, List.cons_append, List.append_nil, updsL, List.length_cons, List.length_nil]; decide +kernel) | exact rfl)) ?_; conv => whnf) | (refine And.intro rfl ?_; conv => whnf) | (refine And.intro (fun _ => ?_) (fun h => Bool.noConfusion h); conv => whnf) | (refine And.intro (fun h => Bool.noConfusion h) (fun _ => ?_); conv => whnf))
  refine Exists.intro [] (And.intro List.nodup_nil ?_); ((conv => whnf); repeat (first | (refine And.intro (DrawOk.mk (by first | (simp only [List.map_cons, List.map_nil, List.nil_append, List.cons_append, List.append_nil, updsL, List.length_cons, List.length_nil]; decide +kernel) | exact rfl)) ?_; conv => whnf) | (refine And.intro rfl ?_; conv => whnf) | (refine And.intro (fun _ => ?_) (fun h => Bool.noConfusion h); conv => whnf) | (refine And.intro (fun h => Bool.noConfusion h) (fun _ => ?_); conv => whnf)))
  rw [ha]; rfl
set_option maxRecDepth 100000 in
set_option maxHeartbeats 16000000 in
theorem containsF (l : List Int) (n : Int) (hl : l.length ≤ 1000000) : Fun Try.prog 133 [slV (wV l), i64V n] [] (ATbool (hasB l n)) := by
  have hi := indexF l n hl
  have e := idxL_has n l 0
  generalize idxL n 0 l = R at hi e
  refine fun_of_vc tabOk mixOk Try.func133 rfl (by rfl) (rs := [.tmp 4]) rfl rfl 13 ?_; rw [Try.ntmps133]
  (conv => whnf); repeat (first | (refine And.intro (DrawOk.mk (by first | (simp only [List.map_cons, List.map_nil, List.nil_append, List.cons_append, List.append_nil, updsL, List.length_cons, List.length_nil]; decide +kernel) | exact rfl)) ?_; conv => whnf) | (refine And.intro rfl ?_; conv => whnf) | (refine And.intro (fun _ => ?_) (fun h => Bool.noConfusion h); conv => whnf) | (refine And.intro (fun h => Bool.noConfusion h) (fun _ => ?_); conv => whnf))
  refine ⟨_, _, hi, ?_⟩
  (conv => whnf); repeat (first | (refine And.intro (DrawOk.mk (by first | (simp only [List.map_cons, List.map_nil, List.nil_append, List.cons_append, List.append_nil, updsL, List.length_cons, List.length_nil]; decide +kernel) | exact rfl)) ?_; conv => whnf) | (refine And.intro rfl ?_; conv => whnf) | (refine And.intro (fun _ => ?_) (fun h => Bool.noConfusion h); conv => whnf) | (refine And.intro (fun h => Bool.noConfusion h) (fun _ => ?_); conv => whnf))
  refine Exists.intro [] (And.intro List.nodup_nil ?_); ((conv => whnf); repeat (first | (refine And.intro (DrawOk.mk (by first | (simp only [List.map_cons, List.map_nil, List.nil_append, List.cons_append, List.append_nil, updsL, List.length_cons, List.length_nil]; decide +kernel) | exact rfl)) ?_; conv => whnf) | (refine And.intro rfl ?_; conv => whnf) | (refine And.intro (fun _ => ?_) (fun h => Bool.noConfusion h); conv => whnf) | (refine And.intro (fun h => Bool.noConfusion h) (fun _ => ?_); conv => whnf)))
  rw [← e]; rfl
set_option maxRecDepth 100000 in
set_option maxHeartbeats 16000000 in
theorem isNaNF (n : Int) : Fun Try.prog 129 [i64V n] [] (ATbool false) := by
  refine fun_of_vc tabOk mixOk Try.func129 rfl (by rfl) (rs := [.tmp 2]) rfl rfl 10 ?_; rw [Try.ntmps129]
  (conv => whnf); repeat (first | (refine And.intro (DrawOk.mk (by first | (simp only [List.map_cons, List.map_nil, List.nil_append, List.cons_append, List.append_nil, updsL, List.length_cons, List.length_nil]; decide +kernel) | exact rfl)) ?_; conv => whnf) | (refine And.intro rfl ?_; conv => whnf) | (refine And.intro (fun _ => ?_) (fun h => Bool.noConfusion h); conv => whnf) | (refine And.intro (fun h => Bool.noConfusion h) (fun _ => ?_); conv => whnf))
  refine Exists.intro [] (And.intro List.nodup_nil ?_); ((conv => whnf); repeat (first | (refine And.intro (DrawOk.mk (by first | (simp only [List.map_cons, List.map_nil, List.nil_append, List.cons_append, List.append_nil, updsL, List.length_cons, List.length_nil]; decide +kernel) | exact rfl)) ?_; conv => whnf) | (refine And.intro rfl ?_; conv => whnf) | (refine And.intro (fun _ => ?_) (fun h => Bool.noConfusion h); conv => whnf) | (refine And.intro (fun h => Bool.noConfusion h) (fun _ => ?_); conv => whnf)))
  simp
  rfl
set_option maxRecDepth 100000 in
set_option maxHeartbeats 16000000 in
theorem isNaNF2 (n : Int) : Fun Try.prog 140 [i64V n] [] (ATbool false) := by
  refine fun_of_vc tabOk mixOk Try.func140 rfl (by rfl) (rs := [.tmp 2]) rfl rfl 10 ?_; rw [Try.ntmps140]
  (conv => whnf); repeat (first | (refine And.intro (DrawOk.mk (by first | (simp only [List.map_cons, List.map_nil, List.nil_append, List.cons_append, List.append_nil, updsL, List.length_cons, List.length_nil]; decide +kernel) | exact rfl)) ?_; conv => whnf) | (refine And.intro rfl ?_; conv => whnf) | (refine And.intro (fun _ => ?_) (fun h => Bool.noConfusion h); conv => whnf) | (refine And.intro (fun h => Bool.noConfusion h) (fun _ => ?_); conv => whnf))
  refine Exists.intro [] (And.intro List.nodup_nil ?_); ((conv => whnf); repeat (first | (refine And.intro (DrawOk.mk (by first | (simp only [List.map_cons, List.map_nil, List.nil_append, List.cons_append, List.append_nil, updsL, List.length_cons, List.length_nil]; decide +kernel) | exact rfl)) ?_; conv => whnf) | (refine And.intro rfl ?_; conv => whnf) | (refine And.intro (fun _ => ?_) (fun h => Bool.noConfusion h); conv => whnf) | (refine And.intro (fun h => Bool.noConfusion h) (fun _ => ?_); conv => whnf)))
  simp
  rfl
set_option maxRecDepth 100000 in
set_option maxHeartbeats 16000000 in
theorem lessF (a b : Int) : Fun Try.prog 128 [i64V a, i64V b] [] (ATbool (decide (a < b))) := by
  refine fun_of_vc tabOk mixOk Try.func128 rfl (by rfl) (rs := [.tmp 4]) rfl rfl 21 ?_; rw [Try.ntmps128]
  (conv => whnf); repeat (first | (refine And.intro (DrawOk.mk (by first | (simp only [List.map_cons, List.map_nil, List.nil_append, List.cons_append, List.append_nil, updsL, List.length_cons, List.length_nil]; decide +kernel) | exact rfl)) ?_; conv => whnf) | (refine And.intro rfl ?_; conv => whnf) | (refine And.intro (fun _ => ?_) (fun h => Bool.noConfusion h); conv => whnf) | (refine And.intro (fun h => Bool.noConfusion h) (fun _ => ?_); conv => whnf))
  refine ⟨_, _, isNaNF2 a, ?_⟩
  (conv => whnf); repeat (first | (refine And.intro (DrawOk.mk (by first | (simp only [List.map_cons, List.map_nil, List.nil_append, List.cons_append, List.append_nil, updsL, List.length_cons, List.length_nil]; decide +kernel) | exact rfl)) ?_; conv => whnf) | (refine And.intro rfl ?_; conv => whnf) | (refine And.intro (fun _ => ?_) (fun h => Bool.noConfusion h); conv => whnf) | (refine And.intro (fun h => Bool.noConfusion h) (fun _ => ?_); conv => whnf))
  refine Exists.intro [] (And.intro List.nodup_nil ?_); ((conv => whnf); repeat (first | (refine And.intro (DrawOk.mk (by first | (simp only [List.map_cons, List.map_nil, List.nil_append, List.cons_append, List.append_nil, updsL, List.length_cons, List.length_nil]; decide +kernel) | exact rfl)) ?_; conv => whnf) | (refine And.intro rfl ?_; conv => whnf) | (refine And.intro (fun _ => ?_) (fun h => Bool.noConfusion h); conv => whnf) | (refine And.intro (fun h => Bool.noConfusion h) (fun _ => ?_); conv => whnf)))
  rfl
/-- The place that a binary search finds. -/
def bsGo (l : List Int) (x : Int) : Nat → Nat → Nat → Nat
  | 0, i, _ => i
  | f + 1, i, j => if i < j then (match l[(i + j) / 2]? with | some y => if y < x then bsGo l x f ((i + j) / 2 + 1) j else bsGo l x f i ((i + j) / 2) | none => i) else i
theorem bsGo_fuel (l : List Int) (x : Int) : ∀ (f g i j : Nat), j - i ≤ f → j - i ≤ g → bsGo l x f i j = bsGo l x g i j
  | 0, 0, i, j, _, _ => rfl
  | 0, g + 1, i, j, h, _ => by rw [bsGo, bsGo, if_neg (by omega)]
  | f + 1, 0, i, j, _, h => by rw [bsGo, bsGo, if_neg (by omega)]
  | f + 1, g + 1, i, j, h1, h2 => by
    rw [bsGo, bsGo]
    by_cases hij : i < j
    · rw [if_pos hij, if_pos hij]
      split
      · split
        · exact bsGo_fuel l x f g _ _ (by omega) (by omega)
        · exact bsGo_fuel l x f g _ _ (by omega) (by omega)
      · rfl
    · rw [if_neg hij, if_neg hij]
def bsI (l : List Int) (x : Int) : Nat := bsGo l x l.length 0 l.length
theorem bsGo_le (l : List Int) (x : Int) : ∀ (f i j : Nat), i ≤ j → bsGo l x f i j ≤ j
  | 0, i, j, h => h
  | f + 1, i, j, h => by
    rw [bsGo]
    split
    · split
      · split
        · exact bsGo_le l x f _ _ (by omega)
        · exact Nat.le_trans (bsGo_le l x f _ _ (by omega)) (by omega)
      · exact h
    · exact h
theorem bsI_le (l : List Int) (x : Int) : bsI l x ≤ l.length := bsGo_le l x _ _ _ (Nat.zero_le _)
theorem bsGo_step {l : List Int} {x : Int} {i j : Nat} (h : i < j) (hl : j ≤ l.length) : bsGo l x (j - i) i j = if l[(i + j) / 2]'(by omega) < x then bsGo l x (j - ((i + j) / 2 + 1)) ((i + j) / 2 + 1) j else bsGo l x ((i + j) / 2 - i) i ((i + j) / 2) := by
  obtain ⟨f, hf⟩ : ∃ f, j - i = f + 1 := ⟨j - i - 1, by omega⟩
  rw [hf, bsGo, if_pos h, List.getElem?_eq_getElem (show (i + j) / 2 < l.length by omega)]
  dsimp only
  split
  · exact bsGo_fuel l x _ _ _ _ (by omega) (Nat.le_refl _)
  · exact bsGo_fuel l x _ _ _ _ (by omega) (Nat.le_refl _)
/-- Where the list ascends, it is the place of the first one that is not less. -/
theorem bsGo_spec {l : List Int} {x : Int} (hs : l.Pairwise (· < ·)) : ∀ (n i j : Nat), j - i = n → i ≤ j → j ≤ l.length → (∀ a (h : a < l.length), a < i → l[a] < x) → (∀ a (h : a < l.length), j ≤ a → x ≤ l[a]) →
    (∀ a (h : a < l.length), a < bsGo l x (j - i) i j → l[a] < x) ∧ (∀ a (h : a < l.length), bsGo l x (j - i) i j ≤ a → x ≤ l[a]) := by
  intro n
  induction n using Nat.strongRecOn with
  | _ n ih =>
    intro i j hn hij hj h1 h2
    by_cases hlt : i < j
    · rw [bsGo_step hlt hj]
      have hm : (i + j) / 2 < l.length := by omega
      have hp := List.pairwise_iff_getElem.1 hs
      split
      · rename_i hc
        refine ih (j - ((i + j) / 2 + 1)) (by omega) _ _ rfl (by omega) hj (fun a ha hai => ?_) h2
        by_cases hae : a = (i + j) / 2
        · subst hae; exact hc
        · have := hp a ((i + j) / 2) ha hm (by omega); omega
      · rename_i hc
        refine ih ((i + j) / 2 - i) (by omega) _ _ rfl (by omega) (by omega) h1 (fun a ha hai => ?_)
        by_cases hae : a = (i + j) / 2
        · subst hae; omega
        · have := hp ((i + j) / 2) a hm ha (by omega); omega
    · have : i = j := by omega
      subst this
      rw [Nat.sub_self, bsGo]
      exact ⟨h1, h2⟩
theorem bsI_spec {l : List Int} (x : Int) (hs : l.Pairwise (· < ·)) : (∀ a (h : a < l.length), a < bsI l x → l[a] < x) ∧ (∀ a (h : a < l.length), bsI l x ≤ a → x ≤ l[a]) := by
  have := bsGo_spec (x := x) hs (l.length - 0) 0 l.length rfl (Nat.zero_le _) (Nat.le_refl _) (fun a h h' => absurd h' (by omega)) (fun a h h' => absurd h (by omega))
  exact this
def bsB (l : List Int) (x : Int) : Bool := decide (l[bsI l x]? = some x)
theorem half (i j : Nat) (h : i + j ≤ 4000000) : iwrap .i64 (Int.fdiv (iwrap .u64 (iwrap .i64 ((i : Int) + (j : Int)))) (2 ^ (min (1 : Int).toNat (IntKind.bits .u64)))) = (((i + j) / 2 : Nat) : Int) := by
  have h0 : iwrap .i64 ((i : Int) + (j : Int)) = (i : Int) + (j : Int) := w64_in (by omega)
  have h1 : iwrap .u64 ((i : Int) + (j : Int)) = (i : Int) + (j : Int) := by
    show IntKind.wrap .u64 _ = _
    simp [IntKind.wrap, IntKind.bits, IntKind.signed]
    omega
  rw [h0, h1, show (2 : Int) ^ (min (1 : Int).toNat (IntKind.bits .u64)) = 2 from rfl, Int.fdiv_eq_ediv_of_nonneg _ (by omega)]
  exact (w64_in (by omega)).trans (by omega)
set_option maxRecDepth 100000 in
set_option maxHeartbeats 16000000 in
theorem binF (l : List Int) (x : Int) (hl : l.length ≤ 1000000) : Fun Try.prog 107 [slV (wV l), i64V x] [] (.tup [i64V (bsI l x), bV (bsB l x)]) := by
  refine fun_of_vc tabOk mixOk Try.func107 rfl (by rfl) (rs := [.tmp 4, .tmp 5]) rfl rfl 58 ?_; rw [Try.ntmps107]
  (conv => whnf); repeat (first | (refine And.intro (DrawOk.mk (by first | (simp only [List.map_cons, List.map_nil, List.nil_append, List.cons_append, List.append_nil, updsL, List.length_cons, List.length_nil]; decide +kernel) | exact rfl)) ?_; conv => whnf) | (refine And.intro rfl ?_; conv => whnf) | (refine And.intro (fun _ => ?_) (fun h => Bool.noConfusion h); conv => whnf) | (refine And.intro (fun h => Bool.noConfusion h) (fun _ => ?_); conv => whnf))
  refine vc_loop [0, 1, 4, 5, 6] [] (X := Nat × Nat) (fun y gs => [(7, ATint y.1), (8, ATint y.2)]) (fun _ _ => []) (fun y => y.1 ≤ y.2 ∧ y.2 ≤ l.length ∧ bsI l x = bsGo l x (y.2 - y.1) y.1 y.2) (fun y => y.2 - y.1) _ (Ghost.refl _) (0, l.length) ⟨Nat.zero_le _, Nat.le_refl _, rfl⟩ ?_ ?_
  · (refine And.intro rfl (And.intro rfl ?_)); (repeat' (first | exact trivial | exact rfl | apply And.intro | (refine congrArg (Value.int .i64) (w64_nat ?_); omega)))
    all_goals exact congrArg (fun n : Nat => Value.int .i64 (n : Int)) (pwLen l)
  rintro gs ⟨i, j⟩ ⟨hij, hj, ha⟩
  dsimp only at hij hj ha ⊢
  (conv => whnf); repeat (first | (refine And.intro (DrawOk.mk (by first | (simp only [List.map_cons, List.map_nil, List.nil_append, List.cons_append, List.append_nil, updsL, List.length_cons, List.length_nil]; decide +kernel) | exact rfl)) ?_; conv => whnf) | (refine And.intro rfl ?_; conv => whnf) | (refine And.intro (fun _ => ?_) (fun h => Bool.noConfusion h); conv => whnf) | (refine And.intro (fun h => Bool.noConfusion h) (fun _ => ?_); conv => whnf))
  refine And.intro (fun h => ?_) (fun h => ?_)
  · have hlt : i < j := by have := of_decide_eq_true h; omega
    (conv => whnf); repeat (first | (refine And.intro (DrawOk.mk (by first | (simp only [List.map_cons, List.map_nil, List.nil_append, List.cons_append, List.append_nil, updsL, List.length_cons, List.length_nil]; decide +kernel) | exact rfl)) ?_; conv => whnf) | (refine And.intro rfl ?_; conv => whnf) | (refine And.intro (fun _ => ?_) (fun h => Bool.noConfusion h); conv => whnf) | (refine And.intro (fun h => Bool.noConfusion h) (fun _ => ?_); conv => whnf))
    have hm : (i + j) / 2 < l.length := by omega
    have hst := bsGo_step (x := x) hlt hj
    refine ⟨by decide, ?_⟩
    (conv => whnf); repeat (first | (refine And.intro (DrawOk.mk (by first | (simp only [List.map_cons, List.map_nil, List.nil_append, List.cons_append, List.append_nil, updsL, List.length_cons, List.length_nil]; decide +kernel) | exact rfl)) ?_; conv => whnf) | (refine And.intro rfl ?_; conv => whnf) | (refine And.intro (fun _ => ?_) (fun h => Bool.noConfusion h); conv => whnf) | (refine And.intro (fun h => Bool.noConfusion h) (fun _ => ?_); conv => whnf))
    rw [half i j (by omega)]
    refine ⟨by omega, _, wItem hm, rfl, ?_⟩
    (conv => whnf); repeat (first | (refine And.intro (DrawOk.mk (by first | (simp only [List.map_cons, List.map_nil, List.nil_append, List.cons_append, List.append_nil, updsL, List.length_cons, List.length_nil]; decide +kernel) | exact rfl)) ?_; conv => whnf) | (refine And.intro rfl ?_; conv => whnf) | (refine And.intro (fun _ => ?_) (fun h => Bool.noConfusion h); conv => whnf) | (refine And.intro (fun h => Bool.noConfusion h) (fun _ => ?_); conv => whnf))
    refine ⟨_, _, lessF _ _, ?_⟩
    (conv => whnf); repeat (first | (refine And.intro (DrawOk.mk (by first | (simp only [List.map_cons, List.map_nil, List.nil_append, List.cons_append, List.append_nil, updsL, List.length_cons, List.length_nil]; decide +kernel) | exact rfl)) ?_; conv => whnf) | (refine And.intro rfl ?_; conv => whnf) | (refine And.intro (fun _ => ?_) (fun h => Bool.noConfusion h); conv => whnf) | (refine And.intro (fun h => Bool.noConfusion h) (fun _ => ?_); conv => whnf))
    refine And.intro (fun h5 => ?_) (fun h5 => ?_)
    · (conv => whnf); repeat (first | (refine And.intro (DrawOk.mk (by first | (simp only [List.map_cons, List.map_nil, List.nil_append, List.cons_append, List.append_nil, updsL, List.length_cons, List.length_nil]; decide +kernel) | exact rfl)) ?_; conv => whnf) | (refine And.intro rfl ?_; conv => whnf) | (refine And.intro (fun _ => ?_) (fun h => Bool.noConfusion h); conv => whnf) | (refine And.intro (fun h => Bool.noConfusion h) (fun _ => ?_); conv => whnf))
      refine again ((i + j) / 2 + 1, j) ⟨by dsimp only; omega, hj, ?_⟩ (by dsimp only; omega) ?_
      · dsimp only
        rw [ha, hst, if_pos (of_decide_eq_true h5)]
      · (refine And.intro rfl (And.intro rfl ?_)); (repeat' (first | exact trivial | exact rfl | apply And.intro | (refine congrArg (Value.int .i64) (w64_nat ?_); omega)))
    · (conv => whnf); repeat (first | (refine And.intro (DrawOk.mk (by first | (simp only [List.map_cons, List.map_nil, List.nil_append, List.cons_append, List.append_nil, updsL, List.length_cons, List.length_nil]; decide +kernel) | exact rfl)) ?_; conv => whnf) | (refine And.intro rfl ?_; conv => whnf) | (refine And.intro (fun _ => ?_) (fun h => Bool.noConfusion h); conv => whnf) | (refine And.intro (fun h => Bool.noConfusion h) (fun _ => ?_); conv => whnf))
      refine again (i, (i + j) / 2) ⟨by dsimp only; omega, by dsimp only; omega, ?_⟩ (by dsimp only; omega) ?_
      · dsimp only
        rw [ha, hst, if_neg (of_decide_eq_false h5)]
      · (refine And.intro rfl (And.intro rfl ?_)); (repeat' (first | exact trivial | exact rfl | apply And.intro | (refine congrArg (Value.int .i64) (w64_nat ?_); omega)))
  have hij' : i = j := by have := of_decide_eq_false h; omega
  subst hij'
  rw [Nat.sub_self, bsGo] at ha
  have hb : bsB l x = decide (l[i]? = some x) := by unfold bsB; rw [ha]
  rw [ha, hb]
  (conv => whnf); repeat (first | (refine And.intro (DrawOk.mk (by first | (simp only [List.map_cons, List.map_nil, List.nil_append, List.cons_append, List.append_nil, updsL, List.length_cons, List.length_nil]; decide +kernel) | exact rfl)) ?_; conv => whnf) | (refine And.intro rfl ?_; conv => whnf) | (refine And.intro (fun _ => ?_) (fun h => Bool.noConfusion h); conv => whnf) | (refine And.intro (fun h => Bool.noConfusion h) (fun _ => ?_); conv => whnf))
  refine And.intro (fun h5 => ?_) (fun h5 => ?_)
  · have hil : i < l.length := by have := of_decide_eq_true h5; rw [pwLen] at this; omega
    rw [List.getElem?_eq_getElem hil]
    (conv => whnf); repeat (first | (refine And.intro (DrawOk.mk (by first | (simp only [List.map_cons, List.map_nil, List.nil_append, List.cons_append, List.append_nil, updsL, List.length_cons, List.length_nil]; decide +kernel) | exact rfl)) ?_; conv => whnf) | (refine And.intro rfl ?_; conv => whnf) | (refine And.intro (fun _ => ?_) (fun h => Bool.noConfusion h); conv => whnf) | (refine And.intro (fun h => Bool.noConfusion h) (fun _ => ?_); conv => whnf))
    refine ⟨by omega, _, wItem hil, rfl, ?_⟩
    (conv => whnf); repeat (first | (refine And.intro (DrawOk.mk (by first | (simp only [List.map_cons, List.map_nil, List.nil_append, List.cons_append, List.append_nil, updsL, List.length_cons, List.length_nil]; decide +kernel) | exact rfl)) ?_; conv => whnf) | (refine And.intro rfl ?_; conv => whnf) | (refine And.intro (fun _ => ?_) (fun h => Bool.noConfusion h); conv => whnf) | (refine And.intro (fun h => Bool.noConfusion h) (fun _ => ?_); conv => whnf))
    repeat' (first | ((refine And.intro (fun h => ?_) (fun h => ?_)) <;> (try simp at h) <;> ((conv => whnf); repeat (first | (refine And.intro (DrawOk.mk (by first | (simp only [List.map_cons, List.map_nil, List.nil_append, List.cons_append, List.append_nil, updsL, List.length_cons, List.length_nil]; decide +kernel) | exact rfl)) ?_; conv => whnf) | (refine And.intro rfl ?_; conv => whnf) | (refine And.intro (fun _ => ?_) (fun h => Bool.noConfusion h); conv => whnf) | (refine And.intro (fun h => Bool.noConfusion h) (fun _ => ?_); conv => whnf)))) | (refine ⟨by omega, _, wItem hil, rfl, ?_⟩; ((conv => whnf); repeat (first | (refine And.intro (DrawOk.mk (by first | (simp only [List.map_cons, List.map_nil, List.nil_append, List.cons_append, List.append_nil, updsL, List.length_cons, List.length_nil]; decide +kernel) | exact rfl)) ?_; conv => whnf) | (refine And.intro rfl ?_; conv => whnf) | (refine And.intro (fun _ => ?_) (fun h => Bool.noConfusion h); conv => whnf) | (refine And.intro (fun h => Bool.noConfusion h) (fun _ => ?_); conv => whnf)))) | (refine ⟨_, _, isNaNF l[i], ?_⟩; ((conv => whnf); repeat (first | (refine And.intro (DrawOk.mk (by first | (simp only [List.map_cons, List.map_nil, List.nil_append, List.cons_append, List.append_nil, updsL, List.length_cons, List.length_nil]; decide +kernel) | exact rfl)) ?_; conv => whnf) | (refine And.intro rfl ?_; conv => whnf) | (refine And.intro (fun _ => ?_) (fun h => Bool.noConfusion h); conv => whnf) | (refine And.intro (fun h => Bool.noConfusion h) (fun _ => ?_); conv => whnf)))) | (refine ⟨_, _, isNaNF x, ?_⟩; ((conv => whnf); repeat (first | (refine And.intro (DrawOk.mk (by first | (simp only [List.map_cons, List.map_nil, List.nil_append, List.cons_append, List.append_nil, updsL, List.length_cons, List.length_nil]; decide +kernel) | exact rfl)) ?_; conv => whnf) | (refine And.intro rfl ?_; conv => whnf) | (refine And.intro (fun _ => ?_) (fun h => Bool.noConfusion h); conv => whnf) | (refine And.intro (fun h => Bool.noConfusion h) (fun _ => ?_); conv => whnf)))) | fail)
    all_goals
      refine Exists.intro [] (And.intro List.nodup_nil ?_); ((conv => whnf); repeat (first | (refine And.intro (DrawOk.mk (by first | (simp only [List.map_cons, List.map_nil, List.nil_append, List.cons_append, List.append_nil, updsL, List.length_cons, List.length_nil]; decide +kernel) | exact rfl)) ?_; conv => whnf) | (refine And.intro rfl ?_; conv => whnf) | (refine And.intro (fun _ => ?_) (fun h => Bool.noConfusion h); conv => whnf) | (refine And.intro (fun h => Bool.noConfusion h) (fun _ => ?_); conv => whnf)))
      first
        | exact congrArg (fun b => AT.tup [i64V i, bV b]) (decide_eq_true (by simp_all)).symm
        | exact congrArg (fun b => AT.tup [i64V i, bV b]) (decide_eq_false (by simp_all)).symm
  · have hil : ¬ i < l.length := by have := of_decide_eq_false h5; rw [pwLen] at this; omega
    rw [List.getElem?_eq_none (by omega)]
    (conv => whnf); repeat (first | (refine And.intro (DrawOk.mk (by first | (simp only [List.map_cons, List.map_nil, List.nil_append, List.cons_append, List.append_nil, updsL, List.length_cons, List.length_nil]; decide +kernel) | exact rfl)) ?_; conv => whnf) | (refine And.intro rfl ?_; conv => whnf) | (refine And.intro (fun _ => ?_) (fun h => Bool.noConfusion h); conv => whnf) | (refine And.intro (fun h => Bool.noConfusion h) (fun _ => ?_); conv => whnf))
    refine Exists.intro [] (And.intro List.nodup_nil ?_); ((conv => whnf); repeat (first | (refine And.intro (DrawOk.mk (by first | (simp only [List.map_cons, List.map_nil, List.nil_append, List.cons_append, List.append_nil, updsL, List.length_cons, List.length_nil]; decide +kernel) | exact rfl)) ?_; conv => whnf) | (refine And.intro rfl ?_; conv => whnf) | (refine And.intro (fun _ => ?_) (fun h => Bool.noConfusion h); conv => whnf) | (refine And.intro (fun h => Bool.noConfusion h) (fun _ => ?_); conv => whnf)))
    rfl
end Go.Proofs.Ytijajfldpaadnaa.Ab
