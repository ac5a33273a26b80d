/- Histories: HistoryCounts. -/
import Derived.Test.YtmooflgfcebmaaaHl
namespace Go.Proofs.Ytmooflgfcebmaaa.Ab
set_option linter.unusedVariables false
set_option linter.unusedSimpArgs false
open Go.RowKit

def isF (x : Ev) : Bool := x.k == 4
def pS (l : List Ev) : Nat → Nat
  | 0 => 0
  | b + 1 => pS l b + (l.filter (keepE (b : Int))).length
theorem pS_le (l : List Ev) : ∀ b, pS l b ≤ b * l.length
  | 0 => by simp [pS]
  | b + 1 => by
    have h1 := pS_le l b
    have h2 := List.length_filter_le (keepE (b : Int)) l
    rw [pS, Nat.add_mul]
    omega
theorem cnt_step {p : Ev → Bool} {l : List Ev} {k c : Nat} (hk : k < l.length) (hc : c = ((l.take k).filter p).length) : ((l.take (k + 1)).filter p).length = if p l[k] = true then c + 1 else c := by
  rw [List.take_succ_eq_append_getElem hk, List.filter_append, List.length_append, hc]
  by_cases h : p l[k] = true
  · rw [if_pos h, List.filter_cons_of_pos h]; rfl
  · rw [if_neg h, List.filter_cons_of_neg h]; rfl
theorem flt_get {p : Ev → Bool} {l : List Ev} {k : Nat} (hk : k < l.length) (h : p l[k] = true) : (l.filter p)[((l.take k).filter p).length]? = some l[k] := by
  have e : l = l.take k ++ l[k] :: l.drop (k + 1) := by rw [← List.drop_eq_getElem_cons hk, List.take_append_drop]
  have : l.filter p = (l.take k).filter p ++ l[k] :: (l.drop (k + 1)).filter p := by
    conv => lhs; rw [e]
    rw [List.filter_append, List.filter_cons_of_pos h]
  rw [this, List.getElem?_append_right (Nat.le_refl _), Nat.sub_self]
  rfl
theorem opn_s (l : List Ev) (h : rgo [] l = true) : ((opsL l).filter noR).map (·.s) = pndL l := by
  unfold opsL pndL
  rw [bgo_right l [] h]
  have hn : ∀ x ∈ l.filter noR, x.r = false := by
    intro x hx
    have := (List.mem_filter.1 hx).2
    simpa [noR] using this
  generalize l.filter noR = B at hn
  induction B with
  | nil => rfl
  | cons x B ih =>
    have hx := hn x List.mem_cons_self
    have ih' := ih (fun y hy => hn y (List.mem_cons_of_mem _ hy))
    have e1 : (withR l x).s = x.s := by unfold withR; split <;> rfl
    have e2 : noR (withR l x) = pnd l x := by
      rw [pnd_any]
      unfold withR noR
      split
      · rename_i y hy
        have : l.any (fR x.s) = true := by
          cases ha : l.any (fR x.s) with
          | true => rfl
          | false => rw [find_none_any.2 ha] at hy; cases hy
        rw [this]
      · rename_i hy
        rw [find_none_any.1 hy, hx]
    rw [List.map_cons]
    by_cases hp : pnd l x = true
    · rw [List.filter_cons_of_pos (by rw [e2]; exact hp), List.filter_cons_of_pos hp, List.map_cons, List.map_cons, ih', e1]
    · rw [List.filter_cons_of_neg (by rw [e2]; exact hp), List.filter_cons_of_neg hp, ih']
theorem ops_len (l : List Ev) (h : rgo [] l = true) : (opsL l).length = (l.filter noR).length := by
  unfold opsL
  rw [List.length_map, bgo_right l [] h]
theorem pnd_len (l : List Ev) (h : rgo [] l = true) : (pndL l).length + (l.filter isR).length = (l.filter noR).length := by
  have := pend_count l h
  unfold pndL
  rw [List.length_map, bgo_right l [] h]
  exact this
theorem chk_part (b : Int) (l : List Ev) (h : rgo [] l = true) (hl : l.length ≤ 60) : chkH 3 (l.filter (keepE b)) = 0 := by
  have h1 := List.length_filter_le (keepE b) l
  unfold chkH
  rw [if_neg (by omega), if_neg (by omega), if_pos (part_right b l h)]
set_option maxRecDepth 100000 in
set_option maxHeartbeats 16000000 in
theorem hCountsK (L : List Int) (l O : List Ev) (P : List Int) (hlight : Fun Try.prog 12 [slV (wV L)] [] (ATbool true)) (c1 : Fun Try.prog 14 [slV (wV L)] [.row 0 38 8 (vR l)] (.v (.c (.own 0 0))))
    (hlen : l.length ≤ 60) (c2 : Fun Try.prog 20 [slV (vR l)] [] (.v (slV (vR O)))) (c3 : Fun Try.prog 21 [slV (vR l)] [] (.v (slV (wV P))))
    (c4 : ∀ b : Nat, Fun Try.prog 22 [slV (vR l), i64V b] [] (.v (slV (vR (l.filter (keepE (b : Int)))))))
    (c5 : ∀ b : Nat, Fun Try.prog 19 [i64V 3, slV (vR (l.filter (keepE (b : Int))))] [] (.v (i64V 0)))
    (hOs : (O.filter noR).map (·.s) = P) (hO : O.length = (l.filter noR).length) (hP : P.length + (l.filter isR).length = (l.filter noR).length) (hS : pS l 3 + (l.filter isF).length = l.length) :
    Fun Try.prog 6 [slV (wV L)] [] (ATbool true) := by
  have hOl : O.length ≤ 60 := by rw [hO]; exact Nat.le_trans (List.length_filter_le _ _) hlen
  refine fun_of_vc tabOk mixOk Try.func6 rfl (by rfl) (rs := [.tmp 2]) rfl rfl 126 ?_; rw [Try.ntmps6]
  (conv => whnf); repeat (first | (refine And.intro rfl ?_; conv => whnf) | (refine And.intro (fun _ => ?_) (fun h => Bool.noConfusion h); conv => whnf) | (refine And.intro (fun h => Bool.noConfusion h) (fun _ => ?_); conv => whnf))
  refine ⟨_, _, hlight, ?_⟩
  (conv => whnf); repeat (first | (refine And.intro rfl ?_; conv => whnf) | (refine And.intro (fun _ => ?_) (fun h => Bool.noConfusion h); conv => whnf) | (refine And.intro (fun h => Bool.noConfusion h) (fun _ => ?_); conv => whnf))
  refine ⟨_, _, c1, ?_⟩
  (conv => whnf); repeat (first | (refine And.intro rfl ?_; conv => whnf) | (refine And.intro (fun _ => ?_) (fun h => Bool.noConfusion h); conv => whnf) | (refine And.intro (fun h => Bool.noConfusion h) (fun _ => ?_); conv => whnf))
  refine ⟨_, _, c2, ?_⟩
  (conv => whnf); repeat (first | (refine And.intro rfl ?_; conv => whnf) | (refine And.intro (fun _ => ?_) (fun h => Bool.noConfusion h); conv => whnf) | (refine And.intro (fun h => Bool.noConfusion h) (fun _ => ?_); conv => whnf))
  refine ⟨_, _, c3, ?_⟩
  (conv => whnf); repeat (first | (refine And.intro rfl ?_; conv => whnf) | (refine And.intro (fun _ => ?_) (fun h => Bool.noConfusion h); conv => whnf) | (refine And.intro (fun h => Bool.noConfusion h) (fun _ => ?_); conv => whnf))
  refine vc_loop [2, 4, 5, 9] [] (X := Nat × Nat × Nat × Nat) (fun x gs => [(10, ATint x.1), (6, ATint x.2.1), (7, ATint x.2.2.1), (8, ATint x.2.2.2), (3, .v (.c (.own 20 (gs 20))))]) (fun _ gs => [(20, .froz (gs 20) (vR l))]) (fun x => x.1 ≤ l.length ∧ x.2.1 = ((l.take x.1).filter noR).length ∧ x.2.2.1 = ((l.take x.1).filter isR).length ∧ x.2.2.2 = ((l.take x.1).filter isF).length) (fun x => l.length - x.1) _ (Ghost.refl _) (0, 0, 0, 0) ⟨by omega, rfl, rfl, rfl⟩ ?_ ?_
  · (refine And.intro rfl (And.intro rfl ?_)); (repeat' (first | exact trivial | exact rfl | apply And.intro | (refine congrArg (Value.int .i64) (w64_nat ?_); omega)))
  rintro gs ⟨k, c, r, f⟩ ⟨hk, hc, hr, hf⟩
  dsimp only at hk hc hr hf ⊢
  have b1 : c ≤ 60 := by have := List.length_filter_le noR (l.take k); rw [List.length_take] at this; omega
  have b2 : r ≤ 60 := by have := List.length_filter_le isR (l.take k); rw [List.length_take] at this; omega
  have b3 : f ≤ 60 := by have := List.length_filter_le isF (l.take k); rw [List.length_take] at this; omega
  (conv => whnf); repeat (first | (refine And.intro rfl ?_; conv => whnf) | (refine And.intro (fun _ => ?_) (fun h => Bool.noConfusion h); conv => whnf) | (refine And.intro (fun h => Bool.noConfusion h) (fun _ => ?_); conv => whnf))
  refine And.intro (fun h4 => ?_) (fun h4 => ?_)
  · have hlt : k < l.length := by have := of_decide_eq_true h4; rw [vLen] at this; omega
    have s1 := cnt_step hlt hc
    have s2 := cnt_step hlt hr
    have s3 := cnt_step hlt hf
    (conv => whnf); repeat (first | (refine And.intro rfl ?_; conv => whnf) | (refine And.intro (fun _ => ?_) (fun h => Bool.noConfusion h); conv => whnf) | (refine And.intro (fun h => Bool.noConfusion h) (fun _ => ?_); conv => whnf))
    refine ⟨by omega, _, vItem hlt, rfl, ?_⟩
    (conv => whnf); repeat (first | (refine And.intro rfl ?_; conv => whnf) | (refine And.intro (fun _ => ?_) (fun h => Bool.noConfusion h); conv => whnf) | (refine And.intro (fun h => Bool.noConfusion h) (fun _ => ?_); conv => whnf))
    refine And.intro (fun h5 => ?_) (fun h5 => ?_)
    all_goals
      (conv => whnf); repeat (first | (refine And.intro rfl ?_; conv => whnf) | (refine And.intro (fun _ => ?_) (fun h => Bool.noConfusion h); conv => whnf) | (refine And.intro (fun h => Bool.noConfusion h) (fun _ => ?_); conv => whnf))
      refine ⟨by omega, _, vItem hlt, rfl, ?_⟩
      (conv => whnf); repeat (first | (refine And.intro rfl ?_; conv => whnf) | (refine And.intro (fun _ => ?_) (fun h => Bool.noConfusion h); conv => whnf) | (refine And.intro (fun h => Bool.noConfusion h) (fun _ => ?_); conv => whnf))
      refine And.intro (fun h6 => ?_) (fun h6 => ?_)
    · (conv => whnf); repeat (first | (refine And.intro rfl ?_; conv => whnf) | (refine And.intro (fun _ => ?_) (fun h => Bool.noConfusion h); conv => whnf) | (refine And.intro (fun h => Bool.noConfusion h) (fun _ => ?_); conv => whnf))
      refine again (k + 1, c, r + 1, f + 1) ⟨hlt, ?_, ?_, ?_⟩ (by dsimp only; omega) ?_
      · rw [s1, if_neg (by simp [noR, h5])]
      · rw [s2, if_pos (by simp [isR, h5])]
      · rw [s3, if_pos (by simpa [isF] using h6)]
      · (refine And.intro rfl (And.intro rfl ?_)); (repeat' (first | exact trivial | exact rfl | apply And.intro | (refine congrArg (Value.int .i64) (w64_nat ?_); omega)))
    · (conv => whnf); repeat (first | (refine And.intro rfl ?_; conv => whnf) | (refine And.intro (fun _ => ?_) (fun h => Bool.noConfusion h); conv => whnf) | (refine And.intro (fun h => Bool.noConfusion h) (fun _ => ?_); conv => whnf))
      refine again (k + 1, c, r + 1, f) ⟨hlt, ?_, ?_, ?_⟩ (by dsimp only; omega) ?_
      · rw [s1, if_neg (by simp [noR, h5])]
      · rw [s2, if_pos (by simp [isR, h5])]
      · rw [s3, if_neg (by simpa [isF] using h6)]
      · (refine And.intro rfl (And.intro rfl ?_)); (repeat' (first | exact trivial | exact rfl | apply And.intro | (refine congrArg (Value.int .i64) (w64_nat ?_); omega)))
    · (conv => whnf); repeat (first | (refine And.intro rfl ?_; conv => whnf) | (refine And.intro (fun _ => ?_) (fun h => Bool.noConfusion h); conv => whnf) | (refine And.intro (fun h => Bool.noConfusion h) (fun _ => ?_); conv => whnf))
      refine again (k + 1, c + 1, r, f + 1) ⟨hlt, ?_, ?_, ?_⟩ (by dsimp only; omega) ?_
      · rw [s1, if_pos (by simp [noR, h5])]
      · rw [s2, if_neg (by simp [isR, h5])]
      · rw [s3, if_pos (by simpa [isF] using h6)]
      · (refine And.intro rfl (And.intro rfl ?_)); (repeat' (first | exact trivial | exact rfl | apply And.intro | (refine congrArg (Value.int .i64) (w64_nat ?_); omega)))
    · (conv => whnf); repeat (first | (refine And.intro rfl ?_; conv => whnf) | (refine And.intro (fun _ => ?_) (fun h => Bool.noConfusion h); conv => whnf) | (refine And.intro (fun h => Bool.noConfusion h) (fun _ => ?_); conv => whnf))
      refine again (k + 1, c + 1, r, f) ⟨hlt, ?_, ?_, ?_⟩ (by dsimp only; omega) ?_
      · rw [s1, if_pos (by simp [noR, h5])]
      · rw [s2, if_neg (by simp [isR, h5])]
      · rw [s3, if_neg (by simpa [isF] using h6)]
      · (refine And.intro rfl (And.intro rfl ?_)); (repeat' (first | exact trivial | exact rfl | apply And.intro | (refine congrArg (Value.int .i64) (w64_nat ?_); omega)))
  have hge : ¬ k < l.length := by have := of_decide_eq_false h4; rw [vLen] at this; omega
  rw [List.take_of_length_le (by omega)] at hc hr hf
  clear h4
  (conv => whnf); repeat (first | (refine And.intro rfl ?_; conv => whnf) | (refine And.intro (fun _ => ?_) (fun h => Bool.noConfusion h); conv => whnf) | (refine And.intro (fun h => Bool.noConfusion h) (fun _ => ?_); conv => whnf))
  refine vc_loop [4, 5, 6, 7, 8] [] (X := Nat × Nat) (fun x gs => [(11, ATint x.1), (9, ATint x.2), (3, .v (.c (.own 20 (gs 20))))]) (fun _ gs => [(20, .froz (gs 20) (vR l))]) (fun x => x.1 ≤ 3 ∧ x.2 = pS l x.1) (fun x => 3 - x.1) _ (Ghost.refl _) (0, 0) ⟨by omega, rfl⟩ ?_ ?_
  · (refine And.intro rfl (And.intro rfl ?_)); (repeat' (first | exact trivial | exact rfl | apply And.intro | (refine congrArg (Value.int .i64) (w64_nat ?_); omega)))
  rintro gs2 ⟨b, s⟩ ⟨hb, hs⟩
  dsimp only at hb hs ⊢
  have b4 : s ≤ 180 := by
    have := pS_le l b
    rw [hs]
    refine Nat.le_trans this ?_
    exact Nat.le_trans (Nat.mul_le_mul hb hlen) (by decide)
  (conv => whnf); repeat (first | (refine And.intro rfl ?_; conv => whnf) | (refine And.intro (fun _ => ?_) (fun h => Bool.noConfusion h); conv => whnf) | (refine And.intro (fun h => Bool.noConfusion h) (fun _ => ?_); conv => whnf))
  refine And.intro (fun h4 => ?_) (fun h4 => ?_)
  · have hlt : b < 3 := by have := of_decide_eq_true h4; omega
    have hfl : (l.filter (keepE (b : Int))).length ≤ 60 := Nat.le_trans (List.length_filter_le _ _) hlen
    have hw : iwrap .i64 ((s : Int) + ((vR (l.filter (keepE (b : Int)))).length : Nat)) = ((pS l (b + 1) : Nat) : Int) := by
      rw [vLen, pS, ← hs]
      exact (w64_in (by omega)).trans (by omega)
    (conv => whnf); repeat (first | (refine And.intro rfl ?_; conv => whnf) | (refine And.intro (fun _ => ?_) (fun h => Bool.noConfusion h); conv => whnf) | (refine And.intro (fun h => Bool.noConfusion h) (fun _ => ?_); conv => whnf))
    refine ⟨_, _, c4 b, ?_⟩
    (conv => whnf); repeat (first | (refine And.intro rfl ?_; conv => whnf) | (refine And.intro (fun _ => ?_) (fun h => Bool.noConfusion h); conv => whnf) | (refine And.intro (fun h => Bool.noConfusion h) (fun _ => ?_); conv => whnf))
    refine ⟨_, _, c5 b, ?_⟩
    (conv => whnf); repeat (first | (refine And.intro rfl ?_; conv => whnf) | (refine And.intro (fun _ => ?_) (fun h => Bool.noConfusion h); conv => whnf) | (refine And.intro (fun h => Bool.noConfusion h) (fun _ => ?_); conv => whnf))
    refine again (b + 1, pS l (b + 1)) ⟨hlt, rfl⟩ (by dsimp only; omega) ?_
    (refine And.intro rfl (And.intro rfl ?_)); (repeat' (first | exact trivial | exact rfl | apply And.intro | (refine congrArg (Value.int .i64) (w64_nat ?_); omega)))
    all_goals exact congrArg (Value.int .i64) hw
  have hb3 : b = 3 := by have := of_decide_eq_false h4; omega
  subst hb3
  clear h4
  (conv => whnf); repeat (first | (refine And.intro rfl ?_; conv => whnf) | (refine And.intro (fun _ => ?_) (fun h => Bool.noConfusion h); conv => whnf) | (refine And.intro (fun h => Bool.noConfusion h) (fun _ => ?_); conv => whnf))
  refine vc_loop [4, 5, 6, 7, 8, 9] [] (X := Nat × Nat) (fun x gs => [(14, ATint x.1), (13, ATint x.2), (3, .v (.c (.own 20 (gs 20))))]) (fun _ gs => [(20, .froz (gs 20) (vR l))]) (fun x => x.1 ≤ O.length ∧ x.2 = ((O.take x.1).filter noR).length) (fun x => O.length - x.1) _ (Ghost.refl _) (0, 0) ⟨by omega, rfl⟩ ?_ ?_
  · (refine And.intro rfl (And.intro rfl ?_)); (repeat' (first | exact trivial | exact rfl | apply And.intro | (refine congrArg (Value.int .i64) (w64_nat ?_); omega)))
  rintro gs3 ⟨k, q⟩ ⟨hk, hq⟩
  dsimp only at hk hq ⊢
  have b5 : q ≤ 60 := by have := List.length_filter_le noR (O.take k); rw [List.length_take] at this; omega
  (conv => whnf); repeat (first | (refine And.intro rfl ?_; conv => whnf) | (refine And.intro (fun _ => ?_) (fun h => Bool.noConfusion h); conv => whnf) | (refine And.intro (fun h => Bool.noConfusion h) (fun _ => ?_); conv => whnf))
  refine And.intro (fun h4 => ?_) (fun h4 => ?_)
  · have hlt : k < O.length := by have := of_decide_eq_true h4; rw [vLen] at this; omega
    have s1 := cnt_step hlt hq
    (conv => whnf); repeat (first | (refine And.intro rfl ?_; conv => whnf) | (refine And.intro (fun _ => ?_) (fun h => Bool.noConfusion h); conv => whnf) | (refine And.intro (fun h => Bool.noConfusion h) (fun _ => ?_); conv => whnf))
    refine ⟨by omega, _, vItem hlt, rfl, ?_⟩
    (conv => whnf); repeat (first | (refine And.intro rfl ?_; conv => whnf) | (refine And.intro (fun _ => ?_) (fun h => Bool.noConfusion h); conv => whnf) | (refine And.intro (fun h => Bool.noConfusion h) (fun _ => ?_); conv => whnf))
    refine And.intro (fun h5 => ?_) (fun h5 => ?_)
    · have h5' : O[k].r = false := by simpa using h5
      have hn : noR O[k] = true := by simp [noR, h5']
      have hg := flt_get hlt hn
      rw [← hq] at hg
      have hgp : P[q]? = some O[k].s := by rw [← hOs, List.getElem?_map, hg]; rfl
      have hql := (List.getElem?_eq_some_iff.1 hgp).1
      have hqe := (List.getElem?_eq_some_iff.1 hgp).2
      (conv => whnf); repeat (first | (refine And.intro rfl ?_; conv => whnf) | (refine And.intro (fun _ => ?_) (fun h => Bool.noConfusion h); conv => whnf) | (refine And.intro (fun h => Bool.noConfusion h) (fun _ => ?_); conv => whnf))
      refine And.intro (fun h6 => ?_) (fun h6 => ?_)
      · exfalso
        have := of_decide_eq_true h6
        simp [wV] at this
        omega
      (conv => whnf); repeat (first | (refine And.intro rfl ?_; conv => whnf) | (refine And.intro (fun _ => ?_) (fun h => Bool.noConfusion h); conv => whnf) | (refine And.intro (fun h => Bool.noConfusion h) (fun _ => ?_); conv => whnf))
      refine ⟨by omega, _, wItem hql, rfl, ?_⟩
      (conv => whnf); repeat (first | (refine And.intro rfl ?_; conv => whnf) | (refine And.intro (fun _ => ?_) (fun h => Bool.noConfusion h); conv => whnf) | (refine And.intro (fun h => Bool.noConfusion h) (fun _ => ?_); conv => whnf))
      refine ⟨by omega, _, vItem hlt, rfl, ?_⟩
      (conv => whnf); repeat (first | (refine And.intro rfl ?_; conv => whnf) | (refine And.intro (fun _ => ?_) (fun h => Bool.noConfusion h); conv => whnf) | (refine And.intro (fun h => Bool.noConfusion h) (fun _ => ?_); conv => whnf))
      refine And.intro (fun h7 => ?_) (fun h7 => ?_)
      · exfalso
        rw [hqe] at h7
        simp at h7
      (conv => whnf); repeat (first | (refine And.intro rfl ?_; conv => whnf) | (refine And.intro (fun _ => ?_) (fun h => Bool.noConfusion h); conv => whnf) | (refine And.intro (fun h => Bool.noConfusion h) (fun _ => ?_); conv => whnf))
      refine again (k + 1, q + 1) ⟨hlt, ?_⟩ (by dsimp only; omega) ?_
      · rw [s1, if_pos hn]
      · (refine And.intro rfl (And.intro rfl ?_)); (repeat' (first | exact trivial | exact rfl | apply And.intro | (refine congrArg (Value.int .i64) (w64_nat ?_); omega)))
    · have hn : ¬ noR O[k] = true := by
        have h5' : O[k].r = true := by simpa using h5
        simp [noR, h5']
      (conv => whnf); repeat (first | (refine And.intro rfl ?_; conv => whnf) | (refine And.intro (fun _ => ?_) (fun h => Bool.noConfusion h); conv => whnf) | (refine And.intro (fun h => Bool.noConfusion h) (fun _ => ?_); conv => whnf))
      refine again (k + 1, q) ⟨hlt, ?_⟩ (by dsimp only; omega) ?_
      · rw [s1, if_neg hn]
      · (refine And.intro rfl (And.intro rfl ?_)); (repeat' (first | exact trivial | exact rfl | apply And.intro | (refine congrArg (Value.int .i64) (w64_nat ?_); omega)))
  have hge2 : ¬ k < O.length := by have := of_decide_eq_false h4; rw [vLen] at this; omega
  rw [List.take_of_length_le (by omega)] at hq
  have hqP : P.length = q := by rw [← hOs, List.length_map, hq]
  have w1 : iwrap .i64 ((c : Int) - (r : Int)) = (P.length : Int) := (w64_in (by omega)).trans (by omega)
  have w2 : iwrap .i64 ((s : Int) + (f : Int)) = (l.length : Int) := (w64_in (by omega)).trans (by omega)
  have t1 : ((((vR O).length : Nat) : Int) == (c : Int)) = true := by rw [vLen, hO, hc]; simp
  have t2 : ((((wV P).length : Nat) : Int) == iwrap .i64 ((c : Int) - (r : Int))) = true := by rw [w1]; simp [wV]
  have t3 : (((q : Nat) : Int) == ((wV P).length : Nat)) = true := by simp [wV, hqP]
  have t4 : (iwrap .i64 ((s : Int) + (f : Int)) == ((vR l).length : Nat)) = true := by rw [w2, vLen]; simp
  clear h4
  (conv => whnf); repeat (first | (refine And.intro rfl ?_; conv => whnf) | (refine And.intro (fun _ => ?_) (fun h => Bool.noConfusion h); conv => whnf) | (refine And.intro (fun h => Bool.noConfusion h) (fun _ => ?_); conv => whnf))
  refine And.intro (fun _ => ?_) (fun h => by rw [t1] at h; cases h)
  (conv => whnf); repeat (first | (refine And.intro rfl ?_; conv => whnf) | (refine And.intro (fun _ => ?_) (fun h => Bool.noConfusion h); conv => whnf) | (refine And.intro (fun h => Bool.noConfusion h) (fun _ => ?_); conv => whnf))
  refine And.intro (fun _ => ?_) (fun h => by rw [t2] at h; cases h)
  (conv => whnf); repeat (first | (refine And.intro rfl ?_; conv => whnf) | (refine And.intro (fun _ => ?_) (fun h => Bool.noConfusion h); conv => whnf) | (refine And.intro (fun h => Bool.noConfusion h) (fun _ => ?_); conv => whnf))
  refine And.intro (fun _ => ?_) (fun h => by rw [t3] at h; cases h)
  (conv => whnf); repeat (first | (refine And.intro rfl ?_; conv => whnf) | (refine And.intro (fun _ => ?_) (fun h => Bool.noConfusion h); conv => whnf) | (refine And.intro (fun h => Bool.noConfusion h) (fun _ => ?_); conv => whnf))
  refine And.intro (fun _ => ?_) (fun h => by rw [t4] at h; cases h)
  (conv => whnf); repeat (first | (refine And.intro rfl ?_; conv => whnf) | (refine And.intro (fun _ => ?_) (fun h => Bool.noConfusion h); conv => whnf) | (refine And.intro (fun h => Bool.noConfusion h) (fun _ => ?_); conv => whnf))
  refine ⟨_, _, hAwake, ?_⟩
  (conv => whnf); repeat (first | (refine And.intro rfl ?_; conv => whnf) | (refine And.intro (fun _ => ?_) (fun h => Bool.noConfusion h); conv => whnf) | (refine And.intro (fun h => Bool.noConfusion h) (fun _ => ?_); conv => whnf))
  refine Exists.intro [] (And.intro List.nodup_nil ?_); ((conv => whnf); repeat (first | (refine And.intro rfl ?_; conv => whnf) | (refine And.intro (fun _ => ?_) (fun h => Bool.noConfusion h); conv => whnf) | (refine And.intro (fun h => Bool.noConfusion h) (fun _ => ?_); conv => whnf)))
  rfl
set_option maxRecDepth 100000 in
theorem hCountsF (L : List Int) (hl : L.length ≤ 140737488351232) : Fun Try.prog 6 [slV (wV L)] [] (ATbool true) := by
  have hlight := lightF L (by omega)
  by_cases hL : L.length ≤ 300
  · rw [decide_eq_true hL] at hlight
    have hr := made_right L
    have hlen := made_len L
    have hsh := made_sh L
    have hsum := parts_sum (madeL L) hsh
    have c1 := madeF L (by omega)
    generalize madeL L = l at c1 hr hlen hsum
    refine hCountsK L l (opsL l) (pndL l) hlight c1 hlen (opsF l (by omega)) (pendingF l (by omega)) (fun b => restrictF l b (by omega)) (fun b => ?_) (opn_s l hr) (ops_len l hr) (pnd_len l hr) ?_
    · have := chkF' 3 (l.filter (keepE (b : Int)))
      rw [chk_part _ l hr hlen] at this
      exact this
    · show 0 + (l.filter (keepE ((0 : Nat) : Int))).length + (l.filter (keepE ((1 : Nat) : Int))).length + (l.filter (keepE ((2 : Nat) : Int))).length + (l.filter isF).length = l.length
      rw [Nat.zero_add]
      exact hsum
  · rw [decide_eq_false hL] at hlight
    refine fun_of_vc tabOk mixOk Try.func6 rfl (by rfl) (rs := [.tmp 2]) rfl rfl 126 ?_; rw [Try.ntmps6]
    (conv => whnf); repeat (first | (refine And.intro rfl ?_; conv => whnf) | (refine And.intro (fun _ => ?_) (fun h => Bool.noConfusion h); conv => whnf) | (refine And.intro (fun h => Bool.noConfusion h) (fun _ => ?_); conv => whnf))
    refine ⟨_, _, hlight, ?_⟩
    (conv => whnf); repeat (first | (refine And.intro rfl ?_; conv => whnf) | (refine And.intro (fun _ => ?_) (fun h => Bool.noConfusion h); conv => whnf) | (refine And.intro (fun h => Bool.noConfusion h) (fun _ => ?_); conv => whnf))
    refine ⟨_, _, hAwake, ?_⟩
    (conv => whnf); repeat (first | (refine And.intro rfl ?_; conv => whnf) | (refine And.intro (fun _ => ?_) (fun h => Bool.noConfusion h); conv => whnf) | (refine And.intro (fun h => Bool.noConfusion h) (fun _ => ?_); conv => whnf))
    refine Exists.intro [] (And.intro List.nodup_nil ?_); ((conv => whnf); repeat (first | (refine And.intro rfl ?_; conv => whnf) | (refine And.intro (fun _ => ?_) (fun h => Bool.noConfusion h); conv => whnf) | (refine And.intro (fun h => Bool.noConfusion h) (fun _ => ?_); conv => whnf)))
    rfl
end Go.Proofs.Ytmooflgfcebmaaa.Ab
namespace Go.Proofs.Ytmooflgfcebmaaa
set_option linter.unusedVariables false
set_option linter.unusedSimpArgs false
open Ab
set_option maxRecDepth 100000 in
theorem historyCounts.walk {H : Type} {enc : TypeId × Value → H} {W : World} {base : Nat} (v : Value) (d : DataW H) (p : List MemPlace) (hv : Value.okWide Try.prog W .any base 22 v)
    (h : DataW.Trod enc Try.prog W 0 (fun _ => true) true 22 v d p) (hw : ∀ n ∈ d.weights Try.prog 22, n ≤ 140737488351232)
    (W' : World) (hW : W' = W := by rfl) : Calls Try.prog 6 #[v] W' (True1 W') := by
  subst hW
  obtain ⟨es, _, q1, q2⟩ := open_sl tabOk 3 (t := 22) (by decide +kernel) rfl hv h
  obtain ⟨xs, rfl⟩ := ints_of (d := 2) es (fun r hr => (q1 r hr).2)
  have b3 := slice_bound tabOk (e := 3) rfl h hw (q2 (fun _ _ => undef) (fun _ => 0))
  rw [bytesOf_eq tabOk (fun h => TK.noConfusion h)] at b3
  have b3' : (wV xs).length * 8 ≤ 140737488351232 := b3
  exact law_of_fun (hCountsF xs (by simp [wV] at b3'; omega)) rfl (reps_get (vs := [_]) ⟨q2 _ _, trivial⟩)
end Go.Proofs.Ytmooflgfcebmaaa
