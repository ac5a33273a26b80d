/- Histories: the document's Before, Pending, Operations, Restrict and Same. -/
import Derived.Test.YtmooflgfcebmaaaHe
namespace Go.Proofs.Ytmooflgfcebmaaa.Ab
set_option linter.unusedVariables false
set_option linter.unusedSimpArgs false
open Go.RowKit

set_option maxRecDepth 100000 in
set_option maxHeartbeats 16000000 in
theorem beforeF' (l : List Ev) (a b : Int) (hl : l.length ≤ 1000000) : Fun Try.prog 46 [slV (vR l), i64V a, i64V b] [] (ATbool (bef l a b)) := by
  have h1 := returnedF l a hl
  have h2 := invokedF l b hl
  have h3 := fFrom_lt (fR a) l 0
  have h4 := fFrom_lt (fI b) l 0
  unfold bef
  generalize fFrom (fR a) 0 l = x at h1 h3 ⊢
  generalize fFrom (fI b) 0 l = y at h2 h4 ⊢
  refine fun_of_vc tabOk mixOk Try.func46 rfl (by rfl) (rs := [.tmp 6]) rfl rfl 30 ?_; rw [Try.ntmps46]
  (conv => whnf); repeat (first | (refine And.intro rfl ?_; conv => whnf) | (refine And.intro (fun _ => ?_) (fun h => Bool.noConfusion h); conv => whnf) | (refine And.intro (fun h => Bool.noConfusion h) (fun _ => ?_); conv => whnf))
  repeat' (first | ((refine And.intro (fun h => ?_) (fun h => ?_)) <;> (try simp at h) <;> ((conv => whnf); repeat (first | (refine And.intro rfl ?_; conv => whnf) | (refine And.intro (fun _ => ?_) (fun h => Bool.noConfusion h); conv => whnf) | (refine And.intro (fun h => Bool.noConfusion h) (fun _ => ?_); conv => whnf)))) | (refine ⟨_, _, h1, ?_⟩; ((conv => whnf); repeat (first | (refine And.intro rfl ?_; conv => whnf) | (refine And.intro (fun _ => ?_) (fun h => Bool.noConfusion h); conv => whnf) | (refine And.intro (fun h => Bool.noConfusion h) (fun _ => ?_); conv => whnf)))) | (refine ⟨_, _, h2, ?_⟩; ((conv => whnf); repeat (first | (refine And.intro rfl ?_; conv => whnf) | (refine And.intro (fun _ => ?_) (fun h => Bool.noConfusion h); conv => whnf) | (refine And.intro (fun h => Bool.noConfusion h) (fun _ => ?_); conv => whnf)))) | fail)
  all_goals (refine Exists.intro [] (And.intro List.nodup_nil ?_); ((conv => whnf); repeat (first | (refine And.intro rfl ?_; conv => whnf) | (refine And.intro (fun _ => ?_) (fun h => Bool.noConfusion h); conv => whnf) | (refine And.intro (fun h => Bool.noConfusion h) (fun _ => ?_); conv => whnf))))
  all_goals (refine congrArg ATbool ?_)
  all_goals first
    | (simp [*]; done)
    | (simp [*]; omega)
    | (rw [Bool.eq_iff_iff]; simp [*]; omega)
theorem isB_neg {pre : List Ev} {x : Ev} (h : 0 ≤ fFrom (fI x.s) 0 pre) : isB pre x = false := by
  unfold isB
  have : (fFrom (fI x.s) 0 pre == -1) = false := by rw [beq_eq_false_iff_ne]; omega
  rw [this, Bool.and_false]
theorem isB_pos {pre : List Ev} {x : Ev} (h1 : x.r = false) (h : fFrom (fI x.s) 0 pre < 0) : isB pre x = true := by
  unfold isB
  have h2 := fFrom_lt (fI x.s) pre 0
  have : (fFrom (fI x.s) 0 pre == -1) = true := by rw [beq_iff_eq]; omega
  rw [this, h1]; rfl
theorem pnd_neg {l : List Ev} {x : Ev} (h : 0 ≤ fFrom (fR x.s) 0 l) : pnd l x = false := by
  unfold pnd; rw [beq_eq_false_iff_ne]; omega
theorem pnd_pos {l : List Ev} {x : Ev} (h : fFrom (fR x.s) 0 l < 0) : pnd l x = true := by
  have h2 := fFrom_lt (fR x.s) l 0
  unfold pnd; rw [beq_iff_eq]; omega
def pInv (l : List Ev) (x : Nat × List Int) : Prop := x.1 ≤ l.length ∧ x.2.length ≤ x.1 ∧ pndL l = x.2 ++ ((bgo (l.take x.1) (l.drop x.1)).filter (pnd l)).map (·.s)
theorem pInv_in {l : List Ev} {a : List Int} {k : Nat} (h : pInv l (k, a)) (hlt : k < l.length) (hb : isB (l.take k) l[k] = true) (hp : pnd l l[k] = true) : pInv l (k + 1, a ++ [l[k].s]) := by
  obtain ⟨h1, h2, h3⟩ := h
  dsimp only at h1 h2 h3
  rw [bgo_step hlt, hb, List.filter_append] at h3
  exact ⟨hlt, by simp; omega, by rw [h3]; simp [hp]⟩
theorem pInv_out {l : List Ev} {a : List Int} {k : Nat} (h : pInv l (k, a)) (hlt : k < l.length) (hb : isB (l.take k) l[k] = false ∨ pnd l l[k] = false) : pInv l (k + 1, a) := by
  obtain ⟨h1, h2, h3⟩ := h
  dsimp only at h1 h2 h3
  rw [bgo_step hlt, List.filter_append] at h3
  refine ⟨hlt, by dsimp only; omega, ?_⟩
  dsimp only
  rw [h3]
  rcases hb with hb | hb
  · rw [hb]; simp
  · cases isB (l.take k) l[k] <;> simp [hb]
set_option maxRecDepth 100000 in
set_option maxHeartbeats 16000000 in
theorem pendingF' (l : List Ev) (hl : l.length ≤ 1000000) : Fun Try.prog 47 [slV (vR l)] [] (.v (slV (wV (pndL l)))) := by
  refine fun_of_vc tabOk mixOk Try.func47 rfl (by rfl) (rs := [.tmp 2]) rfl rfl 52 ?_; rw [Try.ntmps47]
  (conv => whnf); repeat (first | (refine And.intro rfl ?_; conv => whnf) | (refine And.intro (fun _ => ?_) (fun h => Bool.noConfusion h); conv => whnf) | (refine And.intro (fun h => Bool.noConfusion h) (fun _ => ?_); conv => whnf))
  refine vc_loop [0, 2] [] (X := Nat × List Int) (fun x gs => [(4, ATint x.1), (3, .v (.c (.own 46 (gs 46))))]) (fun x gs => [(46, .row (gs 46) 3 1 (wV x.2))]) (pInv l) (fun x => l.length - x.1) _ (Ghost.ownNil 3 46 3 1 rfl (Nat.le_of_ble_eq_true rfl)) (0, []) ⟨by omega, by simp, rfl⟩ ?_ ?_
  · (refine And.intro rfl (And.intro rfl ?_)); (repeat' (first | exact trivial | exact rfl | apply And.intro | (refine congrArg (Value.int .i64) (w64_nat ?_); omega)))
  rintro gs ⟨k, a⟩ hI
  have hk := hI.1
  have ha := hI.2.1
  dsimp only at hk ha ⊢
  (conv => whnf); repeat (first | (refine And.intro rfl ?_; conv => whnf) | (refine And.intro (fun _ => ?_) (fun h => Bool.noConfusion h); conv => whnf) | (refine And.intro (fun h => Bool.noConfusion h) (fun _ => ?_); conv => whnf))
  refine And.intro (fun h1 => ?_) (fun h1 => ?_)
  · have hlt : k < l.length := by have := of_decide_eq_true h1; rw [vLen] at this; omega
    have g1 : Fun Try.prog 60 [slV (((vR l).take ((k : Int)).toNat).drop (Int.toNat 0)), i64V l[k].s] [] (.v (i64V (fFrom (fI l[k].s) 0 (l.take k)))) := by
      rw [vCut]; exact invokedF (l.take k) l[k].s (by rw [List.length_take]; omega)
    have g2 := returnedF l l[k].s hl
    (conv => whnf); repeat (first | (refine And.intro rfl ?_; conv => whnf) | (refine And.intro (fun _ => ?_) (fun h => Bool.noConfusion h); conv => whnf) | (refine And.intro (fun h => Bool.noConfusion h) (fun _ => ?_); conv => whnf))
    repeat' (first | ((refine And.intro (fun h => ?_) (fun h => ?_)) <;> (try simp at h) <;> ((conv => whnf); repeat (first | (refine And.intro rfl ?_; conv => whnf) | (refine And.intro (fun _ => ?_) (fun h => Bool.noConfusion h); conv => whnf) | (refine And.intro (fun h => Bool.noConfusion h) (fun _ => ?_); conv => whnf)))) | (refine ⟨by omega, _, vItem hlt, rfl, ?_⟩; ((conv => whnf); repeat (first | (refine And.intro rfl ?_; conv => whnf) | (refine And.intro (fun _ => ?_) (fun h => Bool.noConfusion h); conv => whnf) | (refine And.intro (fun h => Bool.noConfusion h) (fun _ => ?_); conv => whnf)))) | (refine ⟨vSz l, ?_⟩; ((conv => whnf); repeat (first | (refine And.intro rfl ?_; conv => whnf) | (refine And.intro (fun _ => ?_) (fun h => Bool.noConfusion h); conv => whnf) | (refine And.intro (fun h => Bool.noConfusion h) (fun _ => ?_); conv => whnf)))) | (refine ⟨by omega, by omega, by rw [vLen]; omega, ?_⟩; ((conv => whnf); repeat (first | (refine And.intro rfl ?_; conv => whnf) | (refine And.intro (fun _ => ?_) (fun h => Bool.noConfusion h); conv => whnf) | (refine And.intro (fun h => Bool.noConfusion h) (fun _ => ?_); conv => whnf)))) | (refine ⟨_, _, g1, ?_⟩; ((conv => whnf); repeat (first | (refine And.intro rfl ?_; conv => whnf) | (refine And.intro (fun _ => ?_) (fun h => Bool.noConfusion h); conv => whnf) | (refine And.intro (fun h => Bool.noConfusion h) (fun _ => ?_); conv => whnf)))) | (refine ⟨_, _, g2, ?_⟩; ((conv => whnf); repeat (first | (refine And.intro rfl ?_; conv => whnf) | (refine And.intro (fun _ => ?_) (fun h => Bool.noConfusion h); conv => whnf) | (refine And.intro (fun h => Bool.noConfusion h) (fun _ => ?_); conv => whnf)))) | fail)
    all_goals first
      | (refine ⟨wSz [l[k].s], ?_⟩
         (conv => whnf); repeat (first | (refine And.intro rfl ?_; conv => whnf) | (refine And.intro (fun _ => ?_) (fun h => Bool.noConfusion h); conv => whnf) | (refine And.intro (fun h => Bool.noConfusion h) (fun _ => ?_); conv => whnf))
         refine ⟨bytes_le (by decide) (by simp [wV]; omega), ?_⟩
         (conv => whnf); repeat (first | (refine And.intro rfl ?_; conv => whnf) | (refine And.intro (fun _ => ?_) (fun h => Bool.noConfusion h); conv => whnf) | (refine And.intro (fun h => Bool.noConfusion h) (fun _ => ?_); conv => whnf))
         refine again (k + 1, a ++ [l[k].s]) (pInv_in hI hlt (isB_pos (by simp_all) (by simp_all)) (pnd_pos (by simp_all))) (by dsimp only; omega) ?_
         (refine And.intro rfl (And.intro rfl ?_)); (repeat' (first | exact trivial | exact rfl | apply And.intro | (refine congrArg (Value.int .i64) (w64_nat ?_); omega)))
         all_goals exact congrArg (Blk.row _ _ _) (wSnoc a l[k].s))
      | (refine again (k + 1, a) (pInv_out hI hlt ?_) (by dsimp only; omega) ?_
         · first
             | (refine Or.inl (isB_neg ?_); assumption)
             | (refine Or.inr (pnd_neg ?_); assumption)
             | (refine Or.inl ?_; unfold isB; simp [*]; done)
         · (refine And.intro rfl (And.intro rfl ?_)); (repeat' (first | exact trivial | exact rfl | apply And.intro | (refine congrArg (Value.int .i64) (w64_nat ?_); omega))))
  · have hge : ¬ k < l.length := by have := of_decide_eq_false h1; rw [vLen] at this; omega
    have hfin : pndL l = a := by
      have h3 := hI.2.2
      dsimp only at h3
      rw [List.drop_of_length_le (by omega)] at h3
      rw [h3]; simp [bgo]
    (conv => whnf); repeat (first | (refine And.intro rfl ?_; conv => whnf) | (refine And.intro (fun _ => ?_) (fun h => Bool.noConfusion h); conv => whnf) | (refine And.intro (fun h => Bool.noConfusion h) (fun _ => ?_); conv => whnf))
    refine Exists.intro [] (And.intro List.nodup_nil ?_); ((conv => whnf); repeat (first | (refine And.intro rfl ?_; conv => whnf) | (refine And.intro (fun _ => ?_) (fun h => Bool.noConfusion h); conv => whnf) | (refine And.intro (fun h => Bool.noConfusion h) (fun _ => ?_); conv => whnf)))
    rw [hfin]; rfl

def oInv (l : List Ev) (x : Nat × List Ev) : Prop := x.1 ≤ l.length ∧ x.2.length ≤ x.1 ∧ opsL l = x.2 ++ (bgo (l.take x.1) (l.drop x.1)).map (withR l)
theorem oInv_in {l a : List Ev} {k : Nat} (h : oInv l (k, a)) (hlt : k < l.length) (hb : isB (l.take k) l[k] = true) : oInv l (k + 1, a ++ [withR l l[k]]) := by
  obtain ⟨h1, h2, h3⟩ := h
  dsimp only at h1 h2 h3
  rw [bgo_step hlt, hb, List.map_append] at h3
  exact ⟨hlt, by simp; omega, by rw [h3]; simp⟩
theorem oInv_out {l a : List Ev} {k : Nat} (h : oInv l (k, a)) (hlt : k < l.length) (hb : isB (l.take k) l[k] = false) : oInv l (k + 1, a) := by
  obtain ⟨h1, h2, h3⟩ := h
  dsimp only at h1 h2 h3
  rw [bgo_step hlt, hb] at h3
  exact ⟨hlt, by dsimp only; omega, by rw [h3]; simp⟩
set_option maxRecDepth 100000 in
set_option maxHeartbeats 16000000 in
theorem opsF' (l : List Ev) (hl : l.length ≤ 1000000) : Fun Try.prog 49 [slV (vR l)] [] (.v (slV (vR (opsL l)))) := by
  refine fun_of_vc tabOk mixOk Try.func49 rfl (by rfl) (rs := [.tmp 2]) rfl rfl 56 ?_; rw [Try.ntmps49]
  (conv => whnf); repeat (first | (refine And.intro rfl ?_; conv => whnf) | (refine And.intro (fun _ => ?_) (fun h => Bool.noConfusion h); conv => whnf) | (refine And.intro (fun h => Bool.noConfusion h) (fun _ => ?_); conv => whnf))
  refine vc_loop [0, 2] [] (X := Nat × List Ev) (fun x gs => [(4, ATint x.1), (3, .v (.c (.own 50 (gs 50))))]) (fun x gs => [(50, .row (gs 50) 38 8 (vR x.2))]) (oInv l) (fun x => l.length - x.1) _ (Ghost.ownNil 3 50 38 8 rfl (Nat.le_of_ble_eq_true rfl)) (0, []) ⟨by omega, by simp, rfl⟩ ?_ ?_
  · (refine And.intro rfl (And.intro rfl ?_)); (repeat' (first | exact trivial | exact rfl | apply And.intro | (refine congrArg (Value.int .i64) (w64_nat ?_); omega)))
  rintro gs ⟨k, a⟩ hI
  have hk := hI.1
  have ha := hI.2.1
  dsimp only at hk ha ⊢
  (conv => whnf); repeat (first | (refine And.intro rfl ?_; conv => whnf) | (refine And.intro (fun _ => ?_) (fun h => Bool.noConfusion h); conv => whnf) | (refine And.intro (fun h => Bool.noConfusion h) (fun _ => ?_); conv => whnf))
  refine And.intro (fun h1 => ?_) (fun h1 => ?_)
  · have hlt : k < l.length := by have := of_decide_eq_true h1; rw [vLen] at this; omega
    have g1 : Fun Try.prog 60 [slV (((vR l).take ((k : Int)).toNat).drop (Int.toNat 0)), i64V l[k].s] [] (.v (i64V (fFrom (fI l[k].s) 0 (l.take k)))) := by
      rw [vCut]; exact invokedF (l.take k) l[k].s (by rw [List.length_take]; omega)
    have g2 := returnedF l l[k].s hl
    rcases fFrom_spec (fR l[k].s) l 0 with ⟨r1, r2, _⟩ | ⟨m, hm, r1, r2, _⟩
    · have hw : withR l l[k] = l[k] := by unfold withR; rw [r2]
      rw [r1] at g2
      have o1 := @oInv_in l a k hI hlt
      rw [hw] at o1
      (conv => whnf); repeat (first | (refine And.intro rfl ?_; conv => whnf) | (refine And.intro (fun _ => ?_) (fun h => Bool.noConfusion h); conv => whnf) | (refine And.intro (fun h => Bool.noConfusion h) (fun _ => ?_); conv => whnf))
      repeat' (first | ((refine And.intro (fun h => ?_) (fun h => ?_)) <;> (try simp at h) <;> ((conv => whnf); repeat (first | (refine And.intro rfl ?_; conv => whnf) | (refine And.intro (fun _ => ?_) (fun h => Bool.noConfusion h); conv => whnf) | (refine And.intro (fun h => Bool.noConfusion h) (fun _ => ?_); conv => whnf)))) | (refine ⟨by omega, _, vItem hlt, rfl, ?_⟩; ((conv => whnf); repeat (first | (refine And.intro rfl ?_; conv => whnf) | (refine And.intro (fun _ => ?_) (fun h => Bool.noConfusion h); conv => whnf) | (refine And.intro (fun h => Bool.noConfusion h) (fun _ => ?_); conv => whnf)))) | (refine ⟨vSz l, ?_⟩; ((conv => whnf); repeat (first | (refine And.intro rfl ?_; conv => whnf) | (refine And.intro (fun _ => ?_) (fun h => Bool.noConfusion h); conv => whnf) | (refine And.intro (fun h => Bool.noConfusion h) (fun _ => ?_); conv => whnf)))) | (refine ⟨by omega, by omega, by rw [vLen]; omega, ?_⟩; ((conv => whnf); repeat (first | (refine And.intro rfl ?_; conv => whnf) | (refine And.intro (fun _ => ?_) (fun h => Bool.noConfusion h); conv => whnf) | (refine And.intro (fun h => Bool.noConfusion h) (fun _ => ?_); conv => whnf)))) | (refine ⟨_, _, g1, ?_⟩; ((conv => whnf); repeat (first | (refine And.intro rfl ?_; conv => whnf) | (refine And.intro (fun _ => ?_) (fun h => Bool.noConfusion h); conv => whnf) | (refine And.intro (fun h => Bool.noConfusion h) (fun _ => ?_); conv => whnf)))) | (refine ⟨_, _, g2, ?_⟩; ((conv => whnf); repeat (first | (refine And.intro rfl ?_; conv => whnf) | (refine And.intro (fun _ => ?_) (fun h => Bool.noConfusion h); conv => whnf) | (refine And.intro (fun h => Bool.noConfusion h) (fun _ => ?_); conv => whnf)))) | fail)
      all_goals first
        | (refine ⟨vSz [l[k]], ?_⟩
           (conv => whnf); repeat (first | (refine And.intro rfl ?_; conv => whnf) | (refine And.intro (fun _ => ?_) (fun h => Bool.noConfusion h); conv => whnf) | (refine And.intro (fun h => Bool.noConfusion h) (fun _ => ?_); conv => whnf))
           refine ⟨bytes_le (by decide) (by simp [vR]; omega), ?_⟩
           (conv => whnf); repeat (first | (refine And.intro rfl ?_; conv => whnf) | (refine And.intro (fun _ => ?_) (fun h => Bool.noConfusion h); conv => whnf) | (refine And.intro (fun h => Bool.noConfusion h) (fun _ => ?_); conv => whnf))
           refine again (k + 1, a ++ [l[k]]) (o1 (isB_pos (by simp_all) (by simp_all))) (by dsimp only; omega) ?_
           (refine And.intro rfl (And.intro rfl ?_)); (repeat' (first | exact trivial | exact rfl | apply And.intro | (refine congrArg (Value.int .i64) (w64_nat ?_); omega)))
           all_goals exact congrArg (Blk.row _ _ _) (vSnoc a l[k]))
        | (refine again (k + 1, a) (oInv_out hI hlt ?_) (by dsimp only; omega) ?_
           · first
               | (refine isB_neg ?_; assumption)
               | (unfold isB; simp [*]; done)
           · (refine And.intro rfl (And.intro rfl ?_)); (repeat' (first | exact trivial | exact rfl | apply And.intro | (refine congrArg (Value.int .i64) (w64_nat ?_); omega))))
    · have hw : withR l l[k] = { l[k] with r := true, e := l[m].e, o := l[m].o } := by unfold withR; rw [r2]
      rw [Nat.zero_add] at r1
      rw [r1] at g2
      have o1 := @oInv_in l a k hI hlt
      rw [hw] at o1
      (conv => whnf); repeat (first | (refine And.intro rfl ?_; conv => whnf) | (refine And.intro (fun _ => ?_) (fun h => Bool.noConfusion h); conv => whnf) | (refine And.intro (fun h => Bool.noConfusion h) (fun _ => ?_); conv => whnf))
      repeat' (first | ((refine And.intro (fun h => ?_) (fun h => ?_)) <;> (try simp at h) <;> ((conv => whnf); repeat (first | (refine And.intro rfl ?_; conv => whnf) | (refine And.intro (fun _ => ?_) (fun h => Bool.noConfusion h); conv => whnf) | (refine And.intro (fun h => Bool.noConfusion h) (fun _ => ?_); conv => whnf)))) | (refine ⟨by omega, _, vItem hlt, rfl, ?_⟩; ((conv => whnf); repeat (first | (refine And.intro rfl ?_; conv => whnf) | (refine And.intro (fun _ => ?_) (fun h => Bool.noConfusion h); conv => whnf) | (refine And.intro (fun h => Bool.noConfusion h) (fun _ => ?_); conv => whnf)))) | (refine ⟨by omega, _, vItem hm, rfl, ?_⟩; ((conv => whnf); repeat (first | (refine And.intro rfl ?_; conv => whnf) | (refine And.intro (fun _ => ?_) (fun h => Bool.noConfusion h); conv => whnf) | (refine And.intro (fun h => Bool.noConfusion h) (fun _ => ?_); conv => whnf)))) | (refine ⟨vSz l, ?_⟩; ((conv => whnf); repeat (first | (refine And.intro rfl ?_; conv => whnf) | (refine And.intro (fun _ => ?_) (fun h => Bool.noConfusion h); conv => whnf) | (refine And.intro (fun h => Bool.noConfusion h) (fun _ => ?_); conv => whnf)))) | (refine ⟨by omega, by omega, by rw [vLen]; omega, ?_⟩; ((conv => whnf); repeat (first | (refine And.intro rfl ?_; conv => whnf) | (refine And.intro (fun _ => ?_) (fun h => Bool.noConfusion h); conv => whnf) | (refine And.intro (fun h => Bool.noConfusion h) (fun _ => ?_); conv => whnf)))) | (refine ⟨_, _, g1, ?_⟩; ((conv => whnf); repeat (first | (refine And.intro rfl ?_; conv => whnf) | (refine And.intro (fun _ => ?_) (fun h => Bool.noConfusion h); conv => whnf) | (refine And.intro (fun h => Bool.noConfusion h) (fun _ => ?_); conv => whnf)))) | (refine ⟨_, _, g2, ?_⟩; ((conv => whnf); repeat (first | (refine And.intro rfl ?_; conv => whnf) | (refine And.intro (fun _ => ?_) (fun h => Bool.noConfusion h); conv => whnf) | (refine And.intro (fun h => Bool.noConfusion h) (fun _ => ?_); conv => whnf)))) | fail)
      all_goals first
        | (exfalso; omega)
        | (refine ⟨vSz [{ l[k] with r := true, e := l[m].e, o := l[m].o }], ?_⟩
           (conv => whnf); repeat (first | (refine And.intro rfl ?_; conv => whnf) | (refine And.intro (fun _ => ?_) (fun h => Bool.noConfusion h); conv => whnf) | (refine And.intro (fun h => Bool.noConfusion h) (fun _ => ?_); conv => whnf))
           refine ⟨bytes_le (by decide) (by simp [vR]; omega), ?_⟩
           (conv => whnf); repeat (first | (refine And.intro rfl ?_; conv => whnf) | (refine And.intro (fun _ => ?_) (fun h => Bool.noConfusion h); conv => whnf) | (refine And.intro (fun h => Bool.noConfusion h) (fun _ => ?_); conv => whnf))
           refine again (k + 1, a ++ [{ l[k] with r := true, e := l[m].e, o := l[m].o }]) (o1 (isB_pos (by simp_all) (by simp_all))) (by dsimp only; omega) ?_
           (refine And.intro rfl (And.intro rfl ?_)); (repeat' (first | exact trivial | exact rfl | apply And.intro | (refine congrArg (Value.int .i64) (w64_nat ?_); omega)))
           all_goals exact congrArg (Blk.row _ _ _) (vSnoc a { l[k] with r := true, e := l[m].e, o := l[m].o }))
        | (refine again (k + 1, a) (oInv_out hI hlt ?_) (by dsimp only; omega) ?_
           · first
               | (refine isB_neg ?_; assumption)
               | (unfold isB; simp [*]; done)
           · (refine And.intro rfl (And.intro rfl ?_)); (repeat' (first | exact trivial | exact rfl | apply And.intro | (refine congrArg (Value.int .i64) (w64_nat ?_); omega))))
  · have hge : ¬ k < l.length := by have := of_decide_eq_false h1; rw [vLen] at this; omega
    have hfin : opsL l = a := by
      have h3 := hI.2.2
      dsimp only at h3
      rw [List.drop_of_length_le (by omega)] at h3
      rw [h3]; simp [bgo]
    (conv => whnf); repeat (first | (refine And.intro rfl ?_; conv => whnf) | (refine And.intro (fun _ => ?_) (fun h => Bool.noConfusion h); conv => whnf) | (refine And.intro (fun h => Bool.noConfusion h) (fun _ => ?_); conv => whnf))
    refine Exists.intro [] (And.intro List.nodup_nil ?_); ((conv => whnf); repeat (first | (refine And.intro rfl ?_; conv => whnf) | (refine And.intro (fun _ => ?_) (fun h => Bool.noConfusion h); conv => whnf) | (refine And.intro (fun h => Bool.noConfusion h) (fun _ => ?_); conv => whnf)))
    rw [hfin]; rfl

def rInv (b : Int) (l : List Ev) (x : Nat × List Ev) : Prop := x.1 ≤ l.length ∧ x.2.length ≤ x.1 ∧ l.filter (keepE b) = x.2 ++ (l.drop x.1).filter (keepE b)
theorem rInv_in {b : Int} {l a : List Ev} {k : Nat} (h : rInv b l (k, a)) (hlt : k < l.length) (hb : keepE b l[k] = true) : rInv b l (k + 1, a ++ [l[k]]) := by
  obtain ⟨h1, h2, h3⟩ := h
  dsimp only at h1 h2 h3
  rw [List.drop_eq_getElem_cons hlt, List.filter_cons_of_pos hb] at h3
  exact ⟨hlt, by simp; omega, by rw [h3]; simp⟩
theorem rInv_out {b : Int} {l a : List Ev} {k : Nat} (h : rInv b l (k, a)) (hlt : k < l.length) (hb : keepE b l[k] = false) : rInv b l (k + 1, a) := by
  obtain ⟨h1, h2, h3⟩ := h
  dsimp only at h1 h2 h3
  rw [List.drop_eq_getElem_cons hlt, List.filter_cons_of_neg (by simp [hb])] at h3
  exact ⟨hlt, by dsimp only; omega, h3⟩
set_option maxRecDepth 100000 in
set_option maxHeartbeats 16000000 in
theorem restrictF' (l : List Ev) (b : Int) (hl : l.length ≤ 1000000) : Fun Try.prog 50 [slV (vR l), i64V b] [] (.v (slV (vR (l.filter (keepE b))))) := by
  refine fun_of_vc tabOk mixOk Try.func50 rfl (by rfl) (rs := [.tmp 4]) rfl rfl 52 ?_; rw [Try.ntmps50]
  (conv => whnf); repeat (first | (refine And.intro rfl ?_; conv => whnf) | (refine And.intro (fun _ => ?_) (fun h => Bool.noConfusion h); conv => whnf) | (refine And.intro (fun h => Bool.noConfusion h) (fun _ => ?_); conv => whnf))
  refine vc_loop [0, 1, 4] [] (X := Nat × List Ev) (fun x gs => [(6, ATint x.1), (5, .v (.c (.own 46 (gs 46))))]) (fun x gs => [(46, .row (gs 46) 38 8 (vR x.2))]) (rInv b l) (fun x => l.length - x.1) _ (Ghost.ownNil 5 46 38 8 rfl (Nat.le_of_ble_eq_true rfl)) (0, []) ⟨by omega, by simp, rfl⟩ ?_ ?_
  · (refine And.intro rfl (And.intro rfl ?_)); (repeat' (first | exact trivial | exact rfl | apply And.intro | (refine congrArg (Value.int .i64) (w64_nat ?_); omega)))
  rintro gs ⟨k, a⟩ hI
  have hk := hI.1
  have ha := hI.2.1
  dsimp only at hk ha ⊢
  (conv => whnf); repeat (first | (refine And.intro rfl ?_; conv => whnf) | (refine And.intro (fun _ => ?_) (fun h => Bool.noConfusion h); conv => whnf) | (refine And.intro (fun h => Bool.noConfusion h) (fun _ => ?_); conv => whnf))
  refine And.intro (fun h1 => ?_) (fun h1 => ?_)
  · have hlt : k < l.length := by have := of_decide_eq_true h1; rw [vLen] at this; omega
    (conv => whnf); repeat (first | (refine And.intro rfl ?_; conv => whnf) | (refine And.intro (fun _ => ?_) (fun h => Bool.noConfusion h); conv => whnf) | (refine And.intro (fun h => Bool.noConfusion h) (fun _ => ?_); conv => whnf))
    repeat' (first | ((refine And.intro (fun h => ?_) (fun h => ?_)) <;> (try simp at h) <;> ((conv => whnf); repeat (first | (refine And.intro rfl ?_; conv => whnf) | (refine And.intro (fun _ => ?_) (fun h => Bool.noConfusion h); conv => whnf) | (refine And.intro (fun h => Bool.noConfusion h) (fun _ => ?_); conv => whnf)))) | (refine ⟨by omega, _, vItem hlt, rfl, ?_⟩; ((conv => whnf); repeat (first | (refine And.intro rfl ?_; conv => whnf) | (refine And.intro (fun _ => ?_) (fun h => Bool.noConfusion h); conv => whnf) | (refine And.intro (fun h => Bool.noConfusion h) (fun _ => ?_); conv => whnf)))) | (refine ⟨vSz [l[k]], ?_⟩; ((conv => whnf); repeat (first | (refine And.intro rfl ?_; conv => whnf) | (refine And.intro (fun _ => ?_) (fun h => Bool.noConfusion h); conv => whnf) | (refine And.intro (fun h => Bool.noConfusion h) (fun _ => ?_); conv => whnf)))) | (refine ⟨bytes_le (by decide) (by simp [vR]; omega), ?_⟩; ((conv => whnf); repeat (first | (refine And.intro rfl ?_; conv => whnf) | (refine And.intro (fun _ => ?_) (fun h => Bool.noConfusion h); conv => whnf) | (refine And.intro (fun h => Bool.noConfusion h) (fun _ => ?_); conv => whnf)))) | fail)
    all_goals first
      | (refine again (k + 1, a ++ [l[k]]) (rInv_in hI hlt (by simp_all [keepE, outE])) (by dsimp only; omega) ?_
         (refine And.intro rfl (And.intro rfl ?_)); (repeat' (first | exact trivial | exact rfl | apply And.intro | (refine congrArg (Value.int .i64) (w64_nat ?_); omega)))
         all_goals exact congrArg (Blk.row _ _ _) (vSnoc a l[k]))
      | (refine again (k + 1, a) (rInv_out hI hlt ?_) (by dsimp only; omega) ?_
         · first
             | (simp_all [keepE, outE]; done)
             | (simp [keepE, outE]; omega)
         · (refine And.intro rfl (And.intro rfl ?_)); (repeat' (first | exact trivial | exact rfl | apply And.intro | (refine congrArg (Value.int .i64) (w64_nat ?_); omega))))
  · have hge : ¬ k < l.length := by have := of_decide_eq_false h1; rw [vLen] at this; omega
    have hfin : l.filter (keepE b) = a := by
      have h3 := hI.2.2
      dsimp only at h3
      rw [List.drop_of_length_le (by omega)] at h3
      rw [h3]; simp
    (conv => whnf); repeat (first | (refine And.intro rfl ?_; conv => whnf) | (refine And.intro (fun _ => ?_) (fun h => Bool.noConfusion h); conv => whnf) | (refine And.intro (fun h => Bool.noConfusion h) (fun _ => ?_); conv => whnf))
    refine Exists.intro [] (And.intro List.nodup_nil ?_); ((conv => whnf); repeat (first | (refine And.intro rfl ?_; conv => whnf) | (refine And.intro (fun _ => ?_) (fun h => Bool.noConfusion h); conv => whnf) | (refine And.intro (fun h => Bool.noConfusion h) (fun _ => ?_); conv => whnf)))
    rw [hfin]; rfl

def vEq (a b : Ev) : Bool := (a.r == b.r && (a.q == b.q && (a.s == b.s && ((a.k == b.k && (a.b == b.b && (a.d.toList == b.d.toList && true))) && ((a.e == b.e && (a.o.toList == b.o.toList && true)) && true)))))
theorem vEq_self (a : Ev) : vEq a a = true := by simp [vEq]
set_option maxRecDepth 100000 in
set_option maxHeartbeats 16000000 in
theorem vSameF (l : List Ev) (hl : l.length ≤ 1000000) : Fun Try.prog 48 [slV (vR l), slV (vR l)] [] (ATbool true) := by
  refine fun_of_vc tabOk mixOk Try.func48 rfl (by rfl) (rs := [.tmp 4]) rfl rfl 30 ?_; rw [Try.ntmps48]
  (conv => whnf); repeat (first | (refine And.intro rfl ?_; conv => whnf) | (refine And.intro (fun _ => ?_) (fun h => Bool.noConfusion h); conv => whnf) | (refine And.intro (fun h => Bool.noConfusion h) (fun _ => ?_); conv => whnf))
  refine And.intro (fun h1 => by simp at h1) (fun _ => ?_)
  (conv => whnf); repeat (first | (refine And.intro rfl ?_; conv => whnf) | (refine And.intro (fun _ => ?_) (fun h => Bool.noConfusion h); conv => whnf) | (refine And.intro (fun h => Bool.noConfusion h) (fun _ => ?_); conv => whnf))
  refine vc_loop [0, 1] [] (X := Nat) (fun k gs => [(5, ATint k)]) (fun _ _ => []) (fun k => k ≤ l.length) (fun k => l.length - k) _ (Ghost.refl _) 0 (by omega) ?_ ?_
  · (refine And.intro rfl (And.intro rfl ?_)); (repeat' (first | exact trivial | exact rfl | apply And.intro | (refine congrArg (Value.int .i64) (w64_nat ?_); omega)))
  rintro gs k hk
  (conv => whnf); repeat (first | (refine And.intro rfl ?_; conv => whnf) | (refine And.intro (fun _ => ?_) (fun h => Bool.noConfusion h); conv => whnf) | (refine And.intro (fun h => Bool.noConfusion h) (fun _ => ?_); conv => whnf))
  refine And.intro (fun h4 => ?_) (fun h4 => ?_)
  · have hlt : k < l.length := by have := of_decide_eq_true h4; rw [vLen] at this; omega
    (conv => whnf); repeat (first | (refine And.intro rfl ?_; conv => whnf) | (refine And.intro (fun _ => ?_) (fun h => Bool.noConfusion h); conv => whnf) | (refine And.intro (fun h => Bool.noConfusion h) (fun _ => ?_); conv => whnf))
    refine ⟨by omega, _, vItem hlt, rfl, ?_⟩
    (conv => whnf); repeat (first | (refine And.intro rfl ?_; conv => whnf) | (refine And.intro (fun _ => ?_) (fun h => Bool.noConfusion h); conv => whnf) | (refine And.intro (fun h => Bool.noConfusion h) (fun _ => ?_); conv => whnf))
    refine ⟨by omega, _, vItem hlt, rfl, ?_⟩
    (conv => whnf); repeat (first | (refine And.intro rfl ?_; conv => whnf) | (refine And.intro (fun _ => ?_) (fun h => Bool.noConfusion h); conv => whnf) | (refine And.intro (fun h => Bool.noConfusion h) (fun _ => ?_); conv => whnf))
    refine And.intro (fun h5 => absurd h5 (by simp)) (fun _ => ?_)
    (conv => whnf); repeat (first | (refine And.intro rfl ?_; conv => whnf) | (refine And.intro (fun _ => ?_) (fun h => Bool.noConfusion h); conv => whnf) | (refine And.intro (fun h => Bool.noConfusion h) (fun _ => ?_); conv => whnf))
    refine again (k + 1) hlt (by omega) ?_
    (refine And.intro rfl (And.intro rfl ?_)); (repeat' (first | exact trivial | exact rfl | apply And.intro | (refine congrArg (Value.int .i64) (w64_nat ?_); omega)))
  · (conv => whnf); repeat (first | (refine And.intro rfl ?_; conv => whnf) | (refine And.intro (fun _ => ?_) (fun h => Bool.noConfusion h); conv => whnf) | (refine And.intro (fun h => Bool.noConfusion h) (fun _ => ?_); conv => whnf))
    refine Exists.intro [] (And.intro List.nodup_nil ?_); ((conv => whnf); repeat (first | (refine And.intro rfl ?_; conv => whnf) | (refine And.intro (fun _ => ?_) (fun h => Bool.noConfusion h); conv => whnf) | (refine And.intro (fun h => Bool.noConfusion h) (fun _ => ?_); conv => whnf)))
    rfl
end Go.Proofs.Ytmooflgfcebmaaa.Ab
