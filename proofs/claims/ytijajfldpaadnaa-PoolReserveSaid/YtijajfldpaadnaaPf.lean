/- The pool of the document: valid ones. -/
import Derived.Test.YtijajfldpaadnaaPe
namespace Go.Proofs.Ytijajfldpaadnaa.Ab
set_option linter.unusedVariables false
set_option linter.unusedSimpArgs false
open Go.RowKit

set_option maxRecDepth 100000 in
set_option maxHeartbeats 16000000 in
theorem pvalidF' (p : Po) (c : Cf) (hf : p.f.length ≤ 1000000) : Fun Try.prog 101 [poV p, cfV c] [] (ATbool (pvalid p c)) := by
  have hc := cfChkF' c
  have hd := fun x => isDataF' c x
  have hh := fun x => hasF' p.f x hf
  by_cases h0 : cfChk c = 0
  rotate_left
  · rw [pvalid_no h0]
    generalize cfChk c = R at hc h0
    refine fun_of_vc tabOk mixOk Try.func101 rfl (by rfl) (rs := [.tmp 4]) rfl rfl 87 ?_; rw [Try.ntmps101]
    (conv => whnf); repeat (first | (refine And.intro (DrawOk.mk (by first | (simp only [List.map_cons, List.map_nil, List.nil_append, List.cons_append, List.append_nil, updsL, List.length_cons, List.length_nil]; decide +kernel) | exact rfl)) ?_; conv => whnf) | (refine And.intro rfl ?_; conv => whnf) | (refine And.intro (fun _ => ?_) (fun h => Bool.noConfusion h); conv => whnf) | (refine And.intro (fun h => Bool.noConfusion h) (fun _ => ?_); conv => whnf))
    refine ⟨_, _, hc, ?_⟩
    (conv => whnf); repeat (first | (refine And.intro (DrawOk.mk (by first | (simp only [List.map_cons, List.map_nil, List.nil_append, List.cons_append, List.append_nil, updsL, List.length_cons, List.length_nil]; decide +kernel) | exact rfl)) ?_; conv => whnf) | (refine And.intro rfl ?_; conv => whnf) | (refine And.intro (fun _ => ?_) (fun h => Bool.noConfusion h); conv => whnf) | (refine And.intro (fun h => Bool.noConfusion h) (fun _ => ?_); conv => whnf))
    refine And.intro (fun h => ?_) (fun h => absurd h (by simp [h0]))
    (conv => whnf); repeat (first | (refine And.intro (DrawOk.mk (by first | (simp only [List.map_cons, List.map_nil, List.nil_append, List.cons_append, List.append_nil, updsL, List.length_cons, List.length_nil]; decide +kernel) | exact rfl)) ?_; conv => whnf) | (refine And.intro rfl ?_; conv => whnf) | (refine And.intro (fun _ => ?_) (fun h => Bool.noConfusion h); conv => whnf) | (refine And.intro (fun h => Bool.noConfusion h) (fun _ => ?_); conv => whnf))
    refine Exists.intro [] (And.intro List.nodup_nil ?_); ((conv => whnf); repeat (first | (refine And.intro (DrawOk.mk (by first | (simp only [List.map_cons, List.map_nil, List.nil_append, List.cons_append, List.append_nil, updsL, List.length_cons, List.length_nil]; decide +kernel) | exact rfl)) ?_; conv => whnf) | (refine And.intro rfl ?_; conv => whnf) | (refine And.intro (fun _ => ?_) (fun h => Bool.noConfusion h); conv => whnf) | (refine And.intro (fun h => Bool.noConfusion h) (fun _ => ?_); conv => whnf)))
    rfl
  rw [pvalid_yes h0]
  rw [h0] at hc
  clear h0
  obtain ⟨f, ho, cl⟩ := p
  dsimp only at hf hh ⊢
  refine fun_of_vc tabOk mixOk Try.func101 rfl (by rfl) (rs := [.tmp 4]) rfl rfl 87 ?_; rw [Try.ntmps101]
  (conv => whnf); repeat (first | (refine And.intro (DrawOk.mk (by first | (simp only [List.map_cons, List.map_nil, List.nil_append, List.cons_append, List.append_nil, updsL, List.length_cons, List.length_nil]; decide +kernel) | exact rfl)) ?_; conv => whnf) | (refine And.intro rfl ?_; conv => whnf) | (refine And.intro (fun _ => ?_) (fun h => Bool.noConfusion h); conv => whnf) | (refine And.intro (fun h => Bool.noConfusion h) (fun _ => ?_); conv => whnf))
  refine ⟨_, _, hc, ?_⟩
  (conv => whnf); repeat (first | (refine And.intro (DrawOk.mk (by first | (simp only [List.map_cons, List.map_nil, List.nil_append, List.cons_append, List.append_nil, updsL, List.length_cons, List.length_nil]; decide +kernel) | exact rfl)) ?_; conv => whnf) | (refine And.intro rfl ?_; conv => whnf) | (refine And.intro (fun _ => ?_) (fun h => Bool.noConfusion h); conv => whnf) | (refine And.intro (fun h => Bool.noConfusion h) (fun _ => ?_); conv => whnf))
  refine vc_loop [2, 3] [2, 3] (X := Nat) (fun k gs => [(5, ATint k)]) (fun _ _ => []) (fun k => k ≤ f.length ∧ frGo c none f = frGo c (prv f k) (f.drop k)) (fun k => f.length - k) _ (Ghost.refl _) 0 ⟨by omega, rfl⟩ ?_ ?_
  · (refine And.intro rfl (And.intro rfl ?_)); (repeat' (first | exact trivial | exact rfl | apply And.intro | (refine congrArg (Value.int .i64) (w64_nat ?_); omega)))
  rintro gs k ⟨hk, ha⟩
  by_cases hlt : k < f.length
  · rw [frGo_step hlt] at ha
    have hdk := hd f[k]
    cases k with
    | zero =>
      cases hb : isData c f[0]
      all_goals
        rw [hb] at hdk ha
        (conv => whnf); repeat (first | (refine And.intro (DrawOk.mk (by first | (simp only [List.map_cons, List.map_nil, List.nil_append, List.cons_append, List.append_nil, updsL, List.length_cons, List.length_nil]; decide +kernel) | exact rfl)) ?_; conv => whnf) | (refine And.intro rfl ?_; conv => whnf) | (refine And.intro (fun _ => ?_) (fun h => Bool.noConfusion h); conv => whnf) | (refine And.intro (fun h => Bool.noConfusion h) (fun _ => ?_); conv => whnf))
        refine And.intro (fun _ => ?_) (fun h => by have := of_decide_eq_false h; rw [pwLen] at this; dsimp only at this; omega)
        (conv => whnf); repeat (first | (refine And.intro (DrawOk.mk (by first | (simp only [List.map_cons, List.map_nil, List.nil_append, List.cons_append, List.append_nil, updsL, List.length_cons, List.length_nil]; decide +kernel) | exact rfl)) ?_; conv => whnf) | (refine And.intro rfl ?_; conv => whnf) | (refine And.intro (fun _ => ?_) (fun h => Bool.noConfusion h); conv => whnf) | (refine And.intro (fun h => Bool.noConfusion h) (fun _ => ?_); conv => whnf))
        refine ⟨by omega, _, wItem hlt, rfl, ?_⟩
        (conv => whnf); repeat (first | (refine And.intro (DrawOk.mk (by first | (simp only [List.map_cons, List.map_nil, List.nil_append, List.cons_append, List.append_nil, updsL, List.length_cons, List.length_nil]; decide +kernel) | exact rfl)) ?_; conv => whnf) | (refine And.intro rfl ?_; conv => whnf) | (refine And.intro (fun _ => ?_) (fun h => Bool.noConfusion h); conv => whnf) | (refine And.intro (fun h => Bool.noConfusion h) (fun _ => ?_); conv => whnf))
        refine ⟨_, _, hdk, ?_⟩
        (conv => whnf); repeat (first | (refine And.intro (DrawOk.mk (by first | (simp only [List.map_cons, List.map_nil, List.nil_append, List.cons_append, List.append_nil, updsL, List.length_cons, List.length_nil]; decide +kernel) | exact rfl)) ?_; conv => whnf) | (refine And.intro rfl ?_; conv => whnf) | (refine And.intro (fun _ => ?_) (fun h => Bool.noConfusion h); conv => whnf) | (refine And.intro (fun h => Bool.noConfusion h) (fun _ => ?_); conv => whnf))
      · refine Exists.intro [] (And.intro List.nodup_nil ?_); ((conv => whnf); repeat (first | (refine And.intro (DrawOk.mk (by first | (simp only [List.map_cons, List.map_nil, List.nil_append, List.cons_append, List.append_nil, updsL, List.length_cons, List.length_nil]; decide +kernel) | exact rfl)) ?_; conv => whnf) | (refine And.intro rfl ?_; conv => whnf) | (refine And.intro (fun _ => ?_) (fun h => Bool.noConfusion h); conv => whnf) | (refine And.intro (fun h => Bool.noConfusion h) (fun _ => ?_); conv => whnf)))
        rw [ha]; rfl
      try
        refine And.intro (fun h => by exfalso; have := of_decide_eq_true h; omega) (fun _ => ?_)
        (conv => whnf); repeat (first | (refine And.intro (DrawOk.mk (by first | (simp only [List.map_cons, List.map_nil, List.nil_append, List.cons_append, List.append_nil, updsL, List.length_cons, List.length_nil]; decide +kernel) | exact rfl)) ?_; conv => whnf) | (refine And.intro rfl ?_; conv => whnf) | (refine And.intro (fun _ => ?_) (fun h => Bool.noConfusion h); conv => whnf) | (refine And.intro (fun h => Bool.noConfusion h) (fun _ => ?_); conv => whnf))
      refine again (0 + 1) ⟨hlt, ?_⟩ (by omega) ?_
      · rw [ha]; rfl
      · (refine And.intro rfl (And.intro rfl ?_)); (repeat' (first | exact trivial | exact rfl | apply And.intro | (refine congrArg (Value.int .i64) (w64_nat ?_); omega)))
    | succ k =>
      have hw : iwrap .i64 (((k + 1 : Nat) : Int) - 1) = (k : Int) := (w64_in (by simp only [Int.natCast_add]; omega)).trans (by omega)
      have hi0 : (0 : Int) ≤ iwrap .i64 (((k + 1 : Nat) : Int) - 1) := by rw [hw]; omega
      have hit : (wV f)[(iwrap .i64 (((k + 1 : Nat) : Int) - 1)).toNat]? = some [.sc (.int .i64 (f[k]'(by omega)))] := by rw [hw]; exact wItem (by omega)
      have hp : prv f (k + 1) = some (f[k]'(by omega)) := by rw [prv, List.getElem?_eq_getElem (by omega)]
      rw [hp] at ha
      dsimp only at ha
      cases hb : isData c f[k + 1]
      all_goals
        rw [hb] at hdk ha
        (conv => whnf); repeat (first | (refine And.intro (DrawOk.mk (by first | (simp only [List.map_cons, List.map_nil, List.nil_append, List.cons_append, List.append_nil, updsL, List.length_cons, List.length_nil]; decide +kernel) | exact rfl)) ?_; conv => whnf) | (refine And.intro rfl ?_; conv => whnf) | (refine And.intro (fun _ => ?_) (fun h => Bool.noConfusion h); conv => whnf) | (refine And.intro (fun h => Bool.noConfusion h) (fun _ => ?_); conv => whnf))
        refine And.intro (fun _ => ?_) (fun h => by have := of_decide_eq_false h; rw [pwLen] at this; dsimp only at this; omega)
        (conv => whnf); repeat (first | (refine And.intro (DrawOk.mk (by first | (simp only [List.map_cons, List.map_nil, List.nil_append, List.cons_append, List.append_nil, updsL, List.length_cons, List.length_nil]; decide +kernel) | exact rfl)) ?_; conv => whnf) | (refine And.intro rfl ?_; conv => whnf) | (refine And.intro (fun _ => ?_) (fun h => Bool.noConfusion h); conv => whnf) | (refine And.intro (fun h => Bool.noConfusion h) (fun _ => ?_); conv => whnf))
        refine ⟨by omega, _, wItem hlt, rfl, ?_⟩
        (conv => whnf); repeat (first | (refine And.intro (DrawOk.mk (by first | (simp only [List.map_cons, List.map_nil, List.nil_append, List.cons_append, List.append_nil, updsL, List.length_cons, List.length_nil]; decide +kernel) | exact rfl)) ?_; conv => whnf) | (refine And.intro rfl ?_; conv => whnf) | (refine And.intro (fun _ => ?_) (fun h => Bool.noConfusion h); conv => whnf) | (refine And.intro (fun h => Bool.noConfusion h) (fun _ => ?_); conv => whnf))
        refine ⟨_, _, hdk, ?_⟩
        (conv => whnf); repeat (first | (refine And.intro (DrawOk.mk (by first | (simp only [List.map_cons, List.map_nil, List.nil_append, List.cons_append, List.append_nil, updsL, List.length_cons, List.length_nil]; decide +kernel) | exact rfl)) ?_; conv => whnf) | (refine And.intro rfl ?_; conv => whnf) | (refine And.intro (fun _ => ?_) (fun h => Bool.noConfusion h); conv => whnf) | (refine And.intro (fun h => Bool.noConfusion h) (fun _ => ?_); conv => whnf))
      · refine Exists.intro [] (And.intro List.nodup_nil ?_); ((conv => whnf); repeat (first | (refine And.intro (DrawOk.mk (by first | (simp only [List.map_cons, List.map_nil, List.nil_append, List.cons_append, List.append_nil, updsL, List.length_cons, List.length_nil]; decide +kernel) | exact rfl)) ?_; conv => whnf) | (refine And.intro rfl ?_; conv => whnf) | (refine And.intro (fun _ => ?_) (fun h => Bool.noConfusion h); conv => whnf) | (refine And.intro (fun h => Bool.noConfusion h) (fun _ => ?_); conv => whnf)))
        rw [ha]; rfl
      refine And.intro (fun _ => ?_) (fun h => by exfalso; have := of_decide_eq_false h; omega)
      (conv => whnf); repeat (first | (refine And.intro (DrawOk.mk (by first | (simp only [List.map_cons, List.map_nil, List.nil_append, List.cons_append, List.append_nil, updsL, List.length_cons, List.length_nil]; decide +kernel) | exact rfl)) ?_; conv => whnf) | (refine And.intro rfl ?_; conv => whnf) | (refine And.intro (fun _ => ?_) (fun h => Bool.noConfusion h); conv => whnf) | (refine And.intro (fun h => Bool.noConfusion h) (fun _ => ?_); conv => whnf))
      refine ⟨by omega, _, wItem hlt, rfl, ?_⟩
      (conv => whnf); repeat (first | (refine And.intro (DrawOk.mk (by first | (simp only [List.map_cons, List.map_nil, List.nil_append, List.cons_append, List.append_nil, updsL, List.length_cons, List.length_nil]; decide +kernel) | exact rfl)) ?_; conv => whnf) | (refine And.intro rfl ?_; conv => whnf) | (refine And.intro (fun _ => ?_) (fun h => Bool.noConfusion h); conv => whnf) | (refine And.intro (fun h => Bool.noConfusion h) (fun _ => ?_); conv => whnf))
      refine ⟨hi0, _, hit, rfl, ?_⟩
      (conv => whnf); repeat (first | (refine And.intro (DrawOk.mk (by first | (simp only [List.map_cons, List.map_nil, List.nil_append, List.cons_append, List.append_nil, updsL, List.length_cons, List.length_nil]; decide +kernel) | exact rfl)) ?_; conv => whnf) | (refine And.intro rfl ?_; conv => whnf) | (refine And.intro (fun _ => ?_) (fun h => Bool.noConfusion h); conv => whnf) | (refine And.intro (fun h => Bool.noConfusion h) (fun _ => ?_); conv => whnf))
      refine And.intro (fun h => ?_) (fun h => ?_)
      · (conv => whnf); repeat (first | (refine And.intro (DrawOk.mk (by first | (simp only [List.map_cons, List.map_nil, List.nil_append, List.cons_append, List.append_nil, updsL, List.length_cons, List.length_nil]; decide +kernel) | exact rfl)) ?_; conv => whnf) | (refine And.intro rfl ?_; conv => whnf) | (refine And.intro (fun _ => ?_) (fun h => Bool.noConfusion h); conv => whnf) | (refine And.intro (fun h => Bool.noConfusion h) (fun _ => ?_); conv => whnf))
        refine Exists.intro [] (And.intro List.nodup_nil ?_); ((conv => whnf); repeat (first | (refine And.intro (DrawOk.mk (by first | (simp only [List.map_cons, List.map_nil, List.nil_append, List.cons_append, List.append_nil, updsL, List.length_cons, List.length_nil]; decide +kernel) | exact rfl)) ?_; conv => whnf) | (refine And.intro rfl ?_; conv => whnf) | (refine And.intro (fun _ => ?_) (fun h => Bool.noConfusion h); conv => whnf) | (refine And.intro (fun h => Bool.noConfusion h) (fun _ => ?_); conv => whnf)))
        have := of_decide_eq_true h
        rw [ha, decide_eq_false (by omega)]; rfl
      · (conv => whnf); repeat (first | (refine And.intro (DrawOk.mk (by first | (simp only [List.map_cons, List.map_nil, List.nil_append, List.cons_append, List.append_nil, updsL, List.length_cons, List.length_nil]; decide +kernel) | exact rfl)) ?_; conv => whnf) | (refine And.intro rfl ?_; conv => whnf) | (refine And.intro (fun _ => ?_) (fun h => Bool.noConfusion h); conv => whnf) | (refine And.intro (fun h => Bool.noConfusion h) (fun _ => ?_); conv => whnf))
        have := of_decide_eq_false h
        refine again (k + 1 + 1) ⟨hlt, ?_⟩ (by omega) ?_
        · rw [ha, decide_eq_true (by omega)]; rfl
        · (refine And.intro rfl (And.intro rfl ?_)); (repeat' (first | exact trivial | exact rfl | apply And.intro | (refine congrArg (Value.int .i64) (w64_nat ?_); omega)))
  rw [List.drop_of_length_le (by omega), frGo] at ha
  rw [ha]
  clear ha
  (conv => whnf); repeat (first | (refine And.intro (DrawOk.mk (by first | (simp only [List.map_cons, List.map_nil, List.nil_append, List.cons_append, List.append_nil, updsL, List.length_cons, List.length_nil]; decide +kernel) | exact rfl)) ?_; conv => whnf) | (refine And.intro rfl ?_; conv => whnf) | (refine And.intro (fun _ => ?_) (fun h => Bool.noConfusion h); conv => whnf) | (refine And.intro (fun h => Bool.noConfusion h) (fun _ => ?_); conv => whnf))
  refine And.intro (fun h => by have := of_decide_eq_true h; rw [pwLen] at this; dsimp only at this; omega) (fun _ => ?_)
  (conv => whnf); repeat (first | (refine And.intro (DrawOk.mk (by first | (simp only [List.map_cons, List.map_nil, List.nil_append, List.cons_append, List.append_nil, updsL, List.length_cons, List.length_nil]; decide +kernel) | exact rfl)) ?_; conv => whnf) | (refine And.intro rfl ?_; conv => whnf) | (refine And.intro (fun _ => ?_) (fun h => Bool.noConfusion h); conv => whnf) | (refine And.intro (fun h => Bool.noConfusion h) (fun _ => ?_); conv => whnf))
  refine vc_loop [2, 3, 6] [2, 3, 6] (X := Nat) (fun k gs => [(7, ATint k)]) (fun _ _ => []) (fun k => k ≤ 2 ∧ (1 ≤ k → laneB f c ho = true) ∧ (2 ≤ k → laneB f c cl = true)) (fun k => 2 - k) _ (Ghost.refl _) 0 ⟨by omega, by omega, by omega⟩ ?_ ?_
  · (refine And.intro rfl (And.intro rfl ?_)); (repeat' (first | exact trivial | exact rfl | apply And.intro | (refine congrArg (Value.int .i64) (w64_nat ?_); omega)))
  rintro gs2 k ⟨hk, h1, h2⟩
  have hk' : k = 0 ∨ k = 1 ∨ k = 2 := by omega
  rcases hk' with rfl | rfl | rfl
  · have hdk := hd ho
    have hhk := hh ho
    (conv => whnf); repeat (first | (refine And.intro (DrawOk.mk (by first | (simp only [List.map_cons, List.map_nil, List.nil_append, List.cons_append, List.append_nil, updsL, List.length_cons, List.length_nil]; decide +kernel) | exact rfl)) ?_; conv => whnf) | (refine And.intro rfl ?_; conv => whnf) | (refine And.intro (fun _ => ?_) (fun h => Bool.noConfusion h); conv => whnf) | (refine And.intro (fun h => Bool.noConfusion h) (fun _ => ?_); conv => whnf))
    repeat' (first | ((refine And.intro (fun h => ?_) (fun h => ?_)) <;> (try simp at h) <;> ((conv => whnf); repeat (first | (refine And.intro (DrawOk.mk (by first | (simp only [List.map_cons, List.map_nil, List.nil_append, List.cons_append, List.append_nil, updsL, List.length_cons, List.length_nil]; decide +kernel) | exact rfl)) ?_; conv => whnf) | (refine And.intro rfl ?_; conv => whnf) | (refine And.intro (fun _ => ?_) (fun h => Bool.noConfusion h); conv => whnf) | (refine And.intro (fun h => Bool.noConfusion h) (fun _ => ?_); conv => whnf)))) | (refine ⟨_, _, hdk, ?_⟩; ((conv => whnf); repeat (first | (refine And.intro (DrawOk.mk (by first | (simp only [List.map_cons, List.map_nil, List.nil_append, List.cons_append, List.append_nil, updsL, List.length_cons, List.length_nil]; decide +kernel) | exact rfl)) ?_; conv => whnf) | (refine And.intro rfl ?_; conv => whnf) | (refine And.intro (fun _ => ?_) (fun h => Bool.noConfusion h); conv => whnf) | (refine And.intro (fun h => Bool.noConfusion h) (fun _ => ?_); conv => whnf)))) | (refine ⟨_, _, hhk, ?_⟩; ((conv => whnf); repeat (first | (refine And.intro (DrawOk.mk (by first | (simp only [List.map_cons, List.map_nil, List.nil_append, List.cons_append, List.append_nil, updsL, List.length_cons, List.length_nil]; decide +kernel) | exact rfl)) ?_; conv => whnf) | (refine And.intro rfl ?_; conv => whnf) | (refine And.intro (fun _ => ?_) (fun h => Bool.noConfusion h); conv => whnf) | (refine And.intro (fun h => Bool.noConfusion h) (fun _ => ?_); conv => whnf)))) | (refine ⟨by show (0 : Int) ≤ 0; decide, by show (0 : Int).toNat < 2; decide, ?_⟩; ((conv => whnf); repeat (first | (refine And.intro (DrawOk.mk (by first | (simp only [List.map_cons, List.map_nil, List.nil_append, List.cons_append, List.append_nil, updsL, List.length_cons, List.length_nil]; decide +kernel) | exact rfl)) ?_; conv => whnf) | (refine And.intro rfl ?_; conv => whnf) | (refine And.intro (fun _ => ?_) (fun h => Bool.noConfusion h); conv => whnf) | (refine And.intro (fun h => Bool.noConfusion h) (fun _ => ?_); conv => whnf)))) | fail)
    all_goals first
      | (refine again 1 ⟨by omega, fun _ => by simp [laneB, *], by omega⟩ (by omega) ?_
         (refine And.intro rfl (And.intro rfl ?_)); (repeat' (first | exact trivial | exact rfl | apply And.intro | (refine congrArg (Value.int .i64) (w64_nat ?_); omega))))
      | (refine Exists.intro [] (And.intro List.nodup_nil ?_); ((conv => whnf); repeat (first | (refine And.intro (DrawOk.mk (by first | (simp only [List.map_cons, List.map_nil, List.nil_append, List.cons_append, List.append_nil, updsL, List.length_cons, List.length_nil]; decide +kernel) | exact rfl)) ?_; conv => whnf) | (refine And.intro rfl ?_; conv => whnf) | (refine And.intro (fun _ => ?_) (fun h => Bool.noConfusion h); conv => whnf) | (refine And.intro (fun h => Bool.noConfusion h) (fun _ => ?_); conv => whnf)))
         have hL : laneB f c ho = false := by simp [laneB, *]
         rw [hL]; rfl)
  · have hdk := hd cl
    have hhk := hh cl
    (conv => whnf); repeat (first | (refine And.intro (DrawOk.mk (by first | (simp only [List.map_cons, List.map_nil, List.nil_append, List.cons_append, List.append_nil, updsL, List.length_cons, List.length_nil]; decide +kernel) | exact rfl)) ?_; conv => whnf) | (refine And.intro rfl ?_; conv => whnf) | (refine And.intro (fun _ => ?_) (fun h => Bool.noConfusion h); conv => whnf) | (refine And.intro (fun h => Bool.noConfusion h) (fun _ => ?_); conv => whnf))
    repeat' (first | ((refine And.intro (fun h => ?_) (fun h => ?_)) <;> (try simp at h) <;> ((conv => whnf); repeat (first | (refine And.intro (DrawOk.mk (by first | (simp only [List.map_cons, List.map_nil, List.nil_append, List.cons_append, List.append_nil, updsL, List.length_cons, List.length_nil]; decide +kernel) | exact rfl)) ?_; conv => whnf) | (refine And.intro rfl ?_; conv => whnf) | (refine And.intro (fun _ => ?_) (fun h => Bool.noConfusion h); conv => whnf) | (refine And.intro (fun h => Bool.noConfusion h) (fun _ => ?_); conv => whnf)))) | (refine ⟨_, _, hdk, ?_⟩; ((conv => whnf); repeat (first | (refine And.intro (DrawOk.mk (by first | (simp only [List.map_cons, List.map_nil, List.nil_append, List.cons_append, List.append_nil, updsL, List.length_cons, List.length_nil]; decide +kernel) | exact rfl)) ?_; conv => whnf) | (refine And.intro rfl ?_; conv => whnf) | (refine And.intro (fun _ => ?_) (fun h => Bool.noConfusion h); conv => whnf) | (refine And.intro (fun h => Bool.noConfusion h) (fun _ => ?_); conv => whnf)))) | (refine ⟨_, _, hhk, ?_⟩; ((conv => whnf); repeat (first | (refine And.intro (DrawOk.mk (by first | (simp only [List.map_cons, List.map_nil, List.nil_append, List.cons_append, List.append_nil, updsL, List.length_cons, List.length_nil]; decide +kernel) | exact rfl)) ?_; conv => whnf) | (refine And.intro rfl ?_; conv => whnf) | (refine And.intro (fun _ => ?_) (fun h => Bool.noConfusion h); conv => whnf) | (refine And.intro (fun h => Bool.noConfusion h) (fun _ => ?_); conv => whnf)))) | (refine ⟨by show (0 : Int) ≤ 1; decide, by show (1 : Int).toNat < 2; decide, ?_⟩; ((conv => whnf); repeat (first | (refine And.intro (DrawOk.mk (by first | (simp only [List.map_cons, List.map_nil, List.nil_append, List.cons_append, List.append_nil, updsL, List.length_cons, List.length_nil]; decide +kernel) | exact rfl)) ?_; conv => whnf) | (refine And.intro rfl ?_; conv => whnf) | (refine And.intro (fun _ => ?_) (fun h => Bool.noConfusion h); conv => whnf) | (refine And.intro (fun h => Bool.noConfusion h) (fun _ => ?_); conv => whnf)))) | fail)
    all_goals first
      | (refine again 2 ⟨by omega, fun _ => h1 (by omega), fun _ => by simp [laneB, *]⟩ (by omega) ?_
         (refine And.intro rfl (And.intro rfl ?_)); (repeat' (first | exact trivial | exact rfl | apply And.intro | (refine congrArg (Value.int .i64) (w64_nat ?_); omega))))
      | (refine Exists.intro [] (And.intro List.nodup_nil ?_); ((conv => whnf); repeat (first | (refine And.intro (DrawOk.mk (by first | (simp only [List.map_cons, List.map_nil, List.nil_append, List.cons_append, List.append_nil, updsL, List.length_cons, List.length_nil]; decide +kernel) | exact rfl)) ?_; conv => whnf) | (refine And.intro rfl ?_; conv => whnf) | (refine And.intro (fun _ => ?_) (fun h => Bool.noConfusion h); conv => whnf) | (refine And.intro (fun h => Bool.noConfusion h) (fun _ => ?_); conv => whnf)))
         have hL : laneB f c cl = false := by simp [laneB, *]
         rw [hL, Bool.and_false]; rfl)
  · rw [h1 (by omega), h2 (by omega)]
    (conv => whnf); repeat (first | (refine And.intro (DrawOk.mk (by first | (simp only [List.map_cons, List.map_nil, List.nil_append, List.cons_append, List.append_nil, updsL, List.length_cons, List.length_nil]; decide +kernel) | exact rfl)) ?_; conv => whnf) | (refine And.intro rfl ?_; conv => whnf) | (refine And.intro (fun _ => ?_) (fun h => Bool.noConfusion h); conv => whnf) | (refine And.intro (fun h => Bool.noConfusion h) (fun _ => ?_); conv => whnf))
    repeat' (first | ((refine And.intro (fun h => ?_) (fun h => ?_)) <;> (try simp at h) <;> ((conv => whnf); repeat (first | (refine And.intro (DrawOk.mk (by first | (simp only [List.map_cons, List.map_nil, List.nil_append, List.cons_append, List.append_nil, updsL, List.length_cons, List.length_nil]; decide +kernel) | exact rfl)) ?_; conv => whnf) | (refine And.intro rfl ?_; conv => whnf) | (refine And.intro (fun _ => ?_) (fun h => Bool.noConfusion h); conv => whnf) | (refine And.intro (fun h => Bool.noConfusion h) (fun _ => ?_); conv => whnf)))) | (refine ⟨_, _, hc, ?_⟩; ((conv => whnf); repeat (first | (refine And.intro (DrawOk.mk (by first | (simp only [List.map_cons, List.map_nil, List.nil_append, List.cons_append, List.append_nil, updsL, List.length_cons, List.length_nil]; decide +kernel) | exact rfl)) ?_; conv => whnf) | (refine And.intro rfl ?_; conv => whnf) | (refine And.intro (fun _ => ?_) (fun h => Bool.noConfusion h); conv => whnf) | (refine And.intro (fun h => Bool.noConfusion h) (fun _ => ?_); conv => whnf)))) | fail)
    all_goals
      refine Exists.intro [] (And.intro List.nodup_nil ?_); ((conv => whnf); repeat (first | (refine And.intro (DrawOk.mk (by first | (simp only [List.map_cons, List.map_nil, List.nil_append, List.cons_append, List.append_nil, updsL, List.length_cons, List.length_nil]; decide +kernel) | exact rfl)) ?_; conv => whnf) | (refine And.intro rfl ?_; conv => whnf) | (refine And.intro (fun _ => ?_) (fun h => Bool.noConfusion h); conv => whnf) | (refine And.intro (fun h => Bool.noConfusion h) (fun _ => ?_); conv => whnf)))
      first
        | rfl
        | (simp [*]; rfl)
end Go.Proofs.Ytijajfldpaadnaa.Ab
