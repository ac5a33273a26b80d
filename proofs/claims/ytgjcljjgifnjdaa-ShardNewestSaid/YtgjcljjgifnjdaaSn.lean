/- Shards: the entry of each block is the one with its greatest version. -/
import Derived.Test.YtgjcljjgifnjdaaSs
namespace Go.Proofs.Ytgjcljjgifnjdaa.Ab
set_option linter.unusedVariables false
set_option linter.unusedSimpArgs false
open Go.RowKit

/-- The version and the kind of a block, 0 if there is none. -/
def bv (s : List Ety) (c : Int) : Int := ((lk s c).getD e0).v
def bk (s : List Ety) (c : Int) : Int := ((lk s c).getD e0).k
theorem right_v {e : Ety} (h : rightE e = true) : 1 ≤ e.v := by
  unfold rightE at h
  rw [decide_eq_true_eq] at h
  omega
theorem bestInst {s : List Ety} {e : Ety} (hv : svalid s = true) (hr : rightE e = true) :
    (bv (sinst s e).1 e.b = if bv s e.b < e.v then e.v else bv s e.b) ∧ (bk (sinst s e).1 e.b = if bv s e.b < e.v then e.k else bk s e.b) ∧
    ∀ c, c ≠ e.b → bv (sinst s e).1 c = bv s c ∧ bk (sinst s e).1 c = bk s c := by
  have h1 := right_v hr
  unfold bv bk
  refine ⟨?_, ?_, fun c hc => ?_⟩
  · rw [lk_inst hv hr, if_pos rfl]
    cases lk s e.b with
    | none => exact (if_pos (show (0 : Int) < e.v by omega)).symm
    | some o =>
      show (newer (some o) e).v = if o.v < e.v then e.v else o.v
      unfold newer
      dsimp only
      split <;> split <;> first | rfl | omega
  · rw [lk_inst hv hr, if_pos rfl]
    cases lk s e.b with
    | none => exact (if_pos (show (0 : Int) < e.v by omega)).symm
    | some o =>
      show (newer (some o) e).k = if o.v < e.v then e.k else o.k
      unfold newer
      dsimp only
      split <;> split <;> first | rfl | omega
  · rw [lk_inst hv hr, if_neg hc]
    exact ⟨rfl, rfl⟩
theorem bestRel {s : List Ety} {o : Ety} {b tz to m : Int} (hv : svalid s = true) (hl : lk s b = some o) (h1 : 0 ≤ tz ∧ 0 ≤ to ∧ 0 ≤ m ∧ m ≤ 255) (c : Int) :
    bv (srel s b o.v o.z o.o tz to m).1 c = bv s c ∧ bk (srel s b o.v o.z o.o tz to m).1 c = bk s c := by
  obtain ⟨_, _, h⟩ := srel_lk hv hl h1
  unfold bv bk
  rw [h c]
  split
  · rename_i hc
    subst hc
    rw [hl]
    exact ⟨rfl, rfl⟩
  · exact ⟨rfl, rfl⟩
theorem bestStep {s s2 : List Ety} {e : Ety} (hv : svalid s = true) (hr : rightE e = true) (h2 : ∀ x, bv s2 x = bv (sinst s e).1 x ∧ bk s2 x = bk (sinst s e).1 x) :
    (bv s e.b < e.v → bv s2 e.b = e.v ∧ bk s2 e.b = e.k) ∧ (¬ bv s e.b < e.v → bv s2 e.b = bv s e.b ∧ bk s2 e.b = bk s e.b) ∧ ∀ c, c ≠ e.b → bv s2 c = bv s c ∧ bk s2 c = bk s c := by
  obtain ⟨h3, h4, h5⟩ := bestInst hv hr
  refine ⟨fun h => ?_, fun h => ?_, fun c hc => ?_⟩
  · rw [(h2 e.b).1, (h2 e.b).2, h3, h4, if_pos h, if_pos h]; exact ⟨rfl, rfl⟩
  · rw [(h2 e.b).1, (h2 e.b).2, h3, h4, if_neg h, if_neg h]; exact ⟨rfl, rfl⟩
  · rw [(h2 c).1, (h2 c).2]; exact h5 c hc
theorem sfind_some {s : List Ety} {b : Int} {o : Ety} (hv : svalid s = true) (h : lk s b = some o) : sfind s b = (o, true) := by
  unfold sfind
  rw [if_pos hv, sold_lk hv, shere_lk hv, h]
  rfl
theorem sfind_none {s : List Ety} {b : Int} (hv : svalid s = true) (h : lk s b = none) : sfind s b = (e0, false) := by
  unfold sfind
  rw [if_pos hv, sold_lk hv, shere_lk hv, h]
  rfl
def bcs (s : List Ety) : List AV1 := [.i (.sc (.int .i64 (bv s 0))), .i (.sc (.int .i64 (bv s 1))), .i (.sc (.int .i64 (bv s 2))), .i (.sc (.int .i64 (bv s 3))), .i (.sc (.int .i64 (bv s 4)))]
def kcs (s : List Ety) : List AV1 := [.i (.sc (.int .i64 (bk s 0))), .i (.sc (.int .i64 (bk s 1))), .i (.sc (.int .i64 (bk s 2))), .i (.sc (.int .i64 (bk s 3))), .i (.sc (.int .i64 (bk s 4)))]
set_option maxRecDepth 100000 in
set_option maxHeartbeats 64000000 in
theorem shardNewestF (L M : List Int) (hL : L.length ≤ 140737488355328) (hM : ∀ x ∈ M, 0 ≤ x ∧ x ≤ 255) : Fun Try.prog 3 [slV (wV L), slV (cV M)] [] (ATbool true) := by
  have lt := lightF L hL
  have hcl : (cV M).length = M.length := by simp [cV]
  by_cases hl3 : L.length ≤ 300
  · rw [decide_eq_true hl3] at lt
    have hl : L.length ≤ 1000000 := by omega
    refine fun_of_vc tabOk mixOk Try.func3 rfl (by rfl) (rs := [.tmp 4]) rfl rfl 137 ?_; rw [Try.ntmps3]
    (conv => whnf); repeat (first | (refine And.intro rfl ?_; conv => whnf) | (refine And.intro (fun _ => ?_) (fun h => Bool.noConfusion h); conv => whnf) | (refine And.intro (fun h => Bool.noConfusion h) (fun _ => ?_); conv => whnf))
    refine ⟨_, _, lt, ?_⟩
    (conv => whnf); repeat (first | (refine And.intro rfl ?_; conv => whnf) | (refine And.intro (fun _ => ?_) (fun h => Bool.noConfusion h); conv => whnf) | (refine And.intro (fun h => Bool.noConfusion h) (fun _ => ?_); conv => whnf))
    refine And.intro (fun h => ?_) (fun hm => ?_)
    · (conv => whnf); repeat (first | (refine And.intro rfl ?_; conv => whnf) | (refine And.intro (fun _ => ?_) (fun h => Bool.noConfusion h); conv => whnf) | (refine And.intro (fun h => Bool.noConfusion h) (fun _ => ?_); conv => whnf))
      refine ⟨_, _, shAwake, ?_⟩
      (conv => whnf); repeat (first | (refine And.intro rfl ?_; conv => whnf) | (refine And.intro (fun _ => ?_) (fun h => Bool.noConfusion h); conv => whnf) | (refine And.intro (fun h => Bool.noConfusion h) (fun _ => ?_); conv => whnf))
      refine Exists.intro [] (And.intro List.nodup_nil ?_); ((conv => whnf); repeat (first | (refine And.intro rfl ?_; conv => whnf) | (refine And.intro (fun _ => ?_) (fun h => Bool.noConfusion h); conv => whnf) | (refine And.intro (fun h => Bool.noConfusion h) (fun _ => ?_); conv => whnf)))
      rfl
    (conv => whnf); repeat (first | (refine And.intro rfl ?_; conv => whnf) | (refine And.intro (fun _ => ?_) (fun h => Bool.noConfusion h); conv => whnf) | (refine And.intro (fun h => Bool.noConfusion h) (fun _ => ?_); conv => whnf))
    refine ⟨_, _, rollF L hl, ?_⟩
    (conv => whnf); repeat (first | (refine And.intro rfl ?_; conv => whnf) | (refine And.intro (fun _ => ?_) (fun h => Bool.noConfusion h); conv => whnf) | (refine And.intro (fun h => Bool.noConfusion h) (fun _ => ?_); conv => whnf))
    refine vc_loop [1, 4, 5, 7, 8] [] (X := Nat × Nat × List Ety) (fun x gs => [(9, ATint x.1), (6, .v (slV (eR x.2.2)))]) (fun x gs => [(26, .var 1 (dcs L x.2.1)), (7, .var 1 (bcs x.2.2)), (8, .var 1 (kcs x.2.2))]) (fun x => x.1 ≤ 40 ∧ x.2.1 ≤ L.length ∧ x.2.2.length ≤ x.1 ∧ svalid x.2.2 = true) (fun x => 40 - x.1) _ (Ghost.refl _) (0, 0, []) ⟨by omega, Nat.zero_le _, by simp, rfl⟩ ?_ ?_
    · (refine And.intro rfl (And.intro rfl ?_)); (repeat' (first | exact trivial | exact rfl | apply And.intro | (refine congrArg (Value.int .i64) (w64_nat ?_); omega)))
      all_goals trace_state
    rintro gs ⟨i, k, s⟩ ⟨hi, hk, hs, hv⟩
    dsimp only at hi hk hs hv ⊢
    -- BODY
    (conv => whnf); repeat (first | (refine And.intro rfl ?_; conv => whnf) | (refine And.intro (fun _ => ?_) (fun h => Bool.noConfusion h); conv => whnf) | (refine And.intro (fun h => Bool.noConfusion h) (fun _ => ?_); conv => whnf))
    refine And.intro (fun h => ?_) (fun h => ?_)
    · have hlt : i < 40 := by have := of_decide_eq_true h; omega
      (conv => whnf); repeat (first | (refine And.intro rfl ?_; conv => whnf) | (refine And.intro (fun _ => ?_) (fun h => Bool.noConfusion h); conv => whnf) | (refine And.intro (fun h => Bool.noConfusion h) (fun _ => ?_); conv => whnf))
      refine ⟨_, _, restF L k hl hk, ?_⟩
      (conv => whnf); repeat (first | (refine And.intro rfl ?_; conv => whnf) | (refine And.intro (fun _ => ?_) (fun h => Bool.noConfusion h); conv => whnf) | (refine And.intro (fun h => Bool.noConfusion h) (fun _ => ?_); conv => whnf))
      refine And.intro (fun h2 => ?_) (fun h2 => ?_)
      · have hent := shEntryF L k hl
        obtain ⟨re, rb1, rb2, _⟩ := dE_right L k
        generalize dE L k = e at hent re rb1 rb2
        obtain ⟨eb, ek, ev, em, ez, eo⟩ := e
        dsimp only at rb1 rb2
        have hb5 : eb = 0 ∨ eb = 1 ∨ eb = 2 ∨ eb = 3 ∨ eb = 4 := by omega
        rcases hb5 with rfl | rfl | rfl | rfl | rfl
        · (conv => whnf); repeat (first | (refine And.intro rfl ?_; conv => whnf) | (refine And.intro (fun _ => ?_) (fun h => Bool.noConfusion h); conv => whnf) | (refine And.intro (fun h => Bool.noConfusion h) (fun _ => ?_); conv => whnf))
          refine ⟨_, _, hent, ?_⟩
          (conv => whnf); repeat (first | (refine And.intro rfl ?_; conv => whnf) | (refine And.intro (fun _ => ?_) (fun h => Bool.noConfusion h); conv => whnf) | (refine And.intro (fun h => Bool.noConfusion h) (fun _ => ?_); conv => whnf))
          refine ⟨_, _, sinstF s 0 ek ev em ez eo (by omega), ?_⟩
          (conv => whnf); repeat (first | (refine And.intro rfl ?_; conv => whnf) | (refine And.intro (fun _ => ?_) (fun h => Bool.noConfusion h); conv => whnf) | (refine And.intro (fun h => Bool.noConfusion h) (fun _ => ?_); conv => whnf))
          refine ⟨by show (0 : Int) ≤ 0; decide, by show (0 : Int).toNat < 5; decide, ?_⟩
          (conv => whnf); repeat (first | (refine And.intro rfl ?_; conv => whnf) | (refine And.intro (fun _ => ?_) (fun h => Bool.noConfusion h); conv => whnf) | (refine And.intro (fun h => Bool.noConfusion h) (fun _ => ?_); conv => whnf))
          refine And.intro (fun hg => ?_) (fun hg => ?_)
          · replace hg : bv s 0 < ev := of_decide_eq_true hg
            obtain ⟨s1, hs1⟩ : ∃ s1, (sinst s ⟨0, ek, ev, em, ez, eo⟩).1 = s1 := ⟨_, rfl⟩
            have hv1 : svalid s1 = true := hs1 ▸ svalid_inst hv
            have hl1 : s1.length ≤ i + 1 := by have := sinst_len s ⟨0, ek, ev, em, ez, eo⟩; rw [hs1] at this; omega
            have hb1 : ∀ x, bv s1 x = bv (sinst s ⟨0, ek, ev, em, ez, eo⟩).1 x ∧ bk s1 x = bk (sinst s ⟨0, ek, ev, em, ez, eo⟩).1 x := fun x => by rw [hs1]; exact ⟨rfl, rfl⟩
            rw [hs1]
            (conv => whnf); repeat (first | (refine And.intro rfl ?_; conv => whnf) | (refine And.intro (fun _ => ?_) (fun h => Bool.noConfusion h); conv => whnf) | (refine And.intro (fun h => Bool.noConfusion h) (fun _ => ?_); conv => whnf))
            refine ⟨by show (0 : Int) ≤ 0; decide, by show (0 : Int).toNat < 5; decide, ?_⟩
            (conv => whnf); repeat (first | (refine And.intro rfl ?_; conv => whnf) | (refine And.intro (fun _ => ?_) (fun h => Bool.noConfusion h); conv => whnf) | (refine And.intro (fun h => Bool.noConfusion h) (fun _ => ?_); conv => whnf))
            refine ⟨by show (0 : Int) ≤ 0; decide, by show (0 : Int).toNat < 5; decide, ?_⟩
            (conv => whnf); repeat (first | (refine And.intro rfl ?_; conv => whnf) | (refine And.intro (fun _ => ?_) (fun h => Bool.noConfusion h); conv => whnf) | (refine And.intro (fun h => Bool.noConfusion h) (fun _ => ?_); conv => whnf))
            refine And.intro (fun hm => ?_) (fun hm => ?_)
            · replace hm : i < M.length := by have := of_decide_eq_true hm; omega
              (conv => whnf); repeat (first | (refine And.intro rfl ?_; conv => whnf) | (refine And.intro (fun _ => ?_) (fun h => Bool.noConfusion h); conv => whnf) | (refine And.intro (fun h => Bool.noConfusion h) (fun _ => ?_); conv => whnf))
              refine ⟨by omega, _, cItem hm, rfl, ?_⟩
              (conv => whnf); repeat (first | (refine And.intro rfl ?_; conv => whnf) | (refine And.intro (fun _ => ?_) (fun h => Bool.noConfusion h); conv => whnf) | (refine And.intro (fun h => Bool.noConfusion h) (fun _ => ?_); conv => whnf))
              refine ⟨by decide, ?_⟩
              (conv => whnf); repeat (first | (refine And.intro rfl ?_; conv => whnf) | (refine And.intro (fun _ => ?_) (fun h => Bool.noConfusion h); conv => whnf) | (refine And.intro (fun h => Bool.noConfusion h) (fun _ => ?_); conv => whnf))
              have hfd := sfindF s1 (iwrap .i64 (M[i].tmod 5)) (by omega)
              rcases hq : lk s1 (iwrap .i64 (M[i].tmod 5)) with _ | o
              · rw [sfind_none hv1 hq] at hfd
                (conv => whnf); repeat (first | (refine And.intro rfl ?_; conv => whnf) | (refine And.intro (fun _ => ?_) (fun h => Bool.noConfusion h); conv => whnf) | (refine And.intro (fun h => Bool.noConfusion h) (fun _ => ?_); conv => whnf))
                refine ⟨_, _, hfd, ?_⟩
                (conv => whnf); repeat (first | (refine And.intro rfl ?_; conv => whnf) | (refine And.intro (fun _ => ?_) (fun h => Bool.noConfusion h); conv => whnf) | (refine And.intro (fun h => Bool.noConfusion h) (fun _ => ?_); conv => whnf))
                obtain ⟨F1, F2, F3⟩ := bestStep (e := ⟨0, ek, ev, em, ez, eo⟩) hv re (s2 := s1) hb1
                have f0 := F1 hg
                have f1 := F3 1 (by show (1 : Int) ≠ 0; decide)
                have f2 := F3 2 (by show (2 : Int) ≠ 0; decide)
                have f3 := F3 3 (by show (3 : Int) ≠ 0; decide)
                have f4 := F3 4 (by show (4 : Int) ≠ 0; decide)
                refine again (i + 1, dEk L k, s1) ⟨hlt, dEk_le hk, hl1, hv1⟩ (by dsimp only; omega) ?_
                (refine And.intro rfl (And.intro rfl ?_)); (repeat' (first | exact trivial | exact rfl | apply And.intro | (refine congrArg (Value.int .i64) (w64_nat ?_); omega)))
                all_goals first | exact congrArg (Value.int .i64) f0.1.symm | exact congrArg (Value.int .i64) f1.1.symm | exact congrArg (Value.int .i64) f2.1.symm | exact congrArg (Value.int .i64) f3.1.symm | exact congrArg (Value.int .i64) f4.1.symm | exact congrArg (Value.int .i64) f0.2.symm | exact congrArg (Value.int .i64) f1.2.symm | exact congrArg (Value.int .i64) f2.2.symm | exact congrArg (Value.int .i64) f3.2.symm | exact congrArg (Value.int .i64) f4.2.symm | (trace_state; sorry)
              · rw [sfind_some hv1 hq] at hfd
                (conv => whnf); repeat (first | (refine And.intro rfl ?_; conv => whnf) | (refine And.intro (fun _ => ?_) (fun h => Bool.noConfusion h); conv => whnf) | (refine And.intro (fun h => Bool.noConfusion h) (fun _ => ?_); conv => whnf))
                refine ⟨_, _, hfd, ?_⟩
                have hob := ((lk_iff hv1).1 hq).2
                rw [← hob] at hq
                (conv => whnf); repeat (first | (refine And.intro rfl ?_; conv => whnf) | (refine And.intro (fun _ => ?_) (fun h => Bool.noConfusion h); conv => whnf) | (refine And.intro (fun h => Bool.noConfusion h) (fun _ => ?_); conv => whnf))
                refine ⟨_, _, srelF s1 o.b o.v o.z o.o 7 i 1 (by omega), ?_⟩
                (conv => whnf); repeat (first | (refine And.intro rfl ?_; conv => whnf) | (refine And.intro (fun _ => ?_) (fun h => Bool.noConfusion h); conv => whnf) | (refine And.intro (fun h => Bool.noConfusion h) (fun _ => ?_); conv => whnf))
                have hrl := srel_lk (tz := 7) (to := i) (m := 1) hv1 hq ⟨by decide, by omega, by decide, by decide⟩
                have hsl := srel_len s1 o.b o.v o.z o.o 7 i 1
                obtain ⟨F1, F2, F3⟩ := bestStep (e := ⟨0, ek, ev, em, ez, eo⟩) hv re (s2 := (srel s1 o.b o.v o.z o.o 7 i 1).1) (fun x => by rw [(bestRel hv1 hq ⟨by decide, by omega, by decide, by decide⟩ x).1, (bestRel hv1 hq ⟨by decide, by omega, by decide, by decide⟩ x).2]; exact hb1 x)
                have f0 := F1 hg
                have f1 := F3 1 (by show (1 : Int) ≠ 0; decide)
                have f2 := F3 2 (by show (2 : Int) ≠ 0; decide)
                have f3 := F3 3 (by show (3 : Int) ≠ 0; decide)
                have f4 := F3 4 (by show (4 : Int) ≠ 0; decide)
                refine again (i + 1, dEk L k, (srel s1 o.b o.v o.z o.o 7 i 1).1) ⟨hlt, dEk_le hk, (by dsimp only; omega), hrl.2.1⟩ (by dsimp only; omega) ?_
                (refine And.intro rfl (And.intro rfl ?_)); (repeat' (first | exact trivial | exact rfl | apply And.intro | (refine congrArg (Value.int .i64) (w64_nat ?_); omega)))
                all_goals first | exact congrArg (Value.int .i64) f0.1.symm | exact congrArg (Value.int .i64) f1.1.symm | exact congrArg (Value.int .i64) f2.1.symm | exact congrArg (Value.int .i64) f3.1.symm | exact congrArg (Value.int .i64) f4.1.symm | exact congrArg (Value.int .i64) f0.2.symm | exact congrArg (Value.int .i64) f1.2.symm | exact congrArg (Value.int .i64) f2.2.symm | exact congrArg (Value.int .i64) f3.2.symm | exact congrArg (Value.int .i64) f4.2.symm | (trace_state; sorry)
            · (conv => whnf); repeat (first | (refine And.intro rfl ?_; conv => whnf) | (refine And.intro (fun _ => ?_) (fun h => Bool.noConfusion h); conv => whnf) | (refine And.intro (fun h => Bool.noConfusion h) (fun _ => ?_); conv => whnf))
              obtain ⟨F1, F2, F3⟩ := bestStep (e := ⟨0, ek, ev, em, ez, eo⟩) hv re (s2 := s1) hb1
              have f0 := F1 hg
              have f1 := F3 1 (by show (1 : Int) ≠ 0; decide)
              have f2 := F3 2 (by show (2 : Int) ≠ 0; decide)
              have f3 := F3 3 (by show (3 : Int) ≠ 0; decide)
              have f4 := F3 4 (by show (4 : Int) ≠ 0; decide)
              refine again (i + 1, dEk L k, s1) ⟨hlt, dEk_le hk, hl1, hv1⟩ (by dsimp only; omega) ?_
              (refine And.intro rfl (And.intro rfl ?_)); (repeat' (first | exact trivial | exact rfl | apply And.intro | (refine congrArg (Value.int .i64) (w64_nat ?_); omega)))
              all_goals first | exact congrArg (Value.int .i64) f0.1.symm | exact congrArg (Value.int .i64) f1.1.symm | exact congrArg (Value.int .i64) f2.1.symm | exact congrArg (Value.int .i64) f3.1.symm | exact congrArg (Value.int .i64) f4.1.symm | exact congrArg (Value.int .i64) f0.2.symm | exact congrArg (Value.int .i64) f1.2.symm | exact congrArg (Value.int .i64) f2.2.symm | exact congrArg (Value.int .i64) f3.2.symm | exact congrArg (Value.int .i64) f4.2.symm | (trace_state; sorry)
          · replace hg : ¬ bv s 0 < ev := of_decide_eq_false hg
            obtain ⟨s1, hs1⟩ : ∃ s1, (sinst s ⟨0, ek, ev, em, ez, eo⟩).1 = s1 := ⟨_, rfl⟩
            have hv1 : svalid s1 = true := hs1 ▸ svalid_inst hv
            have hl1 : s1.length ≤ i + 1 := by have := sinst_len s ⟨0, ek, ev, em, ez, eo⟩; rw [hs1] at this; omega
            have hb1 : ∀ x, bv s1 x = bv (sinst s ⟨0, ek, ev, em, ez, eo⟩).1 x ∧ bk s1 x = bk (sinst s ⟨0, ek, ev, em, ez, eo⟩).1 x := fun x => by rw [hs1]; exact ⟨rfl, rfl⟩
            rw [hs1]
            (conv => whnf); repeat (first | (refine And.intro rfl ?_; conv => whnf) | (refine And.intro (fun _ => ?_) (fun h => Bool.noConfusion h); conv => whnf) | (refine And.intro (fun h => Bool.noConfusion h) (fun _ => ?_); conv => whnf))
            refine And.intro (fun hm => ?_) (fun hm => ?_)
            · replace hm : i < M.length := by have := of_decide_eq_true hm; omega
              (conv => whnf); repeat (first | (refine And.intro rfl ?_; conv => whnf) | (refine And.intro (fun _ => ?_) (fun h => Bool.noConfusion h); conv => whnf) | (refine And.intro (fun h => Bool.noConfusion h) (fun _ => ?_); conv => whnf))
              refine ⟨by omega, _, cItem hm, rfl, ?_⟩
              (conv => whnf); repeat (first | (refine And.intro rfl ?_; conv => whnf) | (refine And.intro (fun _ => ?_) (fun h => Bool.noConfusion h); conv => whnf) | (refine And.intro (fun h => Bool.noConfusion h) (fun _ => ?_); conv => whnf))
              refine ⟨by decide, ?_⟩
              (conv => whnf); repeat (first | (refine And.intro rfl ?_; conv => whnf) | (refine And.intro (fun _ => ?_) (fun h => Bool.noConfusion h); conv => whnf) | (refine And.intro (fun h => Bool.noConfusion h) (fun _ => ?_); conv => whnf))
              have hfd := sfindF s1 (iwrap .i64 (M[i].tmod 5)) (by omega)
              rcases hq : lk s1 (iwrap .i64 (M[i].tmod 5)) with _ | o
              · rw [sfind_none hv1 hq] at hfd
                (conv => whnf); repeat (first | (refine And.intro rfl ?_; conv => whnf) | (refine And.intro (fun _ => ?_) (fun h => Bool.noConfusion h); conv => whnf) | (refine And.intro (fun h => Bool.noConfusion h) (fun _ => ?_); conv => whnf))
                refine ⟨_, _, hfd, ?_⟩
                (conv => whnf); repeat (first | (refine And.intro rfl ?_; conv => whnf) | (refine And.intro (fun _ => ?_) (fun h => Bool.noConfusion h); conv => whnf) | (refine And.intro (fun h => Bool.noConfusion h) (fun _ => ?_); conv => whnf))
                obtain ⟨F1, F2, F3⟩ := bestStep (e := ⟨0, ek, ev, em, ez, eo⟩) hv re (s2 := s1) hb1
                have f0 := F2 hg
                have f1 := F3 1 (by show (1 : Int) ≠ 0; decide)
                have f2 := F3 2 (by show (2 : Int) ≠ 0; decide)
                have f3 := F3 3 (by show (3 : Int) ≠ 0; decide)
                have f4 := F3 4 (by show (4 : Int) ≠ 0; decide)
                refine again (i + 1, dEk L k, s1) ⟨hlt, dEk_le hk, hl1, hv1⟩ (by dsimp only; omega) ?_
                (refine And.intro rfl (And.intro rfl ?_)); (repeat' (first | exact trivial | exact rfl | apply And.intro | (refine congrArg (Value.int .i64) (w64_nat ?_); omega)))
                all_goals first | exact congrArg (Value.int .i64) f0.1.symm | exact congrArg (Value.int .i64) f1.1.symm | exact congrArg (Value.int .i64) f2.1.symm | exact congrArg (Value.int .i64) f3.1.symm | exact congrArg (Value.int .i64) f4.1.symm | exact congrArg (Value.int .i64) f0.2.symm | exact congrArg (Value.int .i64) f1.2.symm | exact congrArg (Value.int .i64) f2.2.symm | exact congrArg (Value.int .i64) f3.2.symm | exact congrArg (Value.int .i64) f4.2.symm | (trace_state; sorry)
              · rw [sfind_some hv1 hq] at hfd
                (conv => whnf); repeat (first | (refine And.intro rfl ?_; conv => whnf) | (refine And.intro (fun _ => ?_) (fun h => Bool.noConfusion h); conv => whnf) | (refine And.intro (fun h => Bool.noConfusion h) (fun _ => ?_); conv => whnf))
                refine ⟨_, _, hfd, ?_⟩
                have hob := ((lk_iff hv1).1 hq).2
                rw [← hob] at hq
                (conv => whnf); repeat (first | (refine And.intro rfl ?_; conv => whnf) | (refine And.intro (fun _ => ?_) (fun h => Bool.noConfusion h); conv => whnf) | (refine And.intro (fun h => Bool.noConfusion h) (fun _ => ?_); conv => whnf))
                refine ⟨_, _, srelF s1 o.b o.v o.z o.o 7 i 1 (by omega), ?_⟩
                (conv => whnf); repeat (first | (refine And.intro rfl ?_; conv => whnf) | (refine And.intro (fun _ => ?_) (fun h => Bool.noConfusion h); conv => whnf) | (refine And.intro (fun h => Bool.noConfusion h) (fun _ => ?_); conv => whnf))
                have hrl := srel_lk (tz := 7) (to := i) (m := 1) hv1 hq ⟨by decide, by omega, by decide, by decide⟩
                have hsl := srel_len s1 o.b o.v o.z o.o 7 i 1
                obtain ⟨F1, F2, F3⟩ := bestStep (e := ⟨0, ek, ev, em, ez, eo⟩) hv re (s2 := (srel s1 o.b o.v o.z o.o 7 i 1).1) (fun x => by rw [(bestRel hv1 hq ⟨by decide, by omega, by decide, by decide⟩ x).1, (bestRel hv1 hq ⟨by decide, by omega, by decide, by decide⟩ x).2]; exact hb1 x)
                have f0 := F2 hg
                have f1 := F3 1 (by show (1 : Int) ≠ 0; decide)
                have f2 := F3 2 (by show (2 : Int) ≠ 0; decide)
                have f3 := F3 3 (by show (3 : Int) ≠ 0; decide)
                have f4 := F3 4 (by show (4 : Int) ≠ 0; decide)
                refine again (i + 1, dEk L k, (srel s1 o.b o.v o.z o.o 7 i 1).1) ⟨hlt, dEk_le hk, (by dsimp only; omega), hrl.2.1⟩ (by dsimp only; omega) ?_
                (refine And.intro rfl (And.intro rfl ?_)); (repeat' (first | exact trivial | exact rfl | apply And.intro | (refine congrArg (Value.int .i64) (w64_nat ?_); omega)))
                all_goals first | exact congrArg (Value.int .i64) f0.1.symm | exact congrArg (Value.int .i64) f1.1.symm | exact congrArg (Value.int .i64) f2.1.symm | exact congrArg (Value.int .i64) f3.1.symm | exact congrArg (Value.int .i64) f4.1.symm | exact congrArg (Value.int .i64) f0.2.symm | exact congrArg (Value.int .i64) f1.2.symm | exact congrArg (Value.int .i64) f2.2.symm | exact congrArg (Value.int .i64) f3.2.symm | exact congrArg (Value.int .i64) f4.2.symm | (trace_state; sorry)
            · (conv => whnf); repeat (first | (refine And.intro rfl ?_; conv => whnf) | (refine And.intro (fun _ => ?_) (fun h => Bool.noConfusion h); conv => whnf) | (refine And.intro (fun h => Bool.noConfusion h) (fun _ => ?_); conv => whnf))
              obtain ⟨F1, F2, F3⟩ := bestStep (e := ⟨0, ek, ev, em, ez, eo⟩) hv re (s2 := s1) hb1
              have f0 := F2 hg
              have f1 := F3 1 (by show (1 : Int) ≠ 0; decide)
              have f2 := F3 2 (by show (2 : Int) ≠ 0; decide)
              have f3 := F3 3 (by show (3 : Int) ≠ 0; decide)
              have f4 := F3 4 (by show (4 : Int) ≠ 0; decide)
              refine again (i + 1, dEk L k, s1) ⟨hlt, dEk_le hk, hl1, hv1⟩ (by dsimp only; omega) ?_
              (refine And.intro rfl (And.intro rfl ?_)); (repeat' (first | exact trivial | exact rfl | apply And.intro | (refine congrArg (Value.int .i64) (w64_nat ?_); omega)))
              all_goals first | exact congrArg (Value.int .i64) f0.1.symm | exact congrArg (Value.int .i64) f1.1.symm | exact congrArg (Value.int .i64) f2.1.symm | exact congrArg (Value.int .i64) f3.1.symm | exact congrArg (Value.int .i64) f4.1.symm | exact congrArg (Value.int .i64) f0.2.symm | exact congrArg (Value.int .i64) f1.2.symm | exact congrArg (Value.int .i64) f2.2.symm | exact congrArg (Value.int .i64) f3.2.symm | exact congrArg (Value.int .i64) f4.2.symm | (trace_state; sorry)
        · (conv => whnf); repeat (first | (refine And.intro rfl ?_; conv => whnf) | (refine And.intro (fun _ => ?_) (fun h => Bool.noConfusion h); conv => whnf) | (refine And.intro (fun h => Bool.noConfusion h) (fun _ => ?_); conv => whnf))
          refine ⟨_, _, hent, ?_⟩
          (conv => whnf); repeat (first | (refine And.intro rfl ?_; conv => whnf) | (refine And.intro (fun _ => ?_) (fun h => Bool.noConfusion h); conv => whnf) | (refine And.intro (fun h => Bool.noConfusion h) (fun _ => ?_); conv => whnf))
          refine ⟨_, _, sinstF s 1 ek ev em ez eo (by omega), ?_⟩
          (conv => whnf); repeat (first | (refine And.intro rfl ?_; conv => whnf) | (refine And.intro (fun _ => ?_) (fun h => Bool.noConfusion h); conv => whnf) | (refine And.intro (fun h => Bool.noConfusion h) (fun _ => ?_); conv => whnf))
          refine ⟨by show (0 : Int) ≤ 1; decide, by show (1 : Int).toNat < 5; decide, ?_⟩
          (conv => whnf); repeat (first | (refine And.intro rfl ?_; conv => whnf) | (refine And.intro (fun _ => ?_) (fun h => Bool.noConfusion h); conv => whnf) | (refine And.intro (fun h => Bool.noConfusion h) (fun _ => ?_); conv => whnf))
          refine And.intro (fun hg => ?_) (fun hg => ?_)
          · replace hg : bv s 1 < ev := of_decide_eq_true hg
            obtain ⟨s1, hs1⟩ : ∃ s1, (sinst s ⟨1, ek, ev, em, ez, eo⟩).1 = s1 := ⟨_, rfl⟩
            have hv1 : svalid s1 = true := hs1 ▸ svalid_inst hv
            have hl1 : s1.length ≤ i + 1 := by have := sinst_len s ⟨1, ek, ev, em, ez, eo⟩; rw [hs1] at this; omega
            have hb1 : ∀ x, bv s1 x = bv (sinst s ⟨1, ek, ev, em, ez, eo⟩).1 x ∧ bk s1 x = bk (sinst s ⟨1, ek, ev, em, ez, eo⟩).1 x := fun x => by rw [hs1]; exact ⟨rfl, rfl⟩
            rw [hs1]
            (conv => whnf); repeat (first | (refine And.intro rfl ?_; conv => whnf) | (refine And.intro (fun _ => ?_) (fun h => Bool.noConfusion h); conv => whnf) | (refine And.intro (fun h => Bool.noConfusion h) (fun _ => ?_); conv => whnf))
            refine ⟨by show (0 : Int) ≤ 1; decide, by show (1 : Int).toNat < 5; decide, ?_⟩
            (conv => whnf); repeat (first | (refine And.intro rfl ?_; conv => whnf) | (refine And.intro (fun _ => ?_) (fun h => Bool.noConfusion h); conv => whnf) | (refine And.intro (fun h => Bool.noConfusion h) (fun _ => ?_); conv => whnf))
            refine ⟨by show (0 : Int) ≤ 1; decide, by show (1 : Int).toNat < 5; decide, ?_⟩
            (conv => whnf); repeat (first | (refine And.intro rfl ?_; conv => whnf) | (refine And.intro (fun _ => ?_) (fun h => Bool.noConfusion h); conv => whnf) | (refine And.intro (fun h => Bool.noConfusion h) (fun _ => ?_); conv => whnf))
            refine And.intro (fun hm => ?_) (fun hm => ?_)
            · replace hm : i < M.length := by have := of_decide_eq_true hm; omega
              (conv => whnf); repeat (first | (refine And.intro rfl ?_; conv => whnf) | (refine And.intro (fun _ => ?_) (fun h => Bool.noConfusion h); conv => whnf) | (refine And.intro (fun h => Bool.noConfusion h) (fun _ => ?_); conv => whnf))
              refine ⟨by omega, _, cItem hm, rfl, ?_⟩
              (conv => whnf); repeat (first | (refine And.intro rfl ?_; conv => whnf) | (refine And.intro (fun _ => ?_) (fun h => Bool.noConfusion h); conv => whnf) | (refine And.intro (fun h => Bool.noConfusion h) (fun _ => ?_); conv => whnf))
              refine ⟨by decide, ?_⟩
              (conv => whnf); repeat (first | (refine And.intro rfl ?_; conv => whnf) | (refine And.intro (fun _ => ?_) (fun h => Bool.noConfusion h); conv => whnf) | (refine And.intro (fun h => Bool.noConfusion h) (fun _ => ?_); conv => whnf))
              have hfd := sfindF s1 (iwrap .i64 (M[i].tmod 5)) (by omega)
              rcases hq : lk s1 (iwrap .i64 (M[i].tmod 5)) with _ | o
              · rw [sfind_none hv1 hq] at hfd
                (conv => whnf); repeat (first | (refine And.intro rfl ?_; conv => whnf) | (refine And.intro (fun _ => ?_) (fun h => Bool.noConfusion h); conv => whnf) | (refine And.intro (fun h => Bool.noConfusion h) (fun _ => ?_); conv => whnf))
                refine ⟨_, _, hfd, ?_⟩
                (conv => whnf); repeat (first | (refine And.intro rfl ?_; conv => whnf) | (refine And.intro (fun _ => ?_) (fun h => Bool.noConfusion h); conv => whnf) | (refine And.intro (fun h => Bool.noConfusion h) (fun _ => ?_); conv => whnf))
                obtain ⟨F1, F2, F3⟩ := bestStep (e := ⟨1, ek, ev, em, ez, eo⟩) hv re (s2 := s1) hb1
                have f1 := F1 hg
                have f0 := F3 0 (by show (0 : Int) ≠ 1; decide)
                have f2 := F3 2 (by show (2 : Int) ≠ 1; decide)
                have f3 := F3 3 (by show (3 : Int) ≠ 1; decide)
                have f4 := F3 4 (by show (4 : Int) ≠ 1; decide)
                refine again (i + 1, dEk L k, s1) ⟨hlt, dEk_le hk, hl1, hv1⟩ (by dsimp only; omega) ?_
                (refine And.intro rfl (And.intro rfl ?_)); (repeat' (first | exact trivial | exact rfl | apply And.intro | (refine congrArg (Value.int .i64) (w64_nat ?_); omega)))
                all_goals first | exact congrArg (Value.int .i64) f0.1.symm | exact congrArg (Value.int .i64) f1.1.symm | exact congrArg (Value.int .i64) f2.1.symm | exact congrArg (Value.int .i64) f3.1.symm | exact congrArg (Value.int .i64) f4.1.symm | exact congrArg (Value.int .i64) f0.2.symm | exact congrArg (Value.int .i64) f1.2.symm | exact congrArg (Value.int .i64) f2.2.symm | exact congrArg (Value.int .i64) f3.2.symm | exact congrArg (Value.int .i64) f4.2.symm | (trace_state; sorry)
              · rw [sfind_some hv1 hq] at hfd
                (conv => whnf); repeat (first | (refine And.intro rfl ?_; conv => whnf) | (refine And.intro (fun _ => ?_) (fun h => Bool.noConfusion h); conv => whnf) | (refine And.intro (fun h => Bool.noConfusion h) (fun _ => ?_); conv => whnf))
                refine ⟨_, _, hfd, ?_⟩
                have hob := ((lk_iff hv1).1 hq).2
                rw [← hob] at hq
                (conv => whnf); repeat (first | (refine And.intro rfl ?_; conv => whnf) | (refine And.intro (fun _ => ?_) (fun h => Bool.noConfusion h); conv => whnf) | (refine And.intro (fun h => Bool.noConfusion h) (fun _ => ?_); conv => whnf))
                refine ⟨_, _, srelF s1 o.b o.v o.z o.o 7 i 1 (by omega), ?_⟩
                (conv => whnf); repeat (first | (refine And.intro rfl ?_; conv => whnf) | (refine And.intro (fun _ => ?_) (fun h => Bool.noConfusion h); conv => whnf) | (refine And.intro (fun h => Bool.noConfusion h) (fun _ => ?_); conv => whnf))
                have hrl := srel_lk (tz := 7) (to := i) (m := 1) hv1 hq ⟨by decide, by omega, by decide, by decide⟩
                have hsl := srel_len s1 o.b o.v o.z o.o 7 i 1
                obtain ⟨F1, F2, F3⟩ := bestStep (e := ⟨1, ek, ev, em, ez, eo⟩) hv re (s2 := (srel s1 o.b o.v o.z o.o 7 i 1).1) (fun x => by rw [(bestRel hv1 hq ⟨by decide, by omega, by decide, by decide⟩ x).1, (bestRel hv1 hq ⟨by decide, by omega, by decide, by decide⟩ x).2]; exact hb1 x)
                have f1 := F1 hg
                have f0 := F3 0 (by show (0 : Int) ≠ 1; decide)
                have f2 := F3 2 (by show (2 : Int) ≠ 1; decide)
                have f3 := F3 3 (by show (3 : Int) ≠ 1; decide)
                have f4 := F3 4 (by show (4 : Int) ≠ 1; decide)
                refine again (i + 1, dEk L k, (srel s1 o.b o.v o.z o.o 7 i 1).1) ⟨hlt, dEk_le hk, (by dsimp only; omega), hrl.2.1⟩ (by dsimp only; omega) ?_
                (refine And.intro rfl (And.intro rfl ?_)); (repeat' (first | exact trivial | exact rfl | apply And.intro | (refine congrArg (Value.int .i64) (w64_nat ?_); omega)))
                all_goals first | exact congrArg (Value.int .i64) f0.1.symm | exact congrArg (Value.int .i64) f1.1.symm | exact congrArg (Value.int .i64) f2.1.symm | exact congrArg (Value.int .i64) f3.1.symm | exact congrArg (Value.int .i64) f4.1.symm | exact congrArg (Value.int .i64) f0.2.symm | exact congrArg (Value.int .i64) f1.2.symm | exact congrArg (Value.int .i64) f2.2.symm | exact congrArg (Value.int .i64) f3.2.symm | exact congrArg (Value.int .i64) f4.2.symm | (trace_state; sorry)
            · (conv => whnf); repeat (first | (refine And.intro rfl ?_; conv => whnf) | (refine And.intro (fun _ => ?_) (fun h => Bool.noConfusion h); conv => whnf) | (refine And.intro (fun h => Bool.noConfusion h) (fun _ => ?_); conv => whnf))
              obtain ⟨F1, F2, F3⟩ := bestStep (e := ⟨1, ek, ev, em, ez, eo⟩) hv re (s2 := s1) hb1
              have f1 := F1 hg
              have f0 := F3 0 (by show (0 : Int) ≠ 1; decide)
              have f2 := F3 2 (by show (2 : Int) ≠ 1; decide)
              have f3 := F3 3 (by show (3 : Int) ≠ 1; decide)
              have f4 := F3 4 (by show (4 : Int) ≠ 1; decide)
              refine again (i + 1, dEk L k, s1) ⟨hlt, dEk_le hk, hl1, hv1⟩ (by dsimp only; omega) ?_
              (refine And.intro rfl (And.intro rfl ?_)); (repeat' (first | exact trivial | exact rfl | apply And.intro | (refine congrArg (Value.int .i64) (w64_nat ?_); omega)))
              all_goals first | exact congrArg (Value.int .i64) f0.1.symm | exact congrArg (Value.int .i64) f1.1.symm | exact congrArg (Value.int .i64) f2.1.symm | exact congrArg (Value.int .i64) f3.1.symm | exact congrArg (Value.int .i64) f4.1.symm | exact congrArg (Value.int .i64) f0.2.symm | exact congrArg (Value.int .i64) f1.2.symm | exact congrArg (Value.int .i64) f2.2.symm | exact congrArg (Value.int .i64) f3.2.symm | exact congrArg (Value.int .i64) f4.2.symm | (trace_state; sorry)
          · replace hg : ¬ bv s 1 < ev := of_decide_eq_false hg
            obtain ⟨s1, hs1⟩ : ∃ s1, (sinst s ⟨1, ek, ev, em, ez, eo⟩).1 = s1 := ⟨_, rfl⟩
            have hv1 : svalid s1 = true := hs1 ▸ svalid_inst hv
            have hl1 : s1.length ≤ i + 1 := by have := sinst_len s ⟨1, ek, ev, em, ez, eo⟩; rw [hs1] at this; omega
            have hb1 : ∀ x, bv s1 x = bv (sinst s ⟨1, ek, ev, em, ez, eo⟩).1 x ∧ bk s1 x = bk (sinst s ⟨1, ek, ev, em, ez, eo⟩).1 x := fun x => by rw [hs1]; exact ⟨rfl, rfl⟩
            rw [hs1]
            (conv => whnf); repeat (first | (refine And.intro rfl ?_; conv => whnf) | (refine And.intro (fun _ => ?_) (fun h => Bool.noConfusion h); conv => whnf) | (refine And.intro (fun h => Bool.noConfusion h) (fun _ => ?_); conv => whnf))
            refine And.intro (fun hm => ?_) (fun hm => ?_)
            · replace hm : i < M.length := by have := of_decide_eq_true hm; omega
              (conv => whnf); repeat (first | (refine And.intro rfl ?_; conv => whnf) | (refine And.intro (fun _ => ?_) (fun h => Bool.noConfusion h); conv => whnf) | (refine And.intro (fun h => Bool.noConfusion h) (fun _ => ?_); conv => whnf))
              refine ⟨by omega, _, cItem hm, rfl, ?_⟩
              (conv => whnf); repeat (first | (refine And.intro rfl ?_; conv => whnf) | (refine And.intro (fun _ => ?_) (fun h => Bool.noConfusion h); conv => whnf) | (refine And.intro (fun h => Bool.noConfusion h) (fun _ => ?_); conv => whnf))
              refine ⟨by decide, ?_⟩
              (conv => whnf); repeat (first | (refine And.intro rfl ?_; conv => whnf) | (refine And.intro (fun _ => ?_) (fun h => Bool.noConfusion h); conv => whnf) | (refine And.intro (fun h => Bool.noConfusion h) (fun _ => ?_); conv => whnf))
              have hfd := sfindF s1 (iwrap .i64 (M[i].tmod 5)) (by omega)
              rcases hq : lk s1 (iwrap .i64 (M[i].tmod 5)) with _ | o
              · rw [sfind_none hv1 hq] at hfd
                (conv => whnf); repeat (first | (refine And.intro rfl ?_; conv => whnf) | (refine And.intro (fun _ => ?_) (fun h => Bool.noConfusion h); conv => whnf) | (refine And.intro (fun h => Bool.noConfusion h) (fun _ => ?_); conv => whnf))
                refine ⟨_, _, hfd, ?_⟩
                (conv => whnf); repeat (first | (refine And.intro rfl ?_; conv => whnf) | (refine And.intro (fun _ => ?_) (fun h => Bool.noConfusion h); conv => whnf) | (refine And.intro (fun h => Bool.noConfusion h) (fun _ => ?_); conv => whnf))
                obtain ⟨F1, F2, F3⟩ := bestStep (e := ⟨1, ek, ev, em, ez, eo⟩) hv re (s2 := s1) hb1
                have f1 := F2 hg
                have f0 := F3 0 (by show (0 : Int) ≠ 1; decide)
                have f2 := F3 2 (by show (2 : Int) ≠ 1; decide)
                have f3 := F3 3 (by show (3 : Int) ≠ 1; decide)
                have f4 := F3 4 (by show (4 : Int) ≠ 1; decide)
                refine again (i + 1, dEk L k, s1) ⟨hlt, dEk_le hk, hl1, hv1⟩ (by dsimp only; omega) ?_
                (refine And.intro rfl (And.intro rfl ?_)); (repeat' (first | exact trivial | exact rfl | apply And.intro | (refine congrArg (Value.int .i64) (w64_nat ?_); omega)))
                all_goals first | exact congrArg (Value.int .i64) f0.1.symm | exact congrArg (Value.int .i64) f1.1.symm | exact congrArg (Value.int .i64) f2.1.symm | exact congrArg (Value.int .i64) f3.1.symm | exact congrArg (Value.int .i64) f4.1.symm | exact congrArg (Value.int .i64) f0.2.symm | exact congrArg (Value.int .i64) f1.2.symm | exact congrArg (Value.int .i64) f2.2.symm | exact congrArg (Value.int .i64) f3.2.symm | exact congrArg (Value.int .i64) f4.2.symm | (trace_state; sorry)
              · rw [sfind_some hv1 hq] at hfd
                (conv => whnf); repeat (first | (refine And.intro rfl ?_; conv => whnf) | (refine And.intro (fun _ => ?_) (fun h => Bool.noConfusion h); conv => whnf) | (refine And.intro (fun h => Bool.noConfusion h) (fun _ => ?_); conv => whnf))
                refine ⟨_, _, hfd, ?_⟩
                have hob := ((lk_iff hv1).1 hq).2
                rw [← hob] at hq
                (conv => whnf); repeat (first | (refine And.intro rfl ?_; conv => whnf) | (refine And.intro (fun _ => ?_) (fun h => Bool.noConfusion h); conv => whnf) | (refine And.intro (fun h => Bool.noConfusion h) (fun _ => ?_); conv => whnf))
                refine ⟨_, _, srelF s1 o.b o.v o.z o.o 7 i 1 (by omega), ?_⟩
                (conv => whnf); repeat (first | (refine And.intro rfl ?_; conv => whnf) | (refine And.intro (fun _ => ?_) (fun h => Bool.noConfusion h); conv => whnf) | (refine And.intro (fun h => Bool.noConfusion h) (fun _ => ?_); conv => whnf))
                have hrl := srel_lk (tz := 7) (to := i) (m := 1) hv1 hq ⟨by decide, by omega, by decide, by decide⟩
                have hsl := srel_len s1 o.b o.v o.z o.o 7 i 1
                obtain ⟨F1, F2, F3⟩ := bestStep (e := ⟨1, ek, ev, em, ez, eo⟩) hv re (s2 := (srel s1 o.b o.v o.z o.o 7 i 1).1) (fun x => by rw [(bestRel hv1 hq ⟨by decide, by omega, by decide, by decide⟩ x).1, (bestRel hv1 hq ⟨by decide, by omega, by decide, by decide⟩ x).2]; exact hb1 x)
                have f1 := F2 hg
                have f0 := F3 0 (by show (0 : Int) ≠ 1; decide)
                have f2 := F3 2 (by show (2 : Int) ≠ 1; decide)
                have f3 := F3 3 (by show (3 : Int) ≠ 1; decide)
                have f4 := F3 4 (by show (4 : Int) ≠ 1; decide)
                refine again (i + 1, dEk L k, (srel s1 o.b o.v o.z o.o 7 i 1).1) ⟨hlt, dEk_le hk, (by dsimp only; omega), hrl.2.1⟩ (by dsimp only; omega) ?_
                (refine And.intro rfl (And.intro rfl ?_)); (repeat' (first | exact trivial | exact rfl | apply And.intro | (refine congrArg (Value.int .i64) (w64_nat ?_); omega)))
                all_goals first | exact congrArg (Value.int .i64) f0.1.symm | exact congrArg (Value.int .i64) f1.1.symm | exact congrArg (Value.int .i64) f2.1.symm | exact congrArg (Value.int .i64) f3.1.symm | exact congrArg (Value.int .i64) f4.1.symm | exact congrArg (Value.int .i64) f0.2.symm | exact congrArg (Value.int .i64) f1.2.symm | exact congrArg (Value.int .i64) f2.2.symm | exact congrArg (Value.int .i64) f3.2.symm | exact congrArg (Value.int .i64) f4.2.symm | (trace_state; sorry)
            · (conv => whnf); repeat (first | (refine And.intro rfl ?_; conv => whnf) | (refine And.intro (fun _ => ?_) (fun h => Bool.noConfusion h); conv => whnf) | (refine And.intro (fun h => Bool.noConfusion h) (fun _ => ?_); conv => whnf))
              obtain ⟨F1, F2, F3⟩ := bestStep (e := ⟨1, ek, ev, em, ez, eo⟩) hv re (s2 := s1) hb1
              have f1 := F2 hg
              have f0 := F3 0 (by show (0 : Int) ≠ 1; decide)
              have f2 := F3 2 (by show (2 : Int) ≠ 1; decide)
              have f3 := F3 3 (by show (3 : Int) ≠ 1; decide)
              have f4 := F3 4 (by show (4 : Int) ≠ 1; decide)
              refine again (i + 1, dEk L k, s1) ⟨hlt, dEk_le hk, hl1, hv1⟩ (by dsimp only; omega) ?_
              (refine And.intro rfl (And.intro rfl ?_)); (repeat' (first | exact trivial | exact rfl | apply And.intro | (refine congrArg (Value.int .i64) (w64_nat ?_); omega)))
              all_goals first | exact congrArg (Value.int .i64) f0.1.symm | exact congrArg (Value.int .i64) f1.1.symm | exact congrArg (Value.int .i64) f2.1.symm | exact congrArg (Value.int .i64) f3.1.symm | exact congrArg (Value.int .i64) f4.1.symm | exact congrArg (Value.int .i64) f0.2.symm | exact congrArg (Value.int .i64) f1.2.symm | exact congrArg (Value.int .i64) f2.2.symm | exact congrArg (Value.int .i64) f3.2.symm | exact congrArg (Value.int .i64) f4.2.symm | (trace_state; sorry)
        · (conv => whnf); repeat (first | (refine And.intro rfl ?_; conv => whnf) | (refine And.intro (fun _ => ?_) (fun h => Bool.noConfusion h); conv => whnf) | (refine And.intro (fun h => Bool.noConfusion h) (fun _ => ?_); conv => whnf))
          refine ⟨_, _, hent, ?_⟩
          (conv => whnf); repeat (first | (refine And.intro rfl ?_; conv => whnf) | (refine And.intro (fun _ => ?_) (fun h => Bool.noConfusion h); conv => whnf) | (refine And.intro (fun h => Bool.noConfusion h) (fun _ => ?_); conv => whnf))
          refine ⟨_, _, sinstF s 2 ek ev em ez eo (by omega), ?_⟩
          (conv => whnf); repeat (first | (refine And.intro rfl ?_; conv => whnf) | (refine And.intro (fun _ => ?_) (fun h => Bool.noConfusion h); conv => whnf) | (refine And.intro (fun h => Bool.noConfusion h) (fun _ => ?_); conv => whnf))
          refine ⟨by show (0 : Int) ≤ 2; decide, by show (2 : Int).toNat < 5; decide, ?_⟩
          (conv => whnf); repeat (first | (refine And.intro rfl ?_; conv => whnf) | (refine And.intro (fun _ => ?_) (fun h => Bool.noConfusion h); conv => whnf) | (refine And.intro (fun h => Bool.noConfusion h) (fun _ => ?_); conv => whnf))
          refine And.intro (fun hg => ?_) (fun hg => ?_)
          · replace hg : bv s 2 < ev := of_decide_eq_true hg
            obtain ⟨s1, hs1⟩ : ∃ s1, (sinst s ⟨2, ek, ev, em, ez, eo⟩).1 = s1 := ⟨_, rfl⟩
            have hv1 : svalid s1 = true := hs1 ▸ svalid_inst hv
            have hl1 : s1.length ≤ i + 1 := by have := sinst_len s ⟨2, ek, ev, em, ez, eo⟩; rw [hs1] at this; omega
            have hb1 : ∀ x, bv s1 x = bv (sinst s ⟨2, ek, ev, em, ez, eo⟩).1 x ∧ bk s1 x = bk (sinst s ⟨2, ek, ev, em, ez, eo⟩).1 x := fun x => by rw [hs1]; exact ⟨rfl, rfl⟩
            rw [hs1]
            (conv => whnf); repeat (first | (refine And.intro rfl ?_; conv => whnf) | (refine And.intro (fun _ => ?_) (fun h => Bool.noConfusion h); conv => whnf) | (refine And.intro (fun h => Bool.noConfusion h) (fun _ => ?_); conv => whnf))
            refine ⟨by show (0 : Int) ≤ 2; decide, by show (2 : Int).toNat < 5; decide, ?_⟩
            (conv => whnf); repeat (first | (refine And.intro rfl ?_; conv => whnf) | (refine And.intro (fun _ => ?_) (fun h => Bool.noConfusion h); conv => whnf) | (refine And.intro (fun h => Bool.noConfusion h) (fun _ => ?_); conv => whnf))
            refine ⟨by show (0 : Int) ≤ 2; decide, by show (2 : Int).toNat < 5; decide, ?_⟩
            (conv => whnf); repeat (first | (refine And.intro rfl ?_; conv => whnf) | (refine And.intro (fun _ => ?_) (fun h => Bool.noConfusion h); conv => whnf) | (refine And.intro (fun h => Bool.noConfusion h) (fun _ => ?_); conv => whnf))
            refine And.intro (fun hm => ?_) (fun hm => ?_)
            · replace hm : i < M.length := by have := of_decide_eq_true hm; omega
              (conv => whnf); repeat (first | (refine And.intro rfl ?_; conv => whnf) | (refine And.intro (fun _ => ?_) (fun h => Bool.noConfusion h); conv => whnf) | (refine And.intro (fun h => Bool.noConfusion h) (fun _ => ?_); conv => whnf))
              refine ⟨by omega, _, cItem hm, rfl, ?_⟩
              (conv => whnf); repeat (first | (refine And.intro rfl ?_; conv => whnf) | (refine And.intro (fun _ => ?_) (fun h => Bool.noConfusion h); conv => whnf) | (refine And.intro (fun h => Bool.noConfusion h) (fun _ => ?_); conv => whnf))
              refine ⟨by decide, ?_⟩
              (conv => whnf); repeat (first | (refine And.intro rfl ?_; conv => whnf) | (refine And.intro (fun _ => ?_) (fun h => Bool.noConfusion h); conv => whnf) | (refine And.intro (fun h => Bool.noConfusion h) (fun _ => ?_); conv => whnf))
              have hfd := sfindF s1 (iwrap .i64 (M[i].tmod 5)) (by omega)
              rcases hq : lk s1 (iwrap .i64 (M[i].tmod 5)) with _ | o
              · rw [sfind_none hv1 hq] at hfd
                (conv => whnf); repeat (first | (refine And.intro rfl ?_; conv => whnf) | (refine And.intro (fun _ => ?_) (fun h => Bool.noConfusion h); conv => whnf) | (refine And.intro (fun h => Bool.noConfusion h) (fun _ => ?_); conv => whnf))
                refine ⟨_, _, hfd, ?_⟩
                (conv => whnf); repeat (first | (refine And.intro rfl ?_; conv => whnf) | (refine And.intro (fun _ => ?_) (fun h => Bool.noConfusion h); conv => whnf) | (refine And.intro (fun h => Bool.noConfusion h) (fun _ => ?_); conv => whnf))
                obtain ⟨F1, F2, F3⟩ := bestStep (e := ⟨2, ek, ev, em, ez, eo⟩) hv re (s2 := s1) hb1
                have f2 := F1 hg
                have f0 := F3 0 (by show (0 : Int) ≠ 2; decide)
                have f1 := F3 1 (by show (1 : Int) ≠ 2; decide)
                have f3 := F3 3 (by show (3 : Int) ≠ 2; decide)
                have f4 := F3 4 (by show (4 : Int) ≠ 2; decide)
                refine again (i + 1, dEk L k, s1) ⟨hlt, dEk_le hk, hl1, hv1⟩ (by dsimp only; omega) ?_
                (refine And.intro rfl (And.intro rfl ?_)); (repeat' (first | exact trivial | exact rfl | apply And.intro | (refine congrArg (Value.int .i64) (w64_nat ?_); omega)))
                all_goals first | exact congrArg (Value.int .i64) f0.1.symm | exact congrArg (Value.int .i64) f1.1.symm | exact congrArg (Value.int .i64) f2.1.symm | exact congrArg (Value.int .i64) f3.1.symm | exact congrArg (Value.int .i64) f4.1.symm | exact congrArg (Value.int .i64) f0.2.symm | exact congrArg (Value.int .i64) f1.2.symm | exact congrArg (Value.int .i64) f2.2.symm | exact congrArg (Value.int .i64) f3.2.symm | exact congrArg (Value.int .i64) f4.2.symm | (trace_state; sorry)
              · rw [sfind_some hv1 hq] at hfd
                (conv => whnf); repeat (first | (refine And.intro rfl ?_; conv => whnf) | (refine And.intro (fun _ => ?_) (fun h => Bool.noConfusion h); conv => whnf) | (refine And.intro (fun h => Bool.noConfusion h) (fun _ => ?_); conv => whnf))
                refine ⟨_, _, hfd, ?_⟩
                have hob := ((lk_iff hv1).1 hq).2
                rw [← hob] at hq
                (conv => whnf); repeat (first | (refine And.intro rfl ?_; conv => whnf) | (refine And.intro (fun _ => ?_) (fun h => Bool.noConfusion h); conv => whnf) | (refine And.intro (fun h => Bool.noConfusion h) (fun _ => ?_); conv => whnf))
                refine ⟨_, _, srelF s1 o.b o.v o.z o.o 7 i 1 (by omega), ?_⟩
                (conv => whnf); repeat (first | (refine And.intro rfl ?_; conv => whnf) | (refine And.intro (fun _ => ?_) (fun h => Bool.noConfusion h); conv => whnf) | (refine And.intro (fun h => Bool.noConfusion h) (fun _ => ?_); conv => whnf))
                have hrl := srel_lk (tz := 7) (to := i) (m := 1) hv1 hq ⟨by decide, by omega, by decide, by decide⟩
                have hsl := srel_len s1 o.b o.v o.z o.o 7 i 1
                obtain ⟨F1, F2, F3⟩ := bestStep (e := ⟨2, ek, ev, em, ez, eo⟩) hv re (s2 := (srel s1 o.b o.v o.z o.o 7 i 1).1) (fun x => by rw [(bestRel hv1 hq ⟨by decide, by omega, by decide, by decide⟩ x).1, (bestRel hv1 hq ⟨by decide, by omega, by decide, by decide⟩ x).2]; exact hb1 x)
                have f2 := F1 hg
                have f0 := F3 0 (by show (0 : Int) ≠ 2; decide)
                have f1 := F3 1 (by show (1 : Int) ≠ 2; decide)
                have f3 := F3 3 (by show (3 : Int) ≠ 2; decide)
                have f4 := F3 4 (by show (4 : Int) ≠ 2; decide)
                refine again (i + 1, dEk L k, (srel s1 o.b o.v o.z o.o 7 i 1).1) ⟨hlt, dEk_le hk, (by dsimp only; omega), hrl.2.1⟩ (by dsimp only; omega) ?_
                (refine And.intro rfl (And.intro rfl ?_)); (repeat' (first | exact trivial | exact rfl | apply And.intro | (refine congrArg (Value.int .i64) (w64_nat ?_); omega)))
                all_goals first | exact congrArg (Value.int .i64) f0.1.symm | exact congrArg (Value.int .i64) f1.1.symm | exact congrArg (Value.int .i64) f2.1.symm | exact congrArg (Value.int .i64) f3.1.symm | exact congrArg (Value.int .i64) f4.1.symm | exact congrArg (Value.int .i64) f0.2.symm | exact congrArg (Value.int .i64) f1.2.symm | exact congrArg (Value.int .i64) f2.2.symm | exact congrArg (Value.int .i64) f3.2.symm | exact congrArg (Value.int .i64) f4.2.symm | (trace_state; sorry)
            · (conv => whnf); repeat (first | (refine And.intro rfl ?_; conv => whnf) | (refine And.intro (fun _ => ?_) (fun h => Bool.noConfusion h); conv => whnf) | (refine And.intro (fun h => Bool.noConfusion h) (fun _ => ?_); conv => whnf))
              obtain ⟨F1, F2, F3⟩ := bestStep (e := ⟨2, ek, ev, em, ez, eo⟩) hv re (s2 := s1) hb1
              have f2 := F1 hg
              have f0 := F3 0 (by show (0 : Int) ≠ 2; decide)
              have f1 := F3 1 (by show (1 : Int) ≠ 2; decide)
              have f3 := F3 3 (by show (3 : Int) ≠ 2; decide)
              have f4 := F3 4 (by show (4 : Int) ≠ 2; decide)
              refine again (i + 1, dEk L k, s1) ⟨hlt, dEk_le hk, hl1, hv1⟩ (by dsimp only; omega) ?_
              (refine And.intro rfl (And.intro rfl ?_)); (repeat' (first | exact trivial | exact rfl | apply And.intro | (refine congrArg (Value.int .i64) (w64_nat ?_); omega)))
              all_goals first | exact congrArg (Value.int .i64) f0.1.symm | exact congrArg (Value.int .i64) f1.1.symm | exact congrArg (Value.int .i64) f2.1.symm | exact congrArg (Value.int .i64) f3.1.symm | exact congrArg (Value.int .i64) f4.1.symm | exact congrArg (Value.int .i64) f0.2.symm | exact congrArg (Value.int .i64) f1.2.symm | exact congrArg (Value.int .i64) f2.2.symm | exact congrArg (Value.int .i64) f3.2.symm | exact congrArg (Value.int .i64) f4.2.symm | (trace_state; sorry)
          · replace hg : ¬ bv s 2 < ev := of_decide_eq_false hg
            obtain ⟨s1, hs1⟩ : ∃ s1, (sinst s ⟨2, ek, ev, em, ez, eo⟩).1 = s1 := ⟨_, rfl⟩
            have hv1 : svalid s1 = true := hs1 ▸ svalid_inst hv
            have hl1 : s1.length ≤ i + 1 := by have := sinst_len s ⟨2, ek, ev, em, ez, eo⟩; rw [hs1] at this; omega
            have hb1 : ∀ x, bv s1 x = bv (sinst s ⟨2, ek, ev, em, ez, eo⟩).1 x ∧ bk s1 x = bk (sinst s ⟨2, ek, ev, em, ez, eo⟩).1 x := fun x => by rw [hs1]; exact ⟨rfl, rfl⟩
            rw [hs1]
            (conv => whnf); repeat (first | (refine And.intro rfl ?_; conv => whnf) | (refine And.intro (fun _ => ?_) (fun h => Bool.noConfusion h); conv => whnf) | (refine And.intro (fun h => Bool.noConfusion h) (fun _ => ?_); conv => whnf))
            refine And.intro (fun hm => ?_) (fun hm => ?_)
            · replace hm : i < M.length := by have := of_decide_eq_true hm; omega
              (conv => whnf); repeat (first | (refine And.intro rfl ?_; conv => whnf) | (refine And.intro (fun _ => ?_) (fun h => Bool.noConfusion h); conv => whnf) | (refine And.intro (fun h => Bool.noConfusion h) (fun _ => ?_); conv => whnf))
              refine ⟨by omega, _, cItem hm, rfl, ?_⟩
              (conv => whnf); repeat (first | (refine And.intro rfl ?_; conv => whnf) | (refine And.intro (fun _ => ?_) (fun h => Bool.noConfusion h); conv => whnf) | (refine And.intro (fun h => Bool.noConfusion h) (fun _ => ?_); conv => whnf))
              refine ⟨by decide, ?_⟩
              (conv => whnf); repeat (first | (refine And.intro rfl ?_; conv => whnf) | (refine And.intro (fun _ => ?_) (fun h => Bool.noConfusion h); conv => whnf) | (refine And.intro (fun h => Bool.noConfusion h) (fun _ => ?_); conv => whnf))
              have hfd := sfindF s1 (iwrap .i64 (M[i].tmod 5)) (by omega)
              rcases hq : lk s1 (iwrap .i64 (M[i].tmod 5)) with _ | o
              · rw [sfind_none hv1 hq] at hfd
                (conv => whnf); repeat (first | (refine And.intro rfl ?_; conv => whnf) | (refine And.intro (fun _ => ?_) (fun h => Bool.noConfusion h); conv => whnf) | (refine And.intro (fun h => Bool.noConfusion h) (fun _ => ?_); conv => whnf))
                refine ⟨_, _, hfd, ?_⟩
                (conv => whnf); repeat (first | (refine And.intro rfl ?_; conv => whnf) | (refine And.intro (fun _ => ?_) (fun h => Bool.noConfusion h); conv => whnf) | (refine And.intro (fun h => Bool.noConfusion h) (fun _ => ?_); conv => whnf))
                obtain ⟨F1, F2, F3⟩ := bestStep (e := ⟨2, ek, ev, em, ez, eo⟩) hv re (s2 := s1) hb1
                have f2 := F2 hg
                have f0 := F3 0 (by show (0 : Int) ≠ 2; decide)
                have f1 := F3 1 (by show (1 : Int) ≠ 2; decide)
                have f3 := F3 3 (by show (3 : Int) ≠ 2; decide)
                have f4 := F3 4 (by show (4 : Int) ≠ 2; decide)
                refine again (i + 1, dEk L k, s1) ⟨hlt, dEk_le hk, hl1, hv1⟩ (by dsimp only; omega) ?_
                (refine And.intro rfl (And.intro rfl ?_)); (repeat' (first | exact trivial | exact rfl | apply And.intro | (refine congrArg (Value.int .i64) (w64_nat ?_); omega)))
                all_goals first | exact congrArg (Value.int .i64) f0.1.symm | exact congrArg (Value.int .i64) f1.1.symm | exact congrArg (Value.int .i64) f2.1.symm | exact congrArg (Value.int .i64) f3.1.symm | exact congrArg (Value.int .i64) f4.1.symm | exact congrArg (Value.int .i64) f0.2.symm | exact congrArg (Value.int .i64) f1.2.symm | exact congrArg (Value.int .i64) f2.2.symm | exact congrArg (Value.int .i64) f3.2.symm | exact congrArg (Value.int .i64) f4.2.symm | (trace_state; sorry)
              · rw [sfind_some hv1 hq] at hfd
                (conv => whnf); repeat (first | (refine And.intro rfl ?_; conv => whnf) | (refine And.intro (fun _ => ?_) (fun h => Bool.noConfusion h); conv => whnf) | (refine And.intro (fun h => Bool.noConfusion h) (fun _ => ?_); conv => whnf))
                refine ⟨_, _, hfd, ?_⟩
                have hob := ((lk_iff hv1).1 hq).2
                rw [← hob] at hq
                (conv => whnf); repeat (first | (refine And.intro rfl ?_; conv => whnf) | (refine And.intro (fun _ => ?_) (fun h => Bool.noConfusion h); conv => whnf) | (refine And.intro (fun h => Bool.noConfusion h) (fun _ => ?_); conv => whnf))
                refine ⟨_, _, srelF s1 o.b o.v o.z o.o 7 i 1 (by omega), ?_⟩
                (conv => whnf); repeat (first | (refine And.intro rfl ?_; conv => whnf) | (refine And.intro (fun _ => ?_) (fun h => Bool.noConfusion h); conv => whnf) | (refine And.intro (fun h => Bool.noConfusion h) (fun _ => ?_); conv => whnf))
                have hrl := srel_lk (tz := 7) (to := i) (m := 1) hv1 hq ⟨by decide, by omega, by decide, by decide⟩
                have hsl := srel_len s1 o.b o.v o.z o.o 7 i 1
                obtain ⟨F1, F2, F3⟩ := bestStep (e := ⟨2, ek, ev, em, ez, eo⟩) hv re (s2 := (srel s1 o.b o.v o.z o.o 7 i 1).1) (fun x => by rw [(bestRel hv1 hq ⟨by decide, by omega, by decide, by decide⟩ x).1, (bestRel hv1 hq ⟨by decide, by omega, by decide, by decide⟩ x).2]; exact hb1 x)
                have f2 := F2 hg
                have f0 := F3 0 (by show (0 : Int) ≠ 2; decide)
                have f1 := F3 1 (by show (1 : Int) ≠ 2; decide)
                have f3 := F3 3 (by show (3 : Int) ≠ 2; decide)
                have f4 := F3 4 (by show (4 : Int) ≠ 2; decide)
                refine again (i + 1, dEk L k, (srel s1 o.b o.v o.z o.o 7 i 1).1) ⟨hlt, dEk_le hk, (by dsimp only; omega), hrl.2.1⟩ (by dsimp only; omega) ?_
                (refine And.intro rfl (And.intro rfl ?_)); (repeat' (first | exact trivial | exact rfl | apply And.intro | (refine congrArg (Value.int .i64) (w64_nat ?_); omega)))
                all_goals first | exact congrArg (Value.int .i64) f0.1.symm | exact congrArg (Value.int .i64) f1.1.symm | exact congrArg (Value.int .i64) f2.1.symm | exact congrArg (Value.int .i64) f3.1.symm | exact congrArg (Value.int .i64) f4.1.symm | exact congrArg (Value.int .i64) f0.2.symm | exact congrArg (Value.int .i64) f1.2.symm | exact congrArg (Value.int .i64) f2.2.symm | exact congrArg (Value.int .i64) f3.2.symm | exact congrArg (Value.int .i64) f4.2.symm | (trace_state; sorry)
            · (conv => whnf); repeat (first | (refine And.intro rfl ?_; conv => whnf) | (refine And.intro (fun _ => ?_) (fun h => Bool.noConfusion h); conv => whnf) | (refine And.intro (fun h => Bool.noConfusion h) (fun _ => ?_); conv => whnf))
              obtain ⟨F1, F2, F3⟩ := bestStep (e := ⟨2, ek, ev, em, ez, eo⟩) hv re (s2 := s1) hb1
              have f2 := F2 hg
              have f0 := F3 0 (by show (0 : Int) ≠ 2; decide)
              have f1 := F3 1 (by show (1 : Int) ≠ 2; decide)
              have f3 := F3 3 (by show (3 : Int) ≠ 2; decide)
              have f4 := F3 4 (by show (4 : Int) ≠ 2; decide)
              refine again (i + 1, dEk L k, s1) ⟨hlt, dEk_le hk, hl1, hv1⟩ (by dsimp only; omega) ?_
              (refine And.intro rfl (And.intro rfl ?_)); (repeat' (first | exact trivial | exact rfl | apply And.intro | (refine congrArg (Value.int .i64) (w64_nat ?_); omega)))
              all_goals first | exact congrArg (Value.int .i64) f0.1.symm | exact congrArg (Value.int .i64) f1.1.symm | exact congrArg (Value.int .i64) f2.1.symm | exact congrArg (Value.int .i64) f3.1.symm | exact congrArg (Value.int .i64) f4.1.symm | exact congrArg (Value.int .i64) f0.2.symm | exact congrArg (Value.int .i64) f1.2.symm | exact congrArg (Value.int .i64) f2.2.symm | exact congrArg (Value.int .i64) f3.2.symm | exact congrArg (Value.int .i64) f4.2.symm | (trace_state; sorry)
        · (conv => whnf); repeat (first | (refine And.intro rfl ?_; conv => whnf) | (refine And.intro (fun _ => ?_) (fun h => Bool.noConfusion h); conv => whnf) | (refine And.intro (fun h => Bool.noConfusion h) (fun _ => ?_); conv => whnf))
          refine ⟨_, _, hent, ?_⟩
          (conv => whnf); repeat (first | (refine And.intro rfl ?_; conv => whnf) | (refine And.intro (fun _ => ?_) (fun h => Bool.noConfusion h); conv => whnf) | (refine And.intro (fun h => Bool.noConfusion h) (fun _ => ?_); conv => whnf))
          refine ⟨_, _, sinstF s 3 ek ev em ez eo (by omega), ?_⟩
          (conv => whnf); repeat (first | (refine And.intro rfl ?_; conv => whnf) | (refine And.intro (fun _ => ?_) (fun h => Bool.noConfusion h); conv => whnf) | (refine And.intro (fun h => Bool.noConfusion h) (fun _ => ?_); conv => whnf))
          refine ⟨by show (0 : Int) ≤ 3; decide, by show (3 : Int).toNat < 5; decide, ?_⟩
          (conv => whnf); repeat (first | (refine And.intro rfl ?_; conv => whnf) | (refine And.intro (fun _ => ?_) (fun h => Bool.noConfusion h); conv => whnf) | (refine And.intro (fun h => Bool.noConfusion h) (fun _ => ?_); conv => whnf))
          refine And.intro (fun hg => ?_) (fun hg => ?_)
          · replace hg : bv s 3 < ev := of_decide_eq_true hg
            obtain ⟨s1, hs1⟩ : ∃ s1, (sinst s ⟨3, ek, ev, em, ez, eo⟩).1 = s1 := ⟨_, rfl⟩
            have hv1 : svalid s1 = true := hs1 ▸ svalid_inst hv
            have hl1 : s1.length ≤ i + 1 := by have := sinst_len s ⟨3, ek, ev, em, ez, eo⟩; rw [hs1] at this; omega
            have hb1 : ∀ x, bv s1 x = bv (sinst s ⟨3, ek, ev, em, ez, eo⟩).1 x ∧ bk s1 x = bk (sinst s ⟨3, ek, ev, em, ez, eo⟩).1 x := fun x => by rw [hs1]; exact ⟨rfl, rfl⟩
            rw [hs1]
            (conv => whnf); repeat (first | (refine And.intro rfl ?_; conv => whnf) | (refine And.intro (fun _ => ?_) (fun h => Bool.noConfusion h); conv => whnf) | (refine And.intro (fun h => Bool.noConfusion h) (fun _ => ?_); conv => whnf))
            refine ⟨by show (0 : Int) ≤ 3; decide, by show (3 : Int).toNat < 5; decide, ?_⟩
            (conv => whnf); repeat (first | (refine And.intro rfl ?_; conv => whnf) | (refine And.intro (fun _ => ?_) (fun h => Bool.noConfusion h); conv => whnf) | (refine And.intro (fun h => Bool.noConfusion h) (fun _ => ?_); conv => whnf))
            refine ⟨by show (0 : Int) ≤ 3; decide, by show (3 : Int).toNat < 5; decide, ?_⟩
            (conv => whnf); repeat (first | (refine And.intro rfl ?_; conv => whnf) | (refine And.intro (fun _ => ?_) (fun h => Bool.noConfusion h); conv => whnf) | (refine And.intro (fun h => Bool.noConfusion h) (fun _ => ?_); conv => whnf))
            refine And.intro (fun hm => ?_) (fun hm => ?_)
            · replace hm : i < M.length := by have := of_decide_eq_true hm; omega
              (conv => whnf); repeat (first | (refine And.intro rfl ?_; conv => whnf) | (refine And.intro (fun _ => ?_) (fun h => Bool.noConfusion h); conv => whnf) | (refine And.intro (fun h => Bool.noConfusion h) (fun _ => ?_); conv => whnf))
              refine ⟨by omega, _, cItem hm, rfl, ?_⟩
              (conv => whnf); repeat (first | (refine And.intro rfl ?_; conv => whnf) | (refine And.intro (fun _ => ?_) (fun h => Bool.noConfusion h); conv => whnf) | (refine And.intro (fun h => Bool.noConfusion h) (fun _ => ?_); conv => whnf))
              refine ⟨by decide, ?_⟩
              (conv => whnf); repeat (first | (refine And.intro rfl ?_; conv => whnf) | (refine And.intro (fun _ => ?_) (fun h => Bool.noConfusion h); conv => whnf) | (refine And.intro (fun h => Bool.noConfusion h) (fun _ => ?_); conv => whnf))
              have hfd := sfindF s1 (iwrap .i64 (M[i].tmod 5)) (by omega)
              rcases hq : lk s1 (iwrap .i64 (M[i].tmod 5)) with _ | o
              · rw [sfind_none hv1 hq] at hfd
                (conv => whnf); repeat (first | (refine And.intro rfl ?_; conv => whnf) | (refine And.intro (fun _ => ?_) (fun h => Bool.noConfusion h); conv => whnf) | (refine And.intro (fun h => Bool.noConfusion h) (fun _ => ?_); conv => whnf))
                refine ⟨_, _, hfd, ?_⟩
                (conv => whnf); repeat (first | (refine And.intro rfl ?_; conv => whnf) | (refine And.intro (fun _ => ?_) (fun h => Bool.noConfusion h); conv => whnf) | (refine And.intro (fun h => Bool.noConfusion h) (fun _ => ?_); conv => whnf))
                obtain ⟨F1, F2, F3⟩ := bestStep (e := ⟨3, ek, ev, em, ez, eo⟩) hv re (s2 := s1) hb1
                have f3 := F1 hg
                have f0 := F3 0 (by show (0 : Int) ≠ 3; decide)
                have f1 := F3 1 (by show (1 : Int) ≠ 3; decide)
                have f2 := F3 2 (by show (2 : Int) ≠ 3; decide)
                have f4 := F3 4 (by show (4 : Int) ≠ 3; decide)
                refine again (i + 1, dEk L k, s1) ⟨hlt, dEk_le hk, hl1, hv1⟩ (by dsimp only; omega) ?_
                (refine And.intro rfl (And.intro rfl ?_)); (repeat' (first | exact trivial | exact rfl | apply And.intro | (refine congrArg (Value.int .i64) (w64_nat ?_); omega)))
                all_goals first | exact congrArg (Value.int .i64) f0.1.symm | exact congrArg (Value.int .i64) f1.1.symm | exact congrArg (Value.int .i64) f2.1.symm | exact congrArg (Value.int .i64) f3.1.symm | exact congrArg (Value.int .i64) f4.1.symm | exact congrArg (Value.int .i64) f0.2.symm | exact congrArg (Value.int .i64) f1.2.symm | exact congrArg (Value.int .i64) f2.2.symm | exact congrArg (Value.int .i64) f3.2.symm | exact congrArg (Value.int .i64) f4.2.symm | (trace_state; sorry)
              · rw [sfind_some hv1 hq] at hfd
                (conv => whnf); repeat (first | (refine And.intro rfl ?_; conv => whnf) | (refine And.intro (fun _ => ?_) (fun h => Bool.noConfusion h); conv => whnf) | (refine And.intro (fun h => Bool.noConfusion h) (fun _ => ?_); conv => whnf))
                refine ⟨_, _, hfd, ?_⟩
                have hob := ((lk_iff hv1).1 hq).2
                rw [← hob] at hq
                (conv => whnf); repeat (first | (refine And.intro rfl ?_; conv => whnf) | (refine And.intro (fun _ => ?_) (fun h => Bool.noConfusion h); conv => whnf) | (refine And.intro (fun h => Bool.noConfusion h) (fun _ => ?_); conv => whnf))
                refine ⟨_, _, srelF s1 o.b o.v o.z o.o 7 i 1 (by omega), ?_⟩
                (conv => whnf); repeat (first | (refine And.intro rfl ?_; conv => whnf) | (refine And.intro (fun _ => ?_) (fun h => Bool.noConfusion h); conv => whnf) | (refine And.intro (fun h => Bool.noConfusion h) (fun _ => ?_); conv => whnf))
                have hrl := srel_lk (tz := 7) (to := i) (m := 1) hv1 hq ⟨by decide, by omega, by decide, by decide⟩
                have hsl := srel_len s1 o.b o.v o.z o.o 7 i 1
                obtain ⟨F1, F2, F3⟩ := bestStep (e := ⟨3, ek, ev, em, ez, eo⟩) hv re (s2 := (srel s1 o.b o.v o.z o.o 7 i 1).1) (fun x => by rw [(bestRel hv1 hq ⟨by decide, by omega, by decide, by decide⟩ x).1, (bestRel hv1 hq ⟨by decide, by omega, by decide, by decide⟩ x).2]; exact hb1 x)
                have f3 := F1 hg
                have f0 := F3 0 (by show (0 : Int) ≠ 3; decide)
                have f1 := F3 1 (by show (1 : Int) ≠ 3; decide)
                have f2 := F3 2 (by show (2 : Int) ≠ 3; decide)
                have f4 := F3 4 (by show (4 : Int) ≠ 3; decide)
                refine again (i + 1, dEk L k, (srel s1 o.b o.v o.z o.o 7 i 1).1) ⟨hlt, dEk_le hk, (by dsimp only; omega), hrl.2.1⟩ (by dsimp only; omega) ?_
                (refine And.intro rfl (And.intro rfl ?_)); (repeat' (first | exact trivial | exact rfl | apply And.intro | (refine congrArg (Value.int .i64) (w64_nat ?_); omega)))
                all_goals first | exact congrArg (Value.int .i64) f0.1.symm | exact congrArg (Value.int .i64) f1.1.symm | exact congrArg (Value.int .i64) f2.1.symm | exact congrArg (Value.int .i64) f3.1.symm | exact congrArg (Value.int .i64) f4.1.symm | exact congrArg (Value.int .i64) f0.2.symm | exact congrArg (Value.int .i64) f1.2.symm | exact congrArg (Value.int .i64) f2.2.symm | exact congrArg (Value.int .i64) f3.2.symm | exact congrArg (Value.int .i64) f4.2.symm | (trace_state; sorry)
            · (conv => whnf); repeat (first | (refine And.intro rfl ?_; conv => whnf) | (refine And.intro (fun _ => ?_) (fun h => Bool.noConfusion h); conv => whnf) | (refine And.intro (fun h => Bool.noConfusion h) (fun _ => ?_); conv => whnf))
              obtain ⟨F1, F2, F3⟩ := bestStep (e := ⟨3, ek, ev, em, ez, eo⟩) hv re (s2 := s1) hb1
              have f3 := F1 hg
              have f0 := F3 0 (by show (0 : Int) ≠ 3; decide)
              have f1 := F3 1 (by show (1 : Int) ≠ 3; decide)
              have f2 := F3 2 (by show (2 : Int) ≠ 3; decide)
              have f4 := F3 4 (by show (4 : Int) ≠ 3; decide)
              refine again (i + 1, dEk L k, s1) ⟨hlt, dEk_le hk, hl1, hv1⟩ (by dsimp only; omega) ?_
              (refine And.intro rfl (And.intro rfl ?_)); (repeat' (first | exact trivial | exact rfl | apply And.intro | (refine congrArg (Value.int .i64) (w64_nat ?_); omega)))
              all_goals first | exact congrArg (Value.int .i64) f0.1.symm | exact congrArg (Value.int .i64) f1.1.symm | exact congrArg (Value.int .i64) f2.1.symm | exact congrArg (Value.int .i64) f3.1.symm | exact congrArg (Value.int .i64) f4.1.symm | exact congrArg (Value.int .i64) f0.2.symm | exact congrArg (Value.int .i64) f1.2.symm | exact congrArg (Value.int .i64) f2.2.symm | exact congrArg (Value.int .i64) f3.2.symm | exact congrArg (Value.int .i64) f4.2.symm | (trace_state; sorry)
          · replace hg : ¬ bv s 3 < ev := of_decide_eq_false hg
            obtain ⟨s1, hs1⟩ : ∃ s1, (sinst s ⟨3, ek, ev, em, ez, eo⟩).1 = s1 := ⟨_, rfl⟩
            have hv1 : svalid s1 = true := hs1 ▸ svalid_inst hv
            have hl1 : s1.length ≤ i + 1 := by have := sinst_len s ⟨3, ek, ev, em, ez, eo⟩; rw [hs1] at this; omega
            have hb1 : ∀ x, bv s1 x = bv (sinst s ⟨3, ek, ev, em, ez, eo⟩).1 x ∧ bk s1 x = bk (sinst s ⟨3, ek, ev, em, ez, eo⟩).1 x := fun x => by rw [hs1]; exact ⟨rfl, rfl⟩
            rw [hs1]
            (conv => whnf); repeat (first | (refine And.intro rfl ?_; conv => whnf) | (refine And.intro (fun _ => ?_) (fun h => Bool.noConfusion h); conv => whnf) | (refine And.intro (fun h => Bool.noConfusion h) (fun _ => ?_); conv => whnf))
            refine And.intro (fun hm => ?_) (fun hm => ?_)
            · replace hm : i < M.length := by have := of_decide_eq_true hm; omega
              (conv => whnf); repeat (first | (refine And.intro rfl ?_; conv => whnf) | (refine And.intro (fun _ => ?_) (fun h => Bool.noConfusion h); conv => whnf) | (refine And.intro (fun h => Bool.noConfusion h) (fun _ => ?_); conv => whnf))
              refine ⟨by omega, _, cItem hm, rfl, ?_⟩
              (conv => whnf); repeat (first | (refine And.intro rfl ?_; conv => whnf) | (refine And.intro (fun _ => ?_) (fun h => Bool.noConfusion h); conv => whnf) | (refine And.intro (fun h => Bool.noConfusion h) (fun _ => ?_); conv => whnf))
              refine ⟨by decide, ?_⟩
              (conv => whnf); repeat (first | (refine And.intro rfl ?_; conv => whnf) | (refine And.intro (fun _ => ?_) (fun h => Bool.noConfusion h); conv => whnf) | (refine And.intro (fun h => Bool.noConfusion h) (fun _ => ?_); conv => whnf))
              have hfd := sfindF s1 (iwrap .i64 (M[i].tmod 5)) (by omega)
              rcases hq : lk s1 (iwrap .i64 (M[i].tmod 5)) with _ | o
              · rw [sfind_none hv1 hq] at hfd
                (conv => whnf); repeat (first | (refine And.intro rfl ?_; conv => whnf) | (refine And.intro (fun _ => ?_) (fun h => Bool.noConfusion h); conv => whnf) | (refine And.intro (fun h => Bool.noConfusion h) (fun _ => ?_); conv => whnf))
                refine ⟨_, _, hfd, ?_⟩
                (conv => whnf); repeat (first | (refine And.intro rfl ?_; conv => whnf) | (refine And.intro (fun _ => ?_) (fun h => Bool.noConfusion h); conv => whnf) | (refine And.intro (fun h => Bool.noConfusion h) (fun _ => ?_); conv => whnf))
                obtain ⟨F1, F2, F3⟩ := bestStep (e := ⟨3, ek, ev, em, ez, eo⟩) hv re (s2 := s1) hb1
                have f3 := F2 hg
                have f0 := F3 0 (by show (0 : Int) ≠ 3; decide)
                have f1 := F3 1 (by show (1 : Int) ≠ 3; decide)
                have f2 := F3 2 (by show (2 : Int) ≠ 3; decide)
                have f4 := F3 4 (by show (4 : Int) ≠ 3; decide)
                refine again (i + 1, dEk L k, s1) ⟨hlt, dEk_le hk, hl1, hv1⟩ (by dsimp only; omega) ?_
                (refine And.intro rfl (And.intro rfl ?_)); (repeat' (first | exact trivial | exact rfl | apply And.intro | (refine congrArg (Value.int .i64) (w64_nat ?_); omega)))
                all_goals first | exact congrArg (Value.int .i64) f0.1.symm | exact congrArg (Value.int .i64) f1.1.symm | exact congrArg (Value.int .i64) f2.1.symm | exact congrArg (Value.int .i64) f3.1.symm | exact congrArg (Value.int .i64) f4.1.symm | exact congrArg (Value.int .i64) f0.2.symm | exact congrArg (Value.int .i64) f1.2.symm | exact congrArg (Value.int .i64) f2.2.symm | exact congrArg (Value.int .i64) f3.2.symm | exact congrArg (Value.int .i64) f4.2.symm | (trace_state; sorry)
              · rw [sfind_some hv1 hq] at hfd
                (conv => whnf); repeat (first | (refine And.intro rfl ?_; conv => whnf) | (refine And.intro (fun _ => ?_) (fun h => Bool.noConfusion h); conv => whnf) | (refine And.intro (fun h => Bool.noConfusion h) (fun _ => ?_); conv => whnf))
                refine ⟨_, _, hfd, ?_⟩
                have hob := ((lk_iff hv1).1 hq).2
                rw [← hob] at hq
                (conv => whnf); repeat (first | (refine And.intro rfl ?_; conv => whnf) | (refine And.intro (fun _ => ?_) (fun h => Bool.noConfusion h); conv => whnf) | (refine And.intro (fun h => Bool.noConfusion h) (fun _ => ?_); conv => whnf))
                refine ⟨_, _, srelF s1 o.b o.v o.z o.o 7 i 1 (by omega), ?_⟩
                (conv => whnf); repeat (first | (refine And.intro rfl ?_; conv => whnf) | (refine And.intro (fun _ => ?_) (fun h => Bool.noConfusion h); conv => whnf) | (refine And.intro (fun h => Bool.noConfusion h) (fun _ => ?_); conv => whnf))
                have hrl := srel_lk (tz := 7) (to := i) (m := 1) hv1 hq ⟨by decide, by omega, by decide, by decide⟩
                have hsl := srel_len s1 o.b o.v o.z o.o 7 i 1
                obtain ⟨F1, F2, F3⟩ := bestStep (e := ⟨3, ek, ev, em, ez, eo⟩) hv re (s2 := (srel s1 o.b o.v o.z o.o 7 i 1).1) (fun x => by rw [(bestRel hv1 hq ⟨by decide, by omega, by decide, by decide⟩ x).1, (bestRel hv1 hq ⟨by decide, by omega, by decide, by decide⟩ x).2]; exact hb1 x)
                have f3 := F2 hg
                have f0 := F3 0 (by show (0 : Int) ≠ 3; decide)
                have f1 := F3 1 (by show (1 : Int) ≠ 3; decide)
                have f2 := F3 2 (by show (2 : Int) ≠ 3; decide)
                have f4 := F3 4 (by show (4 : Int) ≠ 3; decide)
                refine again (i + 1, dEk L k, (srel s1 o.b o.v o.z o.o 7 i 1).1) ⟨hlt, dEk_le hk, (by dsimp only; omega), hrl.2.1⟩ (by dsimp only; omega) ?_
                (refine And.intro rfl (And.intro rfl ?_)); (repeat' (first | exact trivial | exact rfl | apply And.intro | (refine congrArg (Value.int .i64) (w64_nat ?_); omega)))
                all_goals first | exact congrArg (Value.int .i64) f0.1.symm | exact congrArg (Value.int .i64) f1.1.symm | exact congrArg (Value.int .i64) f2.1.symm | exact congrArg (Value.int .i64) f3.1.symm | exact congrArg (Value.int .i64) f4.1.symm | exact congrArg (Value.int .i64) f0.2.symm | exact congrArg (Value.int .i64) f1.2.symm | exact congrArg (Value.int .i64) f2.2.symm | exact congrArg (Value.int .i64) f3.2.symm | exact congrArg (Value.int .i64) f4.2.symm | (trace_state; sorry)
            · (conv => whnf); repeat (first | (refine And.intro rfl ?_; conv => whnf) | (refine And.intro (fun _ => ?_) (fun h => Bool.noConfusion h); conv => whnf) | (refine And.intro (fun h => Bool.noConfusion h) (fun _ => ?_); conv => whnf))
              obtain ⟨F1, F2, F3⟩ := bestStep (e := ⟨3, ek, ev, em, ez, eo⟩) hv re (s2 := s1) hb1
              have f3 := F2 hg
              have f0 := F3 0 (by show (0 : Int) ≠ 3; decide)
              have f1 := F3 1 (by show (1 : Int) ≠ 3; decide)
              have f2 := F3 2 (by show (2 : Int) ≠ 3; decide)
              have f4 := F3 4 (by show (4 : Int) ≠ 3; decide)
              refine again (i + 1, dEk L k, s1) ⟨hlt, dEk_le hk, hl1, hv1⟩ (by dsimp only; omega) ?_
              (refine And.intro rfl (And.intro rfl ?_)); (repeat' (first | exact trivial | exact rfl | apply And.intro | (refine congrArg (Value.int .i64) (w64_nat ?_); omega)))
              all_goals first | exact congrArg (Value.int .i64) f0.1.symm | exact congrArg (Value.int .i64) f1.1.symm | exact congrArg (Value.int .i64) f2.1.symm | exact congrArg (Value.int .i64) f3.1.symm | exact congrArg (Value.int .i64) f4.1.symm | exact congrArg (Value.int .i64) f0.2.symm | exact congrArg (Value.int .i64) f1.2.symm | exact congrArg (Value.int .i64) f2.2.symm | exact congrArg (Value.int .i64) f3.2.symm | exact congrArg (Value.int .i64) f4.2.symm | (trace_state; sorry)
        · (conv => whnf); repeat (first | (refine And.intro rfl ?_; conv => whnf) | (refine And.intro (fun _ => ?_) (fun h => Bool.noConfusion h); conv => whnf) | (refine And.intro (fun h => Bool.noConfusion h) (fun _ => ?_); conv => whnf))
          refine ⟨_, _, hent, ?_⟩
          (conv => whnf); repeat (first | (refine And.intro rfl ?_; conv => whnf) | (refine And.intro (fun _ => ?_) (fun h => Bool.noConfusion h); conv => whnf) | (refine And.intro (fun h => Bool.noConfusion h) (fun _ => ?_); conv => whnf))
          refine ⟨_, _, sinstF s 4 ek ev em ez eo (by omega), ?_⟩
          (conv => whnf); repeat (first | (refine And.intro rfl ?_; conv => whnf) | (refine And.intro (fun _ => ?_) (fun h => Bool.noConfusion h); conv => whnf) | (refine And.intro (fun h => Bool.noConfusion h) (fun _ => ?_); conv => whnf))
          refine ⟨by show (0 : Int) ≤ 4; decide, by show (4 : Int).toNat < 5; decide, ?_⟩
          (conv => whnf); repeat (first | (refine And.intro rfl ?_; conv => whnf) | (refine And.intro (fun _ => ?_) (fun h => Bool.noConfusion h); conv => whnf) | (refine And.intro (fun h => Bool.noConfusion h) (fun _ => ?_); conv => whnf))
          refine And.intro (fun hg => ?_) (fun hg => ?_)
          · replace hg : bv s 4 < ev := of_decide_eq_true hg
            obtain ⟨s1, hs1⟩ : ∃ s1, (sinst s ⟨4, ek, ev, em, ez, eo⟩).1 = s1 := ⟨_, rfl⟩
            have hv1 : svalid s1 = true := hs1 ▸ svalid_inst hv
            have hl1 : s1.length ≤ i + 1 := by have := sinst_len s ⟨4, ek, ev, em, ez, eo⟩; rw [hs1] at this; omega
            have hb1 : ∀ x, bv s1 x = bv (sinst s ⟨4, ek, ev, em, ez, eo⟩).1 x ∧ bk s1 x = bk (sinst s ⟨4, ek, ev, em, ez, eo⟩).1 x := fun x => by rw [hs1]; exact ⟨rfl, rfl⟩
            rw [hs1]
            (conv => whnf); repeat (first | (refine And.intro rfl ?_; conv => whnf) | (refine And.intro (fun _ => ?_) (fun h => Bool.noConfusion h); conv => whnf) | (refine And.intro (fun h => Bool.noConfusion h) (fun _ => ?_); conv => whnf))
            refine ⟨by show (0 : Int) ≤ 4; decide, by show (4 : Int).toNat < 5; decide, ?_⟩
            (conv => whnf); repeat (first | (refine And.intro rfl ?_; conv => whnf) | (refine And.intro (fun _ => ?_) (fun h => Bool.noConfusion h); conv => whnf) | (refine And.intro (fun h => Bool.noConfusion h) (fun _ => ?_); conv => whnf))
            refine ⟨by show (0 : Int) ≤ 4; decide, by show (4 : Int).toNat < 5; decide, ?_⟩
            (conv => whnf); repeat (first | (refine And.intro rfl ?_; conv => whnf) | (refine And.intro (fun _ => ?_) (fun h => Bool.noConfusion h); conv => whnf) | (refine And.intro (fun h => Bool.noConfusion h) (fun _ => ?_); conv => whnf))
            refine And.intro (fun hm => ?_) (fun hm => ?_)
            · replace hm : i < M.length := by have := of_decide_eq_true hm; omega
              (conv => whnf); repeat (first | (refine And.intro rfl ?_; conv => whnf) | (refine And.intro (fun _ => ?_) (fun h => Bool.noConfusion h); conv => whnf) | (refine And.intro (fun h => Bool.noConfusion h) (fun _ => ?_); conv => whnf))
              refine ⟨by omega, _, cItem hm, rfl, ?_⟩
              (conv => whnf); repeat (first | (refine And.intro rfl ?_; conv => whnf) | (refine And.intro (fun _ => ?_) (fun h => Bool.noConfusion h); conv => whnf) | (refine And.intro (fun h => Bool.noConfusion h) (fun _ => ?_); conv => whnf))
              refine ⟨by decide, ?_⟩
              (conv => whnf); repeat (first | (refine And.intro rfl ?_; conv => whnf) | (refine And.intro (fun _ => ?_) (fun h => Bool.noConfusion h); conv => whnf) | (refine And.intro (fun h => Bool.noConfusion h) (fun _ => ?_); conv => whnf))
              have hfd := sfindF s1 (iwrap .i64 (M[i].tmod 5)) (by omega)
              rcases hq : lk s1 (iwrap .i64 (M[i].tmod 5)) with _ | o
              · rw [sfind_none hv1 hq] at hfd
                (conv => whnf); repeat (first | (refine And.intro rfl ?_; conv => whnf) | (refine And.intro (fun _ => ?_) (fun h => Bool.noConfusion h); conv => whnf) | (refine And.intro (fun h => Bool.noConfusion h) (fun _ => ?_); conv => whnf))
                refine ⟨_, _, hfd, ?_⟩
                (conv => whnf); repeat (first | (refine And.intro rfl ?_; conv => whnf) | (refine And.intro (fun _ => ?_) (fun h => Bool.noConfusion h); conv => whnf) | (refine And.intro (fun h => Bool.noConfusion h) (fun _ => ?_); conv => whnf))
                obtain ⟨F1, F2, F3⟩ := bestStep (e := ⟨4, ek, ev, em, ez, eo⟩) hv re (s2 := s1) hb1
                have f4 := F1 hg
                have f0 := F3 0 (by show (0 : Int) ≠ 4; decide)
                have f1 := F3 1 (by show (1 : Int) ≠ 4; decide)
                have f2 := F3 2 (by show (2 : Int) ≠ 4; decide)
                have f3 := F3 3 (by show (3 : Int) ≠ 4; decide)
                refine again (i + 1, dEk L k, s1) ⟨hlt, dEk_le hk, hl1, hv1⟩ (by dsimp only; omega) ?_
                (refine And.intro rfl (And.intro rfl ?_)); (repeat' (first | exact trivial | exact rfl | apply And.intro | (refine congrArg (Value.int .i64) (w64_nat ?_); omega)))
                all_goals first | exact congrArg (Value.int .i64) f0.1.symm | exact congrArg (Value.int .i64) f1.1.symm | exact congrArg (Value.int .i64) f2.1.symm | exact congrArg (Value.int .i64) f3.1.symm | exact congrArg (Value.int .i64) f4.1.symm | exact congrArg (Value.int .i64) f0.2.symm | exact congrArg (Value.int .i64) f1.2.symm | exact congrArg (Value.int .i64) f2.2.symm | exact congrArg (Value.int .i64) f3.2.symm | exact congrArg (Value.int .i64) f4.2.symm | (trace_state; sorry)
              · rw [sfind_some hv1 hq] at hfd
                (conv => whnf); repeat (first | (refine And.intro rfl ?_; conv => whnf) | (refine And.intro (fun _ => ?_) (fun h => Bool.noConfusion h); conv => whnf) | (refine And.intro (fun h => Bool.noConfusion h) (fun _ => ?_); conv => whnf))
                refine ⟨_, _, hfd, ?_⟩
                have hob := ((lk_iff hv1).1 hq).2
                rw [← hob] at hq
                (conv => whnf); repeat (first | (refine And.intro rfl ?_; conv => whnf) | (refine And.intro (fun _ => ?_) (fun h => Bool.noConfusion h); conv => whnf) | (refine And.intro (fun h => Bool.noConfusion h) (fun _ => ?_); conv => whnf))
                refine ⟨_, _, srelF s1 o.b o.v o.z o.o 7 i 1 (by omega), ?_⟩
                (conv => whnf); repeat (first | (refine And.intro rfl ?_; conv => whnf) | (refine And.intro (fun _ => ?_) (fun h => Bool.noConfusion h); conv => whnf) | (refine And.intro (fun h => Bool.noConfusion h) (fun _ => ?_); conv => whnf))
                have hrl := srel_lk (tz := 7) (to := i) (m := 1) hv1 hq ⟨by decide, by omega, by decide, by decide⟩
                have hsl := srel_len s1 o.b o.v o.z o.o 7 i 1
                obtain ⟨F1, F2, F3⟩ := bestStep (e := ⟨4, ek, ev, em, ez, eo⟩) hv re (s2 := (srel s1 o.b o.v o.z o.o 7 i 1).1) (fun x => by rw [(bestRel hv1 hq ⟨by decide, by omega, by decide, by decide⟩ x).1, (bestRel hv1 hq ⟨by decide, by omega, by decide, by decide⟩ x).2]; exact hb1 x)
                have f4 := F1 hg
                have f0 := F3 0 (by show (0 : Int) ≠ 4; decide)
                have f1 := F3 1 (by show (1 : Int) ≠ 4; decide)
                have f2 := F3 2 (by show (2 : Int) ≠ 4; decide)
                have f3 := F3 3 (by show (3 : Int) ≠ 4; decide)
                refine again (i + 1, dEk L k, (srel s1 o.b o.v o.z o.o 7 i 1).1) ⟨hlt, dEk_le hk, (by dsimp only; omega), hrl.2.1⟩ (by dsimp only; omega) ?_
                (refine And.intro rfl (And.intro rfl ?_)); (repeat' (first | exact trivial | exact rfl | apply And.intro | (refine congrArg (Value.int .i64) (w64_nat ?_); omega)))
                all_goals first | exact congrArg (Value.int .i64) f0.1.symm | exact congrArg (Value.int .i64) f1.1.symm | exact congrArg (Value.int .i64) f2.1.symm | exact congrArg (Value.int .i64) f3.1.symm | exact congrArg (Value.int .i64) f4.1.symm | exact congrArg (Value.int .i64) f0.2.symm | exact congrArg (Value.int .i64) f1.2.symm | exact congrArg (Value.int .i64) f2.2.symm | exact congrArg (Value.int .i64) f3.2.symm | exact congrArg (Value.int .i64) f4.2.symm | (trace_state; sorry)
            · (conv => whnf); repeat (first | (refine And.intro rfl ?_; conv => whnf) | (refine And.intro (fun _ => ?_) (fun h => Bool.noConfusion h); conv => whnf) | (refine And.intro (fun h => Bool.noConfusion h) (fun _ => ?_); conv => whnf))
              obtain ⟨F1, F2, F3⟩ := bestStep (e := ⟨4, ek, ev, em, ez, eo⟩) hv re (s2 := s1) hb1
              have f4 := F1 hg
              have f0 := F3 0 (by show (0 : Int) ≠ 4; decide)
              have f1 := F3 1 (by show (1 : Int) ≠ 4; decide)
              have f2 := F3 2 (by show (2 : Int) ≠ 4; decide)
              have f3 := F3 3 (by show (3 : Int) ≠ 4; decide)
              refine again (i + 1, dEk L k, s1) ⟨hlt, dEk_le hk, hl1, hv1⟩ (by dsimp only; omega) ?_
              (refine And.intro rfl (And.intro rfl ?_)); (repeat' (first | exact trivial | exact rfl | apply And.intro | (refine congrArg (Value.int .i64) (w64_nat ?_); omega)))
              all_goals first | exact congrArg (Value.int .i64) f0.1.symm | exact congrArg (Value.int .i64) f1.1.symm | exact congrArg (Value.int .i64) f2.1.symm | exact congrArg (Value.int .i64) f3.1.symm | exact congrArg (Value.int .i64) f4.1.symm | exact congrArg (Value.int .i64) f0.2.symm | exact congrArg (Value.int .i64) f1.2.symm | exact congrArg (Value.int .i64) f2.2.symm | exact congrArg (Value.int .i64) f3.2.symm | exact congrArg (Value.int .i64) f4.2.symm | (trace_state; sorry)
          · replace hg : ¬ bv s 4 < ev := of_decide_eq_false hg
            obtain ⟨s1, hs1⟩ : ∃ s1, (sinst s ⟨4, ek, ev, em, ez, eo⟩).1 = s1 := ⟨_, rfl⟩
            have hv1 : svalid s1 = true := hs1 ▸ svalid_inst hv
            have hl1 : s1.length ≤ i + 1 := by have := sinst_len s ⟨4, ek, ev, em, ez, eo⟩; rw [hs1] at this; omega
            have hb1 : ∀ x, bv s1 x = bv (sinst s ⟨4, ek, ev, em, ez, eo⟩).1 x ∧ bk s1 x = bk (sinst s ⟨4, ek, ev, em, ez, eo⟩).1 x := fun x => by rw [hs1]; exact ⟨rfl, rfl⟩
            rw [hs1]
            (conv => whnf); repeat (first | (refine And.intro rfl ?_; conv => whnf) | (refine And.intro (fun _ => ?_) (fun h => Bool.noConfusion h); conv => whnf) | (refine And.intro (fun h => Bool.noConfusion h) (fun _ => ?_); conv => whnf))
            refine And.intro (fun hm => ?_) (fun hm => ?_)
            · replace hm : i < M.length := by have := of_decide_eq_true hm; omega
              (conv => whnf); repeat (first | (refine And.intro rfl ?_; conv => whnf) | (refine And.intro (fun _ => ?_) (fun h => Bool.noConfusion h); conv => whnf) | (refine And.intro (fun h => Bool.noConfusion h) (fun _ => ?_); conv => whnf))
              refine ⟨by omega, _, cItem hm, rfl, ?_⟩
              (conv => whnf); repeat (first | (refine And.intro rfl ?_; conv => whnf) | (refine And.intro (fun _ => ?_) (fun h => Bool.noConfusion h); conv => whnf) | (refine And.intro (fun h => Bool.noConfusion h) (fun _ => ?_); conv => whnf))
              refine ⟨by decide, ?_⟩
              (conv => whnf); repeat (first | (refine And.intro rfl ?_; conv => whnf) | (refine And.intro (fun _ => ?_) (fun h => Bool.noConfusion h); conv => whnf) | (refine And.intro (fun h => Bool.noConfusion h) (fun _ => ?_); conv => whnf))
              have hfd := sfindF s1 (iwrap .i64 (M[i].tmod 5)) (by omega)
              rcases hq : lk s1 (iwrap .i64 (M[i].tmod 5)) with _ | o
              · rw [sfind_none hv1 hq] at hfd
                (conv => whnf); repeat (first | (refine And.intro rfl ?_; conv => whnf) | (refine And.intro (fun _ => ?_) (fun h => Bool.noConfusion h); conv => whnf) | (refine And.intro (fun h => Bool.noConfusion h) (fun _ => ?_); conv => whnf))
                refine ⟨_, _, hfd, ?_⟩
                (conv => whnf); repeat (first | (refine And.intro rfl ?_; conv => whnf) | (refine And.intro (fun _ => ?_) (fun h => Bool.noConfusion h); conv => whnf) | (refine And.intro (fun h => Bool.noConfusion h) (fun _ => ?_); conv => whnf))
                obtain ⟨F1, F2, F3⟩ := bestStep (e := ⟨4, ek, ev, em, ez, eo⟩) hv re (s2 := s1) hb1
                have f4 := F2 hg
                have f0 := F3 0 (by show (0 : Int) ≠ 4; decide)
                have f1 := F3 1 (by show (1 : Int) ≠ 4; decide)
                have f2 := F3 2 (by show (2 : Int) ≠ 4; decide)
                have f3 := F3 3 (by show (3 : Int) ≠ 4; decide)
                refine again (i + 1, dEk L k, s1) ⟨hlt, dEk_le hk, hl1, hv1⟩ (by dsimp only; omega) ?_
                (refine And.intro rfl (And.intro rfl ?_)); (repeat' (first | exact trivial | exact rfl | apply And.intro | (refine congrArg (Value.int .i64) (w64_nat ?_); omega)))
                all_goals first | exact congrArg (Value.int .i64) f0.1.symm | exact congrArg (Value.int .i64) f1.1.symm | exact congrArg (Value.int .i64) f2.1.symm | exact congrArg (Value.int .i64) f3.1.symm | exact congrArg (Value.int .i64) f4.1.symm | exact congrArg (Value.int .i64) f0.2.symm | exact congrArg (Value.int .i64) f1.2.symm | exact congrArg (Value.int .i64) f2.2.symm | exact congrArg (Value.int .i64) f3.2.symm | exact congrArg (Value.int .i64) f4.2.symm | (trace_state; sorry)
              · rw [sfind_some hv1 hq] at hfd
                (conv => whnf); repeat (first | (refine And.intro rfl ?_; conv => whnf) | (refine And.intro (fun _ => ?_) (fun h => Bool.noConfusion h); conv => whnf) | (refine And.intro (fun h => Bool.noConfusion h) (fun _ => ?_); conv => whnf))
                refine ⟨_, _, hfd, ?_⟩
                have hob := ((lk_iff hv1).1 hq).2
                rw [← hob] at hq
                (conv => whnf); repeat (first | (refine And.intro rfl ?_; conv => whnf) | (refine And.intro (fun _ => ?_) (fun h => Bool.noConfusion h); conv => whnf) | (refine And.intro (fun h => Bool.noConfusion h) (fun _ => ?_); conv => whnf))
                refine ⟨_, _, srelF s1 o.b o.v o.z o.o 7 i 1 (by omega), ?_⟩
                (conv => whnf); repeat (first | (refine And.intro rfl ?_; conv => whnf) | (refine And.intro (fun _ => ?_) (fun h => Bool.noConfusion h); conv => whnf) | (refine And.intro (fun h => Bool.noConfusion h) (fun _ => ?_); conv => whnf))
                have hrl := srel_lk (tz := 7) (to := i) (m := 1) hv1 hq ⟨by decide, by omega, by decide, by decide⟩
                have hsl := srel_len s1 o.b o.v o.z o.o 7 i 1
                obtain ⟨F1, F2, F3⟩ := bestStep (e := ⟨4, ek, ev, em, ez, eo⟩) hv re (s2 := (srel s1 o.b o.v o.z o.o 7 i 1).1) (fun x => by rw [(bestRel hv1 hq ⟨by decide, by omega, by decide, by decide⟩ x).1, (bestRel hv1 hq ⟨by decide, by omega, by decide, by decide⟩ x).2]; exact hb1 x)
                have f4 := F2 hg
                have f0 := F3 0 (by show (0 : Int) ≠ 4; decide)
                have f1 := F3 1 (by show (1 : Int) ≠ 4; decide)
                have f2 := F3 2 (by show (2 : Int) ≠ 4; decide)
                have f3 := F3 3 (by show (3 : Int) ≠ 4; decide)
                refine again (i + 1, dEk L k, (srel s1 o.b o.v o.z o.o 7 i 1).1) ⟨hlt, dEk_le hk, (by dsimp only; omega), hrl.2.1⟩ (by dsimp only; omega) ?_
                (refine And.intro rfl (And.intro rfl ?_)); (repeat' (first | exact trivial | exact rfl | apply And.intro | (refine congrArg (Value.int .i64) (w64_nat ?_); omega)))
                all_goals first | exact congrArg (Value.int .i64) f0.1.symm | exact congrArg (Value.int .i64) f1.1.symm | exact congrArg (Value.int .i64) f2.1.symm | exact congrArg (Value.int .i64) f3.1.symm | exact congrArg (Value.int .i64) f4.1.symm | exact congrArg (Value.int .i64) f0.2.symm | exact congrArg (Value.int .i64) f1.2.symm | exact congrArg (Value.int .i64) f2.2.symm | exact congrArg (Value.int .i64) f3.2.symm | exact congrArg (Value.int .i64) f4.2.symm | (trace_state; sorry)
            · (conv => whnf); repeat (first | (refine And.intro rfl ?_; conv => whnf) | (refine And.intro (fun _ => ?_) (fun h => Bool.noConfusion h); conv => whnf) | (refine And.intro (fun h => Bool.noConfusion h) (fun _ => ?_); conv => whnf))
              obtain ⟨F1, F2, F3⟩ := bestStep (e := ⟨4, ek, ev, em, ez, eo⟩) hv re (s2 := s1) hb1
              have f4 := F2 hg
              have f0 := F3 0 (by show (0 : Int) ≠ 4; decide)
              have f1 := F3 1 (by show (1 : Int) ≠ 4; decide)
              have f2 := F3 2 (by show (2 : Int) ≠ 4; decide)
              have f3 := F3 3 (by show (3 : Int) ≠ 4; decide)
              refine again (i + 1, dEk L k, s1) ⟨hlt, dEk_le hk, hl1, hv1⟩ (by dsimp only; omega) ?_
              (refine And.intro rfl (And.intro rfl ?_)); (repeat' (first | exact trivial | exact rfl | apply And.intro | (refine congrArg (Value.int .i64) (w64_nat ?_); omega)))
              all_goals first | exact congrArg (Value.int .i64) f0.1.symm | exact congrArg (Value.int .i64) f1.1.symm | exact congrArg (Value.int .i64) f2.1.symm | exact congrArg (Value.int .i64) f3.1.symm | exact congrArg (Value.int .i64) f4.1.symm | exact congrArg (Value.int .i64) f0.2.symm | exact congrArg (Value.int .i64) f1.2.symm | exact congrArg (Value.int .i64) f2.2.symm | exact congrArg (Value.int .i64) f3.2.symm | exact congrArg (Value.int .i64) f4.2.symm | (trace_state; sorry)
      · (conv => whnf); repeat (first | (refine And.intro rfl ?_; conv => whnf) | (refine And.intro (fun _ => ?_) (fun h => Bool.noConfusion h); conv => whnf) | (refine And.intro (fun h => Bool.noConfusion h) (fun _ => ?_); conv => whnf))
        refine vc_loop [6, 7, 8] [7, 8] (X := Nat) (fun x gs => [(13, ATint x)]) (fun x gs => []) (fun x => x ≤ 5) (fun x => 5 - x) _ (Ghost.refl _) 0 (by omega) ?_ ?_
        · (refine And.intro rfl (And.intro rfl ?_)); (repeat' (first | exact trivial | exact rfl | apply And.intro | (refine congrArg (Value.int .i64) (w64_nat ?_); omega)))
        rintro gs j hj
        (conv => whnf); repeat (first | (refine And.intro rfl ?_; conv => whnf) | (refine And.intro (fun _ => ?_) (fun h => Bool.noConfusion h); conv => whnf) | (refine And.intro (fun h => Bool.noConfusion h) (fun _ => ?_); conv => whnf))
        refine And.intro (fun h => ?_) (fun h => ?_)
        · have hj5 : j < 5 := by have := of_decide_eq_true h; omega
          have hfd := sfindF s (j : Int) (by omega)
          rcases hq : lk s (j : Int) with _ | o
          · have e1 : bv s (j : Int) = 0 := by unfold bv; rw [hq]; rfl
            have e2 : bk s (j : Int) = 0 := by unfold bk; rw [hq]; rfl
            rw [sfind_none hv hq] at hfd
            have hj6 : j = 0 ∨ j = 1 ∨ j = 2 ∨ j = 3 ∨ j = 4 := by omega
            rcases hj6 with rfl | rfl | rfl | rfl | rfl
            all_goals (((conv => whnf); repeat (first | (refine And.intro rfl ?_; conv => whnf) | (refine And.intro (fun _ => ?_) (fun h => Bool.noConfusion h); conv => whnf) | (refine And.intro (fun h => Bool.noConfusion h) (fun _ => ?_); conv => whnf))); refine ⟨_, _, hfd, ?_⟩; ((conv => whnf); repeat (first | (refine And.intro rfl ?_; conv => whnf) | (refine And.intro (fun _ => ?_) (fun h => Bool.noConfusion h); conv => whnf) | (refine And.intro (fun h => Bool.noConfusion h) (fun _ => ?_); conv => whnf))))
            all_goals (refine ⟨by decide, by decide, ?_⟩; ((conv => whnf); repeat (first | (refine And.intro rfl ?_; conv => whnf) | (refine And.intro (fun _ => ?_) (fun h => Bool.noConfusion h); conv => whnf) | (refine And.intro (fun h => Bool.noConfusion h) (fun _ => ?_); conv => whnf))))
            all_goals (simp at e1 e2)
            all_goals (repeat' (first | ((refine And.intro (fun h => ?_) (fun h => ?_)) <;> (try simp [e1, e2] at h) <;> ((conv => whnf); repeat (first | (refine And.intro rfl ?_; conv => whnf) | (refine And.intro (fun _ => ?_) (fun h => Bool.noConfusion h); conv => whnf) | (refine And.intro (fun h => Bool.noConfusion h) (fun _ => ?_); conv => whnf)))) | (refine And.intro (by decide) (And.intro (by decide) ?_); ((conv => whnf); repeat (first | (refine And.intro rfl ?_; conv => whnf) | (refine And.intro (fun _ => ?_) (fun h => Bool.noConfusion h); conv => whnf) | (refine And.intro (fun h => Bool.noConfusion h) (fun _ => ?_); conv => whnf))))))
            all_goals (refine again _ hj5 (by omega) ?_; ((refine And.intro rfl (And.intro rfl ?_)); (repeat' (first | exact trivial | exact rfl | apply And.intro | (refine congrArg (Value.int .i64) (w64_nat ?_); omega)))))
          · have e1 : bv s (j : Int) = o.v := by unfold bv; rw [hq]; rfl
            have e2 : bk s (j : Int) = o.k := by unfold bk; rw [hq]; rfl
            have e3 : 0 < o.v := by have := right_v (right_of hv hq); omega
            rw [sfind_some hv hq] at hfd
            have hj6 : j = 0 ∨ j = 1 ∨ j = 2 ∨ j = 3 ∨ j = 4 := by omega
            rcases hj6 with rfl | rfl | rfl | rfl | rfl
            all_goals (((conv => whnf); repeat (first | (refine And.intro rfl ?_; conv => whnf) | (refine And.intro (fun _ => ?_) (fun h => Bool.noConfusion h); conv => whnf) | (refine And.intro (fun h => Bool.noConfusion h) (fun _ => ?_); conv => whnf))); refine ⟨_, _, hfd, ?_⟩; ((conv => whnf); repeat (first | (refine And.intro rfl ?_; conv => whnf) | (refine And.intro (fun _ => ?_) (fun h => Bool.noConfusion h); conv => whnf) | (refine And.intro (fun h => Bool.noConfusion h) (fun _ => ?_); conv => whnf))))
            all_goals (refine ⟨by decide, by decide, ?_⟩; ((conv => whnf); repeat (first | (refine And.intro rfl ?_; conv => whnf) | (refine And.intro (fun _ => ?_) (fun h => Bool.noConfusion h); conv => whnf) | (refine And.intro (fun h => Bool.noConfusion h) (fun _ => ?_); conv => whnf))))
            all_goals (simp at e1 e2)
            all_goals (repeat' (first | ((refine And.intro (fun h => ?_) (fun h => ?_)) <;> (try simp [e1, e2, e3] at h) <;> ((conv => whnf); repeat (first | (refine And.intro rfl ?_; conv => whnf) | (refine And.intro (fun _ => ?_) (fun h => Bool.noConfusion h); conv => whnf) | (refine And.intro (fun h => Bool.noConfusion h) (fun _ => ?_); conv => whnf)))) | (refine And.intro (by decide) (And.intro (by decide) ?_); ((conv => whnf); repeat (first | (refine And.intro rfl ?_; conv => whnf) | (refine And.intro (fun _ => ?_) (fun h => Bool.noConfusion h); conv => whnf) | (refine And.intro (fun h => Bool.noConfusion h) (fun _ => ?_); conv => whnf))))))
            all_goals (refine again _ hj5 (by omega) ?_; ((refine And.intro rfl (And.intro rfl ?_)); (repeat' (first | exact trivial | exact rfl | apply And.intro | (refine congrArg (Value.int .i64) (w64_nat ?_); omega)))))
        · (conv => whnf); repeat (first | (refine And.intro rfl ?_; conv => whnf) | (refine And.intro (fun _ => ?_) (fun h => Bool.noConfusion h); conv => whnf) | (refine And.intro (fun h => Bool.noConfusion h) (fun _ => ?_); conv => whnf))
          refine ⟨_, _, svalidF s (by omega), ?_⟩
          rw [hv]
          (conv => whnf); repeat (first | (refine And.intro rfl ?_; conv => whnf) | (refine And.intro (fun _ => ?_) (fun h => Bool.noConfusion h); conv => whnf) | (refine And.intro (fun h => Bool.noConfusion h) (fun _ => ?_); conv => whnf))
          refine ⟨_, _, shAwake, ?_⟩
          (conv => whnf); repeat (first | (refine And.intro rfl ?_; conv => whnf) | (refine And.intro (fun _ => ?_) (fun h => Bool.noConfusion h); conv => whnf) | (refine And.intro (fun h => Bool.noConfusion h) (fun _ => ?_); conv => whnf))
          refine Exists.intro [] (And.intro List.nodup_nil ?_); ((conv => whnf); repeat (first | (refine And.intro rfl ?_; conv => whnf) | (refine And.intro (fun _ => ?_) (fun h => Bool.noConfusion h); conv => whnf) | (refine And.intro (fun h => Bool.noConfusion h) (fun _ => ?_); conv => whnf)))
          rfl
    · (conv => whnf); repeat (first | (refine And.intro rfl ?_; conv => whnf) | (refine And.intro (fun _ => ?_) (fun h => Bool.noConfusion h); conv => whnf) | (refine And.intro (fun h => Bool.noConfusion h) (fun _ => ?_); conv => whnf))
      refine vc_loop [6, 7, 8] [7, 8] (X := Nat) (fun x gs => [(13, ATint x)]) (fun x gs => []) (fun x => x ≤ 5) (fun x => 5 - x) _ (Ghost.refl _) 0 (by omega) ?_ ?_
      · (refine And.intro rfl (And.intro rfl ?_)); (repeat' (first | exact trivial | exact rfl | apply And.intro | (refine congrArg (Value.int .i64) (w64_nat ?_); omega)))
      rintro gs j hj
      (conv => whnf); repeat (first | (refine And.intro rfl ?_; conv => whnf) | (refine And.intro (fun _ => ?_) (fun h => Bool.noConfusion h); conv => whnf) | (refine And.intro (fun h => Bool.noConfusion h) (fun _ => ?_); conv => whnf))
      refine And.intro (fun h => ?_) (fun h => ?_)
      · have hj5 : j < 5 := by have := of_decide_eq_true h; omega
        have hfd := sfindF s (j : Int) (by omega)
        rcases hq : lk s (j : Int) with _ | o
        · have e1 : bv s (j : Int) = 0 := by unfold bv; rw [hq]; rfl
          have e2 : bk s (j : Int) = 0 := by unfold bk; rw [hq]; rfl
          rw [sfind_none hv hq] at hfd
          have hj6 : j = 0 ∨ j = 1 ∨ j = 2 ∨ j = 3 ∨ j = 4 := by omega
          rcases hj6 with rfl | rfl | rfl | rfl | rfl
          all_goals (((conv => whnf); repeat (first | (refine And.intro rfl ?_; conv => whnf) | (refine And.intro (fun _ => ?_) (fun h => Bool.noConfusion h); conv => whnf) | (refine And.intro (fun h => Bool.noConfusion h) (fun _ => ?_); conv => whnf))); refine ⟨_, _, hfd, ?_⟩; ((conv => whnf); repeat (first | (refine And.intro rfl ?_; conv => whnf) | (refine And.intro (fun _ => ?_) (fun h => Bool.noConfusion h); conv => whnf) | (refine And.intro (fun h => Bool.noConfusion h) (fun _ => ?_); conv => whnf))))
          all_goals (refine ⟨by decide, by decide, ?_⟩; ((conv => whnf); repeat (first | (refine And.intro rfl ?_; conv => whnf) | (refine And.intro (fun _ => ?_) (fun h => Bool.noConfusion h); conv => whnf) | (refine And.intro (fun h => Bool.noConfusion h) (fun _ => ?_); conv => whnf))))
          all_goals (simp at e1 e2)
          all_goals (repeat' (first | ((refine And.intro (fun h => ?_) (fun h => ?_)) <;> (try simp [e1, e2] at h) <;> ((conv => whnf); repeat (first | (refine And.intro rfl ?_; conv => whnf) | (refine And.intro (fun _ => ?_) (fun h => Bool.noConfusion h); conv => whnf) | (refine And.intro (fun h => Bool.noConfusion h) (fun _ => ?_); conv => whnf)))) | (refine And.intro (by decide) (And.intro (by decide) ?_); ((conv => whnf); repeat (first | (refine And.intro rfl ?_; conv => whnf) | (refine And.intro (fun _ => ?_) (fun h => Bool.noConfusion h); conv => whnf) | (refine And.intro (fun h => Bool.noConfusion h) (fun _ => ?_); conv => whnf))))))
          all_goals (refine again _ hj5 (by omega) ?_; ((refine And.intro rfl (And.intro rfl ?_)); (repeat' (first | exact trivial | exact rfl | apply And.intro | (refine congrArg (Value.int .i64) (w64_nat ?_); omega)))))
        · have e1 : bv s (j : Int) = o.v := by unfold bv; rw [hq]; rfl
          have e2 : bk s (j : Int) = o.k := by unfold bk; rw [hq]; rfl
          have e3 : 0 < o.v := by have := right_v (right_of hv hq); omega
          rw [sfind_some hv hq] at hfd
          have hj6 : j = 0 ∨ j = 1 ∨ j = 2 ∨ j = 3 ∨ j = 4 := by omega
          rcases hj6 with rfl | rfl | rfl | rfl | rfl
          all_goals (((conv => whnf); repeat (first | (refine And.intro rfl ?_; conv => whnf) | (refine And.intro (fun _ => ?_) (fun h => Bool.noConfusion h); conv => whnf) | (refine And.intro (fun h => Bool.noConfusion h) (fun _ => ?_); conv => whnf))); refine ⟨_, _, hfd, ?_⟩; ((conv => whnf); repeat (first | (refine And.intro rfl ?_; conv => whnf) | (refine And.intro (fun _ => ?_) (fun h => Bool.noConfusion h); conv => whnf) | (refine And.intro (fun h => Bool.noConfusion h) (fun _ => ?_); conv => whnf))))
          all_goals (refine ⟨by decide, by decide, ?_⟩; ((conv => whnf); repeat (first | (refine And.intro rfl ?_; conv => whnf) | (refine And.intro (fun _ => ?_) (fun h => Bool.noConfusion h); conv => whnf) | (refine And.intro (fun h => Bool.noConfusion h) (fun _ => ?_); conv => whnf))))
          all_goals (simp at e1 e2)
          all_goals (repeat' (first | ((refine And.intro (fun h => ?_) (fun h => ?_)) <;> (try simp [e1, e2, e3] at h) <;> ((conv => whnf); repeat (first | (refine And.intro rfl ?_; conv => whnf) | (refine And.intro (fun _ => ?_) (fun h => Bool.noConfusion h); conv => whnf) | (refine And.intro (fun h => Bool.noConfusion h) (fun _ => ?_); conv => whnf)))) | (refine And.intro (by decide) (And.intro (by decide) ?_); ((conv => whnf); repeat (first | (refine And.intro rfl ?_; conv => whnf) | (refine And.intro (fun _ => ?_) (fun h => Bool.noConfusion h); conv => whnf) | (refine And.intro (fun h => Bool.noConfusion h) (fun _ => ?_); conv => whnf))))))
          all_goals (refine again _ hj5 (by omega) ?_; ((refine And.intro rfl (And.intro rfl ?_)); (repeat' (first | exact trivial | exact rfl | apply And.intro | (refine congrArg (Value.int .i64) (w64_nat ?_); omega)))))
      · (conv => whnf); repeat (first | (refine And.intro rfl ?_; conv => whnf) | (refine And.intro (fun _ => ?_) (fun h => Bool.noConfusion h); conv => whnf) | (refine And.intro (fun h => Bool.noConfusion h) (fun _ => ?_); conv => whnf))
        refine ⟨_, _, svalidF s (by omega), ?_⟩
        rw [hv]
        (conv => whnf); repeat (first | (refine And.intro rfl ?_; conv => whnf) | (refine And.intro (fun _ => ?_) (fun h => Bool.noConfusion h); conv => whnf) | (refine And.intro (fun h => Bool.noConfusion h) (fun _ => ?_); conv => whnf))
        refine ⟨_, _, shAwake, ?_⟩
        (conv => whnf); repeat (first | (refine And.intro rfl ?_; conv => whnf) | (refine And.intro (fun _ => ?_) (fun h => Bool.noConfusion h); conv => whnf) | (refine And.intro (fun h => Bool.noConfusion h) (fun _ => ?_); conv => whnf))
        refine Exists.intro [] (And.intro List.nodup_nil ?_); ((conv => whnf); repeat (first | (refine And.intro rfl ?_; conv => whnf) | (refine And.intro (fun _ => ?_) (fun h => Bool.noConfusion h); conv => whnf) | (refine And.intro (fun h => Bool.noConfusion h) (fun _ => ?_); conv => whnf)))
        rfl
  · rw [decide_eq_false hl3] at lt
    refine fun_of_vc tabOk mixOk Try.func3 rfl (by rfl) (rs := [.tmp 4]) rfl rfl 137 ?_; rw [Try.ntmps3]
    (conv => whnf); repeat (first | (refine And.intro rfl ?_; conv => whnf) | (refine And.intro (fun _ => ?_) (fun h => Bool.noConfusion h); conv => whnf) | (refine And.intro (fun h => Bool.noConfusion h) (fun _ => ?_); conv => whnf))
    refine ⟨_, _, lt, ?_⟩
    (conv => whnf); repeat (first | (refine And.intro rfl ?_; conv => whnf) | (refine And.intro (fun _ => ?_) (fun h => Bool.noConfusion h); conv => whnf) | (refine And.intro (fun h => Bool.noConfusion h) (fun _ => ?_); conv => whnf))
    refine ⟨_, _, shAwake, ?_⟩
    (conv => whnf); repeat (first | (refine And.intro rfl ?_; conv => whnf) | (refine And.intro (fun _ => ?_) (fun h => Bool.noConfusion h); conv => whnf) | (refine And.intro (fun h => Bool.noConfusion h) (fun _ => ?_); conv => whnf))
    refine Exists.intro [] (And.intro List.nodup_nil ?_); ((conv => whnf); repeat (first | (refine And.intro rfl ?_; conv => whnf) | (refine And.intro (fun _ => ?_) (fun h => Bool.noConfusion h); conv => whnf) | (refine And.intro (fun h => Bool.noConfusion h) (fun _ => ?_); conv => whnf)))
    rfl
end Go.Proofs.Ytgjcljjgifnjdaa.Ab
namespace Go.Proofs.Ytgjcljjgifnjdaa
set_option linter.unusedVariables false
set_option linter.unusedSimpArgs false
open Ab
set_option maxRecDepth 100000 in
theorem shardNewest.walk {H : Type} {enc : TypeId × Value → H} {W : World} {base : Nat} (v : Value) (d : DataW H) (p : List MemPlace) (hv : Value.okWide Try.prog W .any base 22 v)
    (h : DataW.Trod enc Try.prog W 0 (fun _ => true) true 22 v d p) (hw : ∀ n ∈ d.weights Try.prog 22, n ≤ 140737488351232)
    (v1 : Value) (d1 : DataW H) (p1 : List MemPlace) (hv1 : Value.okWide Try.prog W .any base 23 v1)
    (h1 : DataW.Trod enc Try.prog W 0 (fun _ => true) true 23 v1 d1 p1) (_hw1 : ∀ n ∈ d1.weights Try.prog 23, n ≤ 140737488351232)
    (W' : World) (hW : W' = W := by rfl) : Calls Try.prog 3 #[v, v1] W' (True1 W') := by
  subst hW
  obtain ⟨es, _, q1, q2⟩ := open_sl tabOk 3 (t := 22) (by decide +kernel) rfl hv h
  obtain ⟨xs, rfl⟩ := ints_of (d := 2) es (fun r hr => (q1 r hr).2)
  have b3 := slice_bound tabOk (e := 3) rfl h hw (q2 (fun _ _ => undef) (fun _ => 0))
  rw [bytesOf_eq tabOk (fun h => TK.noConfusion h)] at b3
  have b3' : (wV xs).length * 8 ≤ 140737488351232 := b3
  obtain ⟨es1, _, r1, r2⟩ := open_sl tabOk 3 (t := 23) (by decide +kernel) rfl hv1 h1
  obtain ⟨ys, rfl, hys⟩ := u8s_of (d := 2) es1 (fun r hr => (r1 r hr).2)
  exact law_of_fun (shardNewestF xs ys (by simp [wV] at b3'; omega) hys) rfl (reps_get (vs := [_, _]) ⟨q2 _ _, r2 _ _, trivial⟩)
end Go.Proofs.Ytgjcljjgifnjdaa
