/- The submission queues: the law RingOrder. -/
import Derived.Test.YtopdpfbkdgncaaaRl
namespace Go.Proofs.Ytopdpfbkdgncaaa.Ab
set_option linter.unusedVariables false
set_option linter.unusedSimpArgs false
open Go.RowKit

theorem asc_mono {l l' : Int} {xs : List Rq} (h : asc l xs = true) (hl : l' ≤ l) : asc l' xs = true := by
  cases xs with
  | nil => rfl
  | cons x xs => simp [asc] at h ⊢; exact ⟨by omega, h.2⟩
theorem asc_snoc {x : Rq} (xs : List Rq) : ∀ {l : Int}, asc l xs = true → (xs = [] → l < x.serial) → (xs ≠ [] → lastS xs < x.serial) → asc l (xs ++ [x]) = true := by
  induction xs with
  | nil => intro l _ h _; simp [asc]; exact h rfl
  | cons y ys ih =>
    intro l h h1 h2
    simp only [asc, Bool.and_eq_true, decide_eq_true_eq, List.cons_append] at h ⊢
    refine ⟨h.1, ih h.2 (fun e => ?_) (fun e => ?_)⟩
    · subst e; exact h2 (by simp)
    · have := h2 (by simp)
      have e2 : lastS (y :: ys) = lastS ys := by
        unfold lastS
        cases ys with
        | nil => exact absurd rfl e
        | cons z zs => simp [List.getLast?_cons_cons]
      rw [e2] at this
      exact this

def wV (ws : List Int) : List (List IV) := ws.map fun s => [.sc (.int .i64 s)]
def wR (ws : List Int) : List Rq := ws.map rqS
theorem lastW (ws : List Int) : lastS (wR ws) = (ws.getLast?).getD 0 := by
  unfold lastS wR
  rw [List.getLast?_map]
  cases ws.getLast? <;> rfl
theorem rv_iff {N : Int} {xs : List Rq} (hN : 1 ≤ N ∧ N ≤ 8) : rvalid N xs = true ↔ (xs.length : Int) ≤ N ∧ asc (-1) xs = true := by
  unfold rvalid
  rw [Bool.and_eq_true, decide_eq_true_eq]
  constructor
  · rintro ⟨h, h'⟩; exact ⟨h.2.2, h'⟩
  · rintro ⟨h, h'⟩; exact ⟨⟨hN.1, hN.2, h⟩, h'⟩

theorem wItem {ws : List Int} {k : Nat} (h : k < ws.length) : (wV ws)[((k : Int)).toNat]? = some [.sc (.int .i64 ws[k])] := by simp [wV, h]
theorem wSz (ws : List Int) : ∀ z ∈ wV ws, z.length = (tab 3).size := by
  intro z hz
  obtain ⟨x, _, rfl⟩ := List.mem_map.1 hz
  rfl
theorem wtail (v : Int) (ws : List Int) : List.drop (Int.toNat 1) (List.take ((wV (v :: ws)).length : Int).toNat (wV (v :: ws))) = wV ws := by
  rw [Int.toNat_natCast, List.take_length]; rfl
theorem rtk_nil (N : Int) : rtk N [] = .tup [ringV N [], rqV rq0, bV false] := by unfold rtk; cases rvalid N [] <;> rfl
theorem rtk_cons {N : Int} {x : Rq} {xs : List Rq} (h : rvalid N (x :: xs) = true) : rtk N (x :: xs) = .tup [ringV N xs, rqV x, bV true] := by unfold rtk; rw [h]
theorem rv_tail {N : Int} {x : Rq} {xs : List Rq} (hN : 1 ≤ N ∧ N ≤ 8) (h : rvalid N (x :: xs) = true) : rvalid N xs = true := by
  rw [rv_iff hN] at h ⊢
  obtain ⟨h1, h2⟩ := h
  simp [asc] at h1 h2
  exact ⟨by omega, asc_mono h2.2 (by omega)⟩

theorem wsnoc (ws : List Int) (x : Int) : [] ++ wV ws ++ [[.sc (.int .i64 x)]] = wV (ws ++ [x]) := by simp [wV]
theorem rsub_busy {N : Int} {ws : List Int} {x : Int} (hv : rvalid N (wR ws) = true) (h : (ws.length : Int) = N) : rsub N (wR ws) (rqS x) = (wR ws, 13) := by
  unfold rsub; rw [if_neg (by simp [hv]), if_pos (by simp [wR]; exact h)]
theorem rsub_ord {N : Int} {ws : List Int} {x : Int} (hv : rvalid N (wR ws) = true) (h : ¬ (ws.length : Int) = N) (h2 : x < 0 ∨ (0 < ws.length ∧ x ≤ (ws.getLast?).getD 0)) : rsub N (wR ws) (rqS x) = (wR ws, 17) := by
  unfold rsub; rw [if_neg (by simp [hv]), if_neg (by simp [wR]; exact h), lastW, if_pos (by simpa [wR, rqS] using h2)]
theorem rsub_ok {N : Int} {ws : List Int} {x : Int} (hv : rvalid N (wR ws) = true) (h : ¬ (ws.length : Int) = N) (h2 : ¬ (x < 0 ∨ (0 < ws.length ∧ x ≤ (ws.getLast?).getD 0))) : rsub N (wR ws) (rqS x) = (wR (ws ++ [x]), 0) := by
  unfold rsub; rw [if_neg (by simp [hv]), if_neg (by simp [wR]; exact h), lastW, if_neg (by simpa [wR, rqS] using h2)]; simp [wR]
theorem rv_snoc {N : Int} {ws : List Int} {x : Int} (hN : 1 ≤ N ∧ N ≤ 8) (hv : rvalid N (wR ws) = true) (h : ¬ (ws.length : Int) = N) (h2 : ¬ (x < 0 ∨ (0 < ws.length ∧ x ≤ (ws.getLast?).getD 0))) : rvalid N (wR (ws ++ [x])) = true := by
  rw [rv_iff hN] at hv ⊢
  obtain ⟨q1, q2⟩ := hv
  refine ⟨by simp [wR] at q1 ⊢; omega, ?_⟩
  have e : wR (ws ++ [x]) = wR ws ++ [rqS x] := by simp [wR]
  rw [e]
  refine asc_snoc _ q2 (fun _ => ?_) (fun hne => ?_)
  · simp [rqS]; omega
  · rw [lastW]
    have : 0 < ws.length := List.length_pos_iff.2 (fun e => hne (by rw [e]; rfl))
    show _ < x
    omega

set_option maxRecDepth 100000 in
set_option maxHeartbeats 8000000 in
theorem ringOrderF (a : Int) (ha : 0 ≤ a ∧ a ≤ 255) (ss : List Int) : Fun Try.prog 8 [.c (.i (.sc (.int .u8 a))), slV (wV ss)] [] (ATbool true) := by
  refine fun_of_vc tabOk mixOk Try.func8 rfl (by rfl) (rs := [.tmp 4]) rfl rfl 130 ?_; rw [Try.ntmps8]
  (conv => whnf); repeat (first | (refine And.intro rfl ?_; conv => whnf) | (refine And.intro (fun _ => ?_) (fun h => Bool.noConfusion h); conv => whnf) | (refine And.intro (fun h => Bool.noConfusion h) (fun _ => ?_); conv => whnf))
  refine And.intro (fun h1 => ?_) (fun h1 => ?_)
  · (conv => whnf); repeat (first | (refine And.intro rfl ?_; conv => whnf) | (refine And.intro (fun _ => ?_) (fun h => Bool.noConfusion h); conv => whnf) | (refine And.intro (fun h => Bool.noConfusion h) (fun _ => ?_); conv => whnf))
    refine ⟨_, _, rawake, ?_⟩
    (conv => whnf); repeat (first | (refine And.intro rfl ?_; conv => whnf) | (refine And.intro (fun _ => ?_) (fun h => Bool.noConfusion h); conv => whnf) | (refine And.intro (fun h => Bool.noConfusion h) (fun _ => ?_); conv => whnf))
    refine Exists.intro [] (And.intro List.nodup_nil ?_); ((conv => whnf); repeat (first | (refine And.intro rfl ?_; conv => whnf) | (refine And.intro (fun _ => ?_) (fun h => Bool.noConfusion h); conv => whnf) | (refine And.intro (fun h => Bool.noConfusion h) (fun _ => ?_); conv => whnf)))
    rfl
  have hl : ss.length ≤ 100 := by have := of_decide_eq_false h1; rw [wV, List.length_map] at this; omega
  (conv => whnf); repeat (first | (refine And.intro rfl ?_; conv => whnf) | (refine And.intro (fun _ => ?_) (fun h => Bool.noConfusion h); conv => whnf) | (refine And.intro (fun h => Bool.noConfusion h) (fun _ => ?_); conv => whnf))
  refine ⟨by decide, ?_⟩
  (conv => whnf); repeat (first | (refine And.intro rfl ?_; conv => whnf) | (refine And.intro (fun _ => ?_) (fun h => Bool.noConfusion h); conv => whnf) | (refine And.intro (fun h => Bool.noConfusion h) (fun _ => ?_); conv => whnf))
  generalize hN : iwrap .i64 (1 + iwrap .i64 (Int.tmod a 8)) = N
  have hN2 : 1 ≤ N ∧ N ≤ 8 := by
    rw [← hN]
    show 1 ≤ w64 (1 + w64 _) ∧ w64 (1 + w64 _) ≤ 8
    rw [Int.tmod_eq_emod_of_nonneg ha.1, w64_in (x := a % 8) (by omega), w64_in (by omega)]
    omega
  clear hN
  have n1 := rnew N
  rw [if_pos hN2] at n1
  refine ⟨_, _, n1, ?_⟩
  (conv => whnf); repeat (first | (refine And.intro rfl ?_; conv => whnf) | (refine And.intro (fun _ => ?_) (fun h => Bool.noConfusion h); conv => whnf) | (refine And.intro (fun h => Bool.noConfusion h) (fun _ => ?_); conv => whnf))
  refine vc_loop [1, 5, 6, 7] [] (X := Nat × List Int) (fun x gs => [(9, ATint x.1), (8, .v (slV (wV x.2)))]) (fun x gs => [(6, .var 1 [.i (.sc (.int .i64 N)), .i (.sl ((wR x.2).map Rq.cs))])])
    (fun x => x.1 ≤ ss.length ∧ rvalid N (wR x.2) = true) (fun x => ss.length - x.1) _ (Ghost.refl _) (0, []) ⟨by omega, ?_⟩ ?_ ?_
  · rw [rv_iff hN2]; exact ⟨by simp [wR]; omega, rfl⟩
  · (refine And.intro rfl (And.intro rfl ?_)); (repeat' (first | exact trivial | exact rfl | apply And.intro | (refine congrArg (Value.int .i64) (w64_nat ?_); omega)))
  rintro gs ⟨k, ws⟩ ⟨hk, hv⟩
  dsimp only at hk hv ⊢
  (conv => whnf); repeat (first | (refine And.intro rfl ?_; conv => whnf) | (refine And.intro (fun _ => ?_) (fun h => Bool.noConfusion h); conv => whnf) | (refine And.intro (fun h => Bool.noConfusion h) (fun _ => ?_); conv => whnf))
  have hwl : (ws.length : Int) ≤ 8 := by
    have := ((rv_iff hN2).1 hv).1
    simp [wR] at this; omega
  refine And.intro (fun h4 => ?_) (fun h4 => ?_)
  · have hlt : k < ss.length := by simpa [wV] using h4
    (conv => whnf); repeat (first | (refine And.intro rfl ?_; conv => whnf) | (refine And.intro (fun _ => ?_) (fun h => Bool.noConfusion h); conv => whnf) | (refine And.intro (fun h => Bool.noConfusion h) (fun _ => ?_); conv => whnf))
    refine ⟨by omega, _, wItem hlt, rfl, ?_⟩
    (conv => whnf); repeat (first | (refine And.intro rfl ?_; conv => whnf) | (refine And.intro (fun _ => ?_) (fun h => Bool.noConfusion h); conv => whnf) | (refine And.intro (fun h => Bool.noConfusion h) (fun _ => ?_); conv => whnf))
    refine ⟨by decide, ?_⟩
    (conv => whnf); repeat (first | (refine And.intro rfl ?_; conv => whnf) | (refine And.intro (fun _ => ?_) (fun h => Bool.noConfusion h); conv => whnf) | (refine And.intro (fun h => Bool.noConfusion h) (fun _ => ?_); conv => whnf))
    refine And.intro (fun h5 => ?_) (fun h5 => ?_)
    · cases ws with
      | nil =>
        have t0 := rtake N [] (by simp)
        rw [rtk_nil] at t0
        (conv => whnf); repeat (first | (refine And.intro rfl ?_; conv => whnf) | (refine And.intro (fun _ => ?_) (fun h => Bool.noConfusion h); conv => whnf) | (refine And.intro (fun h => Bool.noConfusion h) (fun _ => ?_); conv => whnf))
        refine ⟨_, _, t0, ?_⟩
        (conv => whnf); repeat (first | (refine And.intro rfl ?_; conv => whnf) | (refine And.intro (fun _ => ?_) (fun h => Bool.noConfusion h); conv => whnf) | (refine And.intro (fun h => Bool.noConfusion h) (fun _ => ?_); conv => whnf))
        refine again (k + 1, []) ⟨hlt, hv⟩ (by dsimp only; omega) ?_
        (refine And.intro rfl (And.intro rfl ?_)); (repeat' (first | exact trivial | exact rfl | apply And.intro | (refine congrArg (Value.int .i64) (w64_nat ?_); omega)))
      | cons v ws =>
        have t0 := rtake N (wR (v :: ws)) (by simp [wR] at hwl ⊢; omega)
        have hv' : rvalid N (rqS v :: wR ws) = true := hv
        change Fun _ _ [ringV N (rqS v :: wR ws)] [] (rtk N (rqS v :: wR ws)) at t0
        rw [rtk_cons hv'] at t0
        (conv => whnf); repeat (first | (refine And.intro rfl ?_; conv => whnf) | (refine And.intro (fun _ => ?_) (fun h => Bool.noConfusion h); conv => whnf) | (refine And.intro (fun h => Bool.noConfusion h) (fun _ => ?_); conv => whnf))
        refine ⟨_, _, t0, ?_⟩
        (conv => whnf); repeat (first | (refine And.intro rfl ?_; conv => whnf) | (refine And.intro (fun _ => ?_) (fun h => Bool.noConfusion h); conv => whnf) | (refine And.intro (fun h => Bool.noConfusion h) (fun _ => ?_); conv => whnf))
        refine And.intro (fun h => by simp [wV] at h) (fun _ => ?_)
        (conv => whnf); repeat (first | (refine And.intro rfl ?_; conv => whnf) | (refine And.intro (fun _ => ?_) (fun h => Bool.noConfusion h); conv => whnf) | (refine And.intro (fun h => Bool.noConfusion h) (fun _ => ?_); conv => whnf))
        refine ⟨by omega, [.sc (.int .i64 v)], rfl, rfl, ?_⟩
        (conv => whnf); repeat (first | (refine And.intro rfl ?_; conv => whnf) | (refine And.intro (fun _ => ?_) (fun h => Bool.noConfusion h); conv => whnf) | (refine And.intro (fun h => Bool.noConfusion h) (fun _ => ?_); conv => whnf))
        refine And.intro (fun h => by simp [rqS] at h) (fun _ => ?_)
        (conv => whnf); repeat (first | (refine And.intro rfl ?_; conv => whnf) | (refine And.intro (fun _ => ?_) (fun h => Bool.noConfusion h); conv => whnf) | (refine And.intro (fun h => Bool.noConfusion h) (fun _ => ?_); conv => whnf))
        refine ⟨wSz _, ?_⟩
        (conv => whnf); repeat (first | (refine And.intro rfl ?_; conv => whnf) | (refine And.intro (fun _ => ?_) (fun h => Bool.noConfusion h); conv => whnf) | (refine And.intro (fun h => Bool.noConfusion h) (fun _ => ?_); conv => whnf))
        refine ⟨by omega, by simp [wV]; omega, Int.le_refl _, ?_⟩
        (conv => whnf); repeat (first | (refine And.intro rfl ?_; conv => whnf) | (refine And.intro (fun _ => ?_) (fun h => Bool.noConfusion h); conv => whnf) | (refine And.intro (fun h => Bool.noConfusion h) (fun _ => ?_); conv => whnf))
        refine again (k + 1, ws) ⟨hlt, rv_tail hN2 hv'⟩ (by dsimp only; omega) ?_
        (refine And.intro rfl (And.intro rfl ?_)); (repeat' (first | exact trivial | exact rfl | apply And.intro | (refine congrArg (Value.int .i64) (w64_nat ?_); omega)))
        exact wtail v ws
    · (conv => whnf); repeat (first | (refine And.intro rfl ?_; conv => whnf) | (refine And.intro (fun _ => ?_) (fun h => Bool.noConfusion h); conv => whnf) | (refine And.intro (fun h => Bool.noConfusion h) (fun _ => ?_); conv => whnf))
      refine ⟨by omega, _, wItem hlt, rfl, ?_⟩
      (conv => whnf); repeat (first | (refine And.intro rfl ?_; conv => whnf) | (refine And.intro (fun _ => ?_) (fun h => Bool.noConfusion h); conv => whnf) | (refine And.intro (fun h => Bool.noConfusion h) (fun _ => ?_); conv => whnf))
      refine ⟨by decide, ?_⟩
      (conv => whnf); repeat (first | (refine And.intro rfl ?_; conv => whnf) | (refine And.intro (fun _ => ?_) (fun h => Bool.noConfusion h); conv => whnf) | (refine And.intro (fun h => Bool.noConfusion h) (fun _ => ?_); conv => whnf))
      refine And.intro (fun h6 => ?_) (fun h6 => ?_)
      · (conv => whnf); repeat (first | (refine And.intro rfl ?_; conv => whnf) | (refine And.intro (fun _ => ?_) (fun h => Bool.noConfusion h); conv => whnf) | (refine And.intro (fun h => Bool.noConfusion h) (fun _ => ?_); conv => whnf))
        refine ⟨by omega, _, wItem hlt, rfl, ?_⟩
        (conv => whnf); repeat (first | (refine And.intro rfl ?_; conv => whnf) | (refine And.intro (fun _ => ?_) (fun h => Bool.noConfusion h); conv => whnf) | (refine And.intro (fun h => Bool.noConfusion h) (fun _ => ?_); conv => whnf))
        refine And.intro (fun h7 => ?_) (fun h7 => ?_)
        · have h7' : (ws.length : Int) = N := by simpa [wV] using h7
          have u := rsubmit N (wR ws) (rqS ss[k]) (by simp [wR]; omega)
          rw [rsub_busy hv h7'] at u
          (conv => whnf); repeat (first | (refine And.intro rfl ?_; conv => whnf) | (refine And.intro (fun _ => ?_) (fun h => Bool.noConfusion h); conv => whnf) | (refine And.intro (fun h => Bool.noConfusion h) (fun _ => ?_); conv => whnf))
          refine ⟨_, _, u, ?_⟩
          (conv => whnf); repeat (first | (refine And.intro rfl ?_; conv => whnf) | (refine And.intro (fun _ => ?_) (fun h => Bool.noConfusion h); conv => whnf) | (refine And.intro (fun h => Bool.noConfusion h) (fun _ => ?_); conv => whnf))
          refine again (k + 1, ws) ⟨hlt, hv⟩ (by dsimp only; omega) ?_
          (refine And.intro rfl (And.intro rfl ?_)); (repeat' (first | exact trivial | exact rfl | apply And.intro | (refine congrArg (Value.int .i64) (w64_nat ?_); omega)))
        have h7' : ¬ (ws.length : Int) = N := by simpa [wV] using h7
        (conv => whnf); repeat (first | (refine And.intro rfl ?_; conv => whnf) | (refine And.intro (fun _ => ?_) (fun h => Bool.noConfusion h); conv => whnf) | (refine And.intro (fun h => Bool.noConfusion h) (fun _ => ?_); conv => whnf))
        refine And.intro (fun h8 => ?_) (fun h8 => ?_)
        · have u := rsubmit N (wR ws) (rqS ss[k]) (by simp [wR]; omega)
          rw [rsub_ord hv h7' (Or.inl (of_decide_eq_true h8))] at u
          (conv => whnf); repeat (first | (refine And.intro rfl ?_; conv => whnf) | (refine And.intro (fun _ => ?_) (fun h => Bool.noConfusion h); conv => whnf) | (refine And.intro (fun h => Bool.noConfusion h) (fun _ => ?_); conv => whnf))
          refine ⟨_, _, u, ?_⟩
          (conv => whnf); repeat (first | (refine And.intro rfl ?_; conv => whnf) | (refine And.intro (fun _ => ?_) (fun h => Bool.noConfusion h); conv => whnf) | (refine And.intro (fun h => Bool.noConfusion h) (fun _ => ?_); conv => whnf))
          refine again (k + 1, ws) ⟨hlt, hv⟩ (by dsimp only; omega) ?_
          (refine And.intro rfl (And.intro rfl ?_)); (repeat' (first | exact trivial | exact rfl | apply And.intro | (refine congrArg (Value.int .i64) (w64_nat ?_); omega)))
        have h8' : ¬ ss[k] < 0 := of_decide_eq_false h8
        (conv => whnf); repeat (first | (refine And.intro rfl ?_; conv => whnf) | (refine And.intro (fun _ => ?_) (fun h => Bool.noConfusion h); conv => whnf) | (refine And.intro (fun h => Bool.noConfusion h) (fun _ => ?_); conv => whnf))
        refine And.intro (fun h9 => ?_) (fun h9 => ?_)
        · have h9' : 0 < ws.length := by simpa [wV, List.length_pos_iff] using h9
          (conv => whnf); repeat (first | (refine And.intro rfl ?_; conv => whnf) | (refine And.intro (fun _ => ?_) (fun h => Bool.noConfusion h); conv => whnf) | (refine And.intro (fun h => Bool.noConfusion h) (fun _ => ?_); conv => whnf))
          have hw : iwrap .i64 (((wV ws).length : Int) - 1) = ((ws.length - 1 : Nat) : Int) := by
            show w64 _ = _
            rw [w64_in (by simp [wV]; omega)]; simp [wV]; omega
          rw [hw]
          have hlast : (ws.getLast?).getD 0 = ws[ws.length - 1]'(by omega) := by
            rw [List.getLast?_eq_getElem?, List.getElem?_eq_getElem (by omega)]; rfl
          refine ⟨by omega, _, wItem (ws := ws) (k := ws.length - 1) (by omega), rfl, ?_⟩
          (conv => whnf); repeat (first | (refine And.intro rfl ?_; conv => whnf) | (refine And.intro (fun _ => ?_) (fun h => Bool.noConfusion h); conv => whnf) | (refine And.intro (fun h => Bool.noConfusion h) (fun _ => ?_); conv => whnf))
          refine And.intro (fun h10 => ?_) (fun h10 => ?_)
          · have u := rsubmit N (wR ws) (rqS ss[k]) (by simp [wR]; omega)
            rw [rsub_ord hv h7' (Or.inr ⟨h9', by rw [hlast]; exact of_decide_eq_true h10⟩)] at u
            (conv => whnf); repeat (first | (refine And.intro rfl ?_; conv => whnf) | (refine And.intro (fun _ => ?_) (fun h => Bool.noConfusion h); conv => whnf) | (refine And.intro (fun h => Bool.noConfusion h) (fun _ => ?_); conv => whnf))
            refine ⟨_, _, u, ?_⟩
            (conv => whnf); repeat (first | (refine And.intro rfl ?_; conv => whnf) | (refine And.intro (fun _ => ?_) (fun h => Bool.noConfusion h); conv => whnf) | (refine And.intro (fun h => Bool.noConfusion h) (fun _ => ?_); conv => whnf))
            refine again (k + 1, ws) ⟨hlt, hv⟩ (by dsimp only; omega) ?_
            (refine And.intro rfl (And.intro rfl ?_)); (repeat' (first | exact trivial | exact rfl | apply And.intro | (refine congrArg (Value.int .i64) (w64_nat ?_); omega)))
          · have hok : ¬ (ss[k] < 0 ∨ (0 < ws.length ∧ ss[k] ≤ (ws.getLast?).getD 0)) := by
              rw [hlast]; have := of_decide_eq_false h10; rintro (h | h)
              · exact h8' h
              · exact this h.2
            have u := rsubmit N (wR ws) (rqS ss[k]) (by simp [wR]; omega)
            rw [rsub_ok hv h7' hok] at u
            (conv => whnf); repeat (first | (refine And.intro rfl ?_; conv => whnf) | (refine And.intro (fun _ => ?_) (fun h => Bool.noConfusion h); conv => whnf) | (refine And.intro (fun h => Bool.noConfusion h) (fun _ => ?_); conv => whnf))
            refine ⟨_, _, u, ?_⟩
            (conv => whnf); repeat (first | (refine And.intro rfl ?_; conv => whnf) | (refine And.intro (fun _ => ?_) (fun h => Bool.noConfusion h); conv => whnf) | (refine And.intro (fun h => Bool.noConfusion h) (fun _ => ?_); conv => whnf))
            refine ⟨wSz _, ?_⟩
            (conv => whnf); repeat (first | (refine And.intro rfl ?_; conv => whnf) | (refine And.intro (fun _ => ?_) (fun h => Bool.noConfusion h); conv => whnf) | (refine And.intro (fun h => Bool.noConfusion h) (fun _ => ?_); conv => whnf))
            refine ⟨bytes_le (by decide) (by simp [wV]; omega), ?_⟩
            (conv => whnf); repeat (first | (refine And.intro rfl ?_; conv => whnf) | (refine And.intro (fun _ => ?_) (fun h => Bool.noConfusion h); conv => whnf) | (refine And.intro (fun h => Bool.noConfusion h) (fun _ => ?_); conv => whnf))
            refine ⟨fun z hz => ?_, ?_⟩
            · obtain rfl := List.mem_singleton.1 hz; rfl
            (conv => whnf); repeat (first | (refine And.intro rfl ?_; conv => whnf) | (refine And.intro (fun _ => ?_) (fun h => Bool.noConfusion h); conv => whnf) | (refine And.intro (fun h => Bool.noConfusion h) (fun _ => ?_); conv => whnf))
            refine ⟨bytes_le (by decide) (by simp [wV]; omega), ?_⟩
            (conv => whnf); repeat (first | (refine And.intro rfl ?_; conv => whnf) | (refine And.intro (fun _ => ?_) (fun h => Bool.noConfusion h); conv => whnf) | (refine And.intro (fun h => Bool.noConfusion h) (fun _ => ?_); conv => whnf))
            refine again (k + 1, ws ++ [ss[k]]) ⟨hlt, rv_snoc hN2 hv h7' hok⟩ (by dsimp only; omega) ?_
            (refine And.intro rfl (And.intro rfl ?_)); (repeat' (first | exact trivial | exact rfl | apply And.intro | (refine congrArg (Value.int .i64) (w64_nat ?_); omega)))
            exact wsnoc ws ss[k]
        · have h9' : ws.length = 0 := by have := of_decide_eq_false h9; rw [wV, List.length_map] at this; omega
          have hok : ¬ (ss[k] < 0 ∨ (0 < ws.length ∧ ss[k] ≤ (ws.getLast?).getD 0)) := by
            rintro (h | h)
            · exact h8' h
            · omega
          have u := rsubmit N (wR ws) (rqS ss[k]) (by simp [wR]; omega)
          rw [rsub_ok hv h7' hok] at u
          (conv => whnf); repeat (first | (refine And.intro rfl ?_; conv => whnf) | (refine And.intro (fun _ => ?_) (fun h => Bool.noConfusion h); conv => whnf) | (refine And.intro (fun h => Bool.noConfusion h) (fun _ => ?_); conv => whnf))
          refine ⟨_, _, u, ?_⟩
          (conv => whnf); repeat (first | (refine And.intro rfl ?_; conv => whnf) | (refine And.intro (fun _ => ?_) (fun h => Bool.noConfusion h); conv => whnf) | (refine And.intro (fun h => Bool.noConfusion h) (fun _ => ?_); conv => whnf))
          refine ⟨wSz _, ?_⟩
          (conv => whnf); repeat (first | (refine And.intro rfl ?_; conv => whnf) | (refine And.intro (fun _ => ?_) (fun h => Bool.noConfusion h); conv => whnf) | (refine And.intro (fun h => Bool.noConfusion h) (fun _ => ?_); conv => whnf))
          refine ⟨bytes_le (by decide) (by simp [wV]; omega), ?_⟩
          (conv => whnf); repeat (first | (refine And.intro rfl ?_; conv => whnf) | (refine And.intro (fun _ => ?_) (fun h => Bool.noConfusion h); conv => whnf) | (refine And.intro (fun h => Bool.noConfusion h) (fun _ => ?_); conv => whnf))
          refine ⟨fun z hz => ?_, ?_⟩
          · obtain rfl := List.mem_singleton.1 hz; rfl
          (conv => whnf); repeat (first | (refine And.intro rfl ?_; conv => whnf) | (refine And.intro (fun _ => ?_) (fun h => Bool.noConfusion h); conv => whnf) | (refine And.intro (fun h => Bool.noConfusion h) (fun _ => ?_); conv => whnf))
          refine ⟨bytes_le (by decide) (by simp [wV]; omega), ?_⟩
          (conv => whnf); repeat (first | (refine And.intro rfl ?_; conv => whnf) | (refine And.intro (fun _ => ?_) (fun h => Bool.noConfusion h); conv => whnf) | (refine And.intro (fun h => Bool.noConfusion h) (fun _ => ?_); conv => whnf))
          refine again (k + 1, ws ++ [ss[k]]) ⟨hlt, rv_snoc hN2 hv h7' hok⟩ (by dsimp only; omega) ?_
          (refine And.intro rfl (And.intro rfl ?_)); (repeat' (first | exact trivial | exact rfl | apply And.intro | (refine congrArg (Value.int .i64) (w64_nat ?_); omega)))
          exact wsnoc ws ss[k]
      · (conv => whnf); repeat (first | (refine And.intro rfl ?_; conv => whnf) | (refine And.intro (fun _ => ?_) (fun h => Bool.noConfusion h); conv => whnf) | (refine And.intro (fun h => Bool.noConfusion h) (fun _ => ?_); conv => whnf))
        refine And.intro (fun h7 => ?_) (fun h7 => ?_)
        · have h7' : (ws.length : Int) = N := by simpa [wV] using h7
          have u := rsubmit N (wR ws) (rqS (k : Int)) (by simp [wR]; omega)
          rw [rsub_busy hv h7'] at u
          (conv => whnf); repeat (first | (refine And.intro rfl ?_; conv => whnf) | (refine And.intro (fun _ => ?_) (fun h => Bool.noConfusion h); conv => whnf) | (refine And.intro (fun h => Bool.noConfusion h) (fun _ => ?_); conv => whnf))
          refine ⟨_, _, u, ?_⟩
          (conv => whnf); repeat (first | (refine And.intro rfl ?_; conv => whnf) | (refine And.intro (fun _ => ?_) (fun h => Bool.noConfusion h); conv => whnf) | (refine And.intro (fun h => Bool.noConfusion h) (fun _ => ?_); conv => whnf))
          refine again (k + 1, ws) ⟨hlt, hv⟩ (by dsimp only; omega) ?_
          (refine And.intro rfl (And.intro rfl ?_)); (repeat' (first | exact trivial | exact rfl | apply And.intro | (refine congrArg (Value.int .i64) (w64_nat ?_); omega)))
        have h7' : ¬ (ws.length : Int) = N := by simpa [wV] using h7
        (conv => whnf); repeat (first | (refine And.intro rfl ?_; conv => whnf) | (refine And.intro (fun _ => ?_) (fun h => Bool.noConfusion h); conv => whnf) | (refine And.intro (fun h => Bool.noConfusion h) (fun _ => ?_); conv => whnf))
        have h8' : ¬ (k : Int) < 0 := by omega
        refine And.intro (fun h9 => ?_) (fun h9 => ?_)
        · have h9' : 0 < ws.length := by simpa [wV, List.length_pos_iff] using h9
          (conv => whnf); repeat (first | (refine And.intro rfl ?_; conv => whnf) | (refine And.intro (fun _ => ?_) (fun h => Bool.noConfusion h); conv => whnf) | (refine And.intro (fun h => Bool.noConfusion h) (fun _ => ?_); conv => whnf))
          have hw : iwrap .i64 (((wV ws).length : Int) - 1) = ((ws.length - 1 : Nat) : Int) := by
            show w64 _ = _
            rw [w64_in (by simp [wV]; omega)]; simp [wV]; omega
          rw [hw]
          have hlast : (ws.getLast?).getD 0 = ws[ws.length - 1]'(by omega) := by
            rw [List.getLast?_eq_getElem?, List.getElem?_eq_getElem (by omega)]; rfl
          refine ⟨by omega, _, wItem (ws := ws) (k := ws.length - 1) (by omega), rfl, ?_⟩
          (conv => whnf); repeat (first | (refine And.intro rfl ?_; conv => whnf) | (refine And.intro (fun _ => ?_) (fun h => Bool.noConfusion h); conv => whnf) | (refine And.intro (fun h => Bool.noConfusion h) (fun _ => ?_); conv => whnf))
          refine And.intro (fun h10 => ?_) (fun h10 => ?_)
          · have u := rsubmit N (wR ws) (rqS (k : Int)) (by simp [wR]; omega)
            rw [rsub_ord hv h7' (Or.inr ⟨h9', by rw [hlast]; exact of_decide_eq_true h10⟩)] at u
            (conv => whnf); repeat (first | (refine And.intro rfl ?_; conv => whnf) | (refine And.intro (fun _ => ?_) (fun h => Bool.noConfusion h); conv => whnf) | (refine And.intro (fun h => Bool.noConfusion h) (fun _ => ?_); conv => whnf))
            refine ⟨_, _, u, ?_⟩
            (conv => whnf); repeat (first | (refine And.intro rfl ?_; conv => whnf) | (refine And.intro (fun _ => ?_) (fun h => Bool.noConfusion h); conv => whnf) | (refine And.intro (fun h => Bool.noConfusion h) (fun _ => ?_); conv => whnf))
            refine again (k + 1, ws) ⟨hlt, hv⟩ (by dsimp only; omega) ?_
            (refine And.intro rfl (And.intro rfl ?_)); (repeat' (first | exact trivial | exact rfl | apply And.intro | (refine congrArg (Value.int .i64) (w64_nat ?_); omega)))
          · have hok : ¬ ((k : Int) < 0 ∨ (0 < ws.length ∧ (k : Int) ≤ (ws.getLast?).getD 0)) := by
              rw [hlast]; have := of_decide_eq_false h10; rintro (h | h)
              · exact h8' h
              · exact this h.2
            have u := rsubmit N (wR ws) (rqS (k : Int)) (by simp [wR]; omega)
            rw [rsub_ok hv h7' hok] at u
            (conv => whnf); repeat (first | (refine And.intro rfl ?_; conv => whnf) | (refine And.intro (fun _ => ?_) (fun h => Bool.noConfusion h); conv => whnf) | (refine And.intro (fun h => Bool.noConfusion h) (fun _ => ?_); conv => whnf))
            refine ⟨_, _, u, ?_⟩
            (conv => whnf); repeat (first | (refine And.intro rfl ?_; conv => whnf) | (refine And.intro (fun _ => ?_) (fun h => Bool.noConfusion h); conv => whnf) | (refine And.intro (fun h => Bool.noConfusion h) (fun _ => ?_); conv => whnf))
            refine ⟨wSz _, ?_⟩
            (conv => whnf); repeat (first | (refine And.intro rfl ?_; conv => whnf) | (refine And.intro (fun _ => ?_) (fun h => Bool.noConfusion h); conv => whnf) | (refine And.intro (fun h => Bool.noConfusion h) (fun _ => ?_); conv => whnf))
            refine ⟨bytes_le (by decide) (by simp [wV]; omega), ?_⟩
            (conv => whnf); repeat (first | (refine And.intro rfl ?_; conv => whnf) | (refine And.intro (fun _ => ?_) (fun h => Bool.noConfusion h); conv => whnf) | (refine And.intro (fun h => Bool.noConfusion h) (fun _ => ?_); conv => whnf))
            refine ⟨fun z hz => ?_, ?_⟩
            · obtain rfl := List.mem_singleton.1 hz; rfl
            (conv => whnf); repeat (first | (refine And.intro rfl ?_; conv => whnf) | (refine And.intro (fun _ => ?_) (fun h => Bool.noConfusion h); conv => whnf) | (refine And.intro (fun h => Bool.noConfusion h) (fun _ => ?_); conv => whnf))
            refine ⟨bytes_le (by decide) (by simp [wV]; omega), ?_⟩
            (conv => whnf); repeat (first | (refine And.intro rfl ?_; conv => whnf) | (refine And.intro (fun _ => ?_) (fun h => Bool.noConfusion h); conv => whnf) | (refine And.intro (fun h => Bool.noConfusion h) (fun _ => ?_); conv => whnf))
            refine again (k + 1, ws ++ [(k : Int)]) ⟨hlt, rv_snoc hN2 hv h7' hok⟩ (by dsimp only; omega) ?_
            (refine And.intro rfl (And.intro rfl ?_)); (repeat' (first | exact trivial | exact rfl | apply And.intro | (refine congrArg (Value.int .i64) (w64_nat ?_); omega)))
            exact wsnoc ws (k : Int)
        · have h9' : ws.length = 0 := by have := of_decide_eq_false h9; rw [wV, List.length_map] at this; omega
          have hok : ¬ ((k : Int) < 0 ∨ (0 < ws.length ∧ (k : Int) ≤ (ws.getLast?).getD 0)) := by
            rintro (h | h)
            · exact h8' h
            · omega
          have u := rsubmit N (wR ws) (rqS (k : Int)) (by simp [wR]; omega)
          rw [rsub_ok hv h7' hok] at u
          (conv => whnf); repeat (first | (refine And.intro rfl ?_; conv => whnf) | (refine And.intro (fun _ => ?_) (fun h => Bool.noConfusion h); conv => whnf) | (refine And.intro (fun h => Bool.noConfusion h) (fun _ => ?_); conv => whnf))
          refine ⟨_, _, u, ?_⟩
          (conv => whnf); repeat (first | (refine And.intro rfl ?_; conv => whnf) | (refine And.intro (fun _ => ?_) (fun h => Bool.noConfusion h); conv => whnf) | (refine And.intro (fun h => Bool.noConfusion h) (fun _ => ?_); conv => whnf))
          refine ⟨wSz _, ?_⟩
          (conv => whnf); repeat (first | (refine And.intro rfl ?_; conv => whnf) | (refine And.intro (fun _ => ?_) (fun h => Bool.noConfusion h); conv => whnf) | (refine And.intro (fun h => Bool.noConfusion h) (fun _ => ?_); conv => whnf))
          refine ⟨bytes_le (by decide) (by simp [wV]; omega), ?_⟩
          (conv => whnf); repeat (first | (refine And.intro rfl ?_; conv => whnf) | (refine And.intro (fun _ => ?_) (fun h => Bool.noConfusion h); conv => whnf) | (refine And.intro (fun h => Bool.noConfusion h) (fun _ => ?_); conv => whnf))
          refine ⟨fun z hz => ?_, ?_⟩
          · obtain rfl := List.mem_singleton.1 hz; rfl
          (conv => whnf); repeat (first | (refine And.intro rfl ?_; conv => whnf) | (refine And.intro (fun _ => ?_) (fun h => Bool.noConfusion h); conv => whnf) | (refine And.intro (fun h => Bool.noConfusion h) (fun _ => ?_); conv => whnf))
          refine ⟨bytes_le (by decide) (by simp [wV]; omega), ?_⟩
          (conv => whnf); repeat (first | (refine And.intro rfl ?_; conv => whnf) | (refine And.intro (fun _ => ?_) (fun h => Bool.noConfusion h); conv => whnf) | (refine And.intro (fun h => Bool.noConfusion h) (fun _ => ?_); conv => whnf))
          refine again (k + 1, ws ++ [(k : Int)]) ⟨hlt, rv_snoc hN2 hv h7' hok⟩ (by dsimp only; omega) ?_
          (refine And.intro rfl (And.intro rfl ?_)); (repeat' (first | exact trivial | exact rfl | apply And.intro | (refine congrArg (Value.int .i64) (w64_nat ?_); omega)))
          exact wsnoc ws (k : Int)
  · (conv => whnf); repeat (first | (refine And.intro rfl ?_; conv => whnf) | (refine And.intro (fun _ => ?_) (fun h => Bool.noConfusion h); conv => whnf) | (refine And.intro (fun h => Bool.noConfusion h) (fun _ => ?_); conv => whnf))
    refine ⟨_, _, rawake, ?_⟩
    (conv => whnf); repeat (first | (refine And.intro rfl ?_; conv => whnf) | (refine And.intro (fun _ => ?_) (fun h => Bool.noConfusion h); conv => whnf) | (refine And.intro (fun h => Bool.noConfusion h) (fun _ => ?_); conv => whnf))
    refine Exists.intro [] (And.intro List.nodup_nil ?_); ((conv => whnf); repeat (first | (refine And.intro rfl ?_; conv => whnf) | (refine And.intro (fun _ => ?_) (fun h => Bool.noConfusion h); conv => whnf) | (refine And.intro (fun h => Bool.noConfusion h) (fun _ => ?_); conv => whnf)))
    rfl
end Go.Proofs.Ytopdpfbkdgncaaa.Ab
namespace Go.Proofs.Ytopdpfbkdgncaaa
set_option linter.unusedVariables false
set_option linter.unusedSimpArgs false
open Ab

theorem ints_of {d : Nat} (es : List (List IV)) (h : ∀ r ∈ es, ShI tab (d + 1) 3 r) : ∃ xs : List Int, es = wV xs := by
  induction es with
  | nil => exact ⟨[], rfl⟩
  | cons e es ih =>
    obtain ⟨xs, rfl⟩ := ih (fun r hr => h r (List.mem_cons_of_mem _ hr))
    obtain ⟨n, rfl, _⟩ := h e List.mem_cons_self
    exact ⟨n :: xs, rfl⟩

theorem ringOrder.walk {H : Type} {enc : TypeId × Value → H} {W : World} {base : Nat} (a0 : Int) (w0 : (Lit.int .u8 a0).wf = true) (v : Value) (d : DataW H) (p : List MemPlace) (hv : Value.okWide Try.prog W .any base 22 v)
    (h : DataW.Trod enc Try.prog W 0 (fun _ => true) true 22 v d p) (_hw : ∀ n ∈ d.weights Try.prog 22, n ≤ 140737488351232)
    (W' : World) (hW : W' = W := by rfl) : Calls Try.prog 8 #[.int .u8 a0, v] W' (True1 W') := by
  subst hW
  obtain ⟨es, _, q1, q2⟩ := open_sl tabOk 3 (t := 22) (by decide +kernel) rfl hv h
  obtain ⟨ss, rfl⟩ := ints_of (d := 2) es (fun r hr => (q1 r hr).2)
  have hb := bounds_u8 w0
  exact law_of_fun (ringOrderF a0 hb ss) rfl (two (.sc _ rfl) (q2 _ _))
end Go.Proofs.Ytopdpfbkdgncaaa
