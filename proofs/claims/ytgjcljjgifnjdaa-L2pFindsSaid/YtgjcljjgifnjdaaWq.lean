/- Maps find what was installed last with a greater version. -/
import Derived.Test.YtgjcljjgifnjdaaWo
namespace Go.Proofs.Ytgjcljjgifnjdaa.Ab
set_option linter.unusedVariables false
set_option linter.unusedSimpArgs false
open Go.RowKit

/-- The nine entries wanted. -/
def wCs (W : Nat → Ety) : List AV1 := [.i (.sc (.int .i64 (W 0).b)), .i (.sc (.int .i64 (W 0).k)), .i (.sc (.int .i64 (W 0).v)), .i (.sc (.int .i64 (W 0).m)), .i (.sc (.int .i64 (W 0).z)), .i (.sc (.int .i64 (W 0).o)), .i (.sc (.int .i64 (W 1).b)), .i (.sc (.int .i64 (W 1).k)), .i (.sc (.int .i64 (W 1).v)), .i (.sc (.int .i64 (W 1).m)), .i (.sc (.int .i64 (W 1).z)), .i (.sc (.int .i64 (W 1).o)), .i (.sc (.int .i64 (W 2).b)), .i (.sc (.int .i64 (W 2).k)), .i (.sc (.int .i64 (W 2).v)), .i (.sc (.int .i64 (W 2).m)), .i (.sc (.int .i64 (W 2).z)), .i (.sc (.int .i64 (W 2).o)), .i (.sc (.int .i64 (W 3).b)), .i (.sc (.int .i64 (W 3).k)), .i (.sc (.int .i64 (W 3).v)), .i (.sc (.int .i64 (W 3).m)), .i (.sc (.int .i64 (W 3).z)), .i (.sc (.int .i64 (W 3).o)), .i (.sc (.int .i64 (W 4).b)), .i (.sc (.int .i64 (W 4).k)), .i (.sc (.int .i64 (W 4).v)), .i (.sc (.int .i64 (W 4).m)), .i (.sc (.int .i64 (W 4).z)), .i (.sc (.int .i64 (W 4).o)), .i (.sc (.int .i64 (W 5).b)), .i (.sc (.int .i64 (W 5).k)), .i (.sc (.int .i64 (W 5).v)), .i (.sc (.int .i64 (W 5).m)), .i (.sc (.int .i64 (W 5).z)), .i (.sc (.int .i64 (W 5).o)), .i (.sc (.int .i64 (W 6).b)), .i (.sc (.int .i64 (W 6).k)), .i (.sc (.int .i64 (W 6).v)), .i (.sc (.int .i64 (W 6).m)), .i (.sc (.int .i64 (W 6).z)), .i (.sc (.int .i64 (W 6).o)), .i (.sc (.int .i64 (W 7).b)), .i (.sc (.int .i64 (W 7).k)), .i (.sc (.int .i64 (W 7).v)), .i (.sc (.int .i64 (W 7).m)), .i (.sc (.int .i64 (W 7).z)), .i (.sc (.int .i64 (W 7).o)), .i (.sc (.int .i64 (W 8).b)), .i (.sc (.int .i64 (W 8).k)), .i (.sc (.int .i64 (W 8).v)), .i (.sc (.int .i64 (W 8).m)), .i (.sc (.int .i64 (W 8).z)), .i (.sc (.int .i64 (W 8).o))]
def wInv (N : List (List Ety)) (W : Nat → Ety) : Prop := mvalid N = true ∧ ∀ j, j < 9 → (mlk N (j : Nat)).getD e0 = W j
theorem w_inst {N : List (List Ety)} {W : Nat → Ety} (h : wInv N W) {e : Ety} (hr : rightE e = true) {bn : Nat} (hb : e.b = bn) (h9 : bn < 9) : (minst N e).2 = (W bn, decide (e.v > (W bn).v)) := by
  rw [inst_2 h.1 hr, hb, h.2 bn h9]
theorem w_step {N : List (List Ety)} {W : Nat → Ety} (h : wInv N W) {e : Ety} (hr : rightE e = true) {bn : Nat} (hb : e.b = bn) (h9 : bn < 9) {ok : Bool} (ho : decide (e.v > (W bn).v) = ok) : wInv (minst N e).1 (fun j => if ok = true ∧ j = bn then e else W j) := by
  refine ⟨inst_valid h.1 hr, fun j hj => ?_⟩
  show _ = if ok = true ∧ j = bn then e else W j
  have hv := (of_decide_eq_true hr).2.1
  have hw := h.2 bn h9
  rw [inst_lk h.1 hr, hb]
  by_cases hjb : j = bn
  · subst hjb
    rw [if_pos rfl, Option.getD_some]
    cases hl : mlk N (j : Nat) with
    | none =>
      rw [hl] at hw
      have h0 : (W j).v = 0 := by rw [← hw]; rfl
      rw [h0, decide_eq_true (by omega)] at ho
      subst ho
      rw [if_pos ⟨rfl, rfl⟩]
      rfl
    | some y =>
      rw [hl] at hw
      have h0 : y = W j := hw
      subst ho
      rw [← h0]
      unfold newer
      dsimp only
      by_cases h1 : y.v ≥ e.v
      · rw [if_pos h1, if_neg]
        rintro ⟨h2, _⟩
        have := of_decide_eq_true h2
        omega
      · rw [if_neg h1, if_pos ⟨decide_eq_true (by omega), rfl⟩]
  · rw [if_neg (by omega), if_neg (fun hh => hjb hh.2), h.2 j hj]
theorem w_look {N : List (List Ety)} {W : Nat → Ety} (h : wInv N W) {j : Nat} (hj : j < 9) : mlook N (j : Nat) = (W j, decide ((W j).v > 0)) := by
  rw [mlook_lk h.1, h.2 j hj]
  have hw := h.2 j hj
  cases hl : mlk N (j : Nat) with
  | none =>
    rw [hl] at hw
    have h0 : (W j).v = 0 := by rw [← hw]; rfl
    rw [h0]
    rfl
  | some y =>
    rw [hl] at hw
    have h0 : y = W j := hw
    have := (of_decide_eq_true (mval_mem h.1 (mlk_b h.1 hl).2)).2.1
    rw [h0] at this
    rw [decide_eq_true (by omega)]
    rfl
theorem w_nine {c : Nat} {N : List (List Ety)} (h : mvalid N = true) (hP : mP c N) : mlook N 9 = (e0, false) := by
  rw [mlook_lk h]
  cases hl : mlk N 9 with
  | none => rfl
  | some y =>
    obtain ⟨h1, h2⟩ := mlk_b h hl
    obtain ⟨l, hl, h2⟩ := List.mem_flatten.1 h2
    have := (hP.2 l hl).2 y h2
    omega
theorem w_lookF {c : Nat} {N : List (List Ety)} {W : Nat → Ety} (h : wInv N W) (hP : mP c N) (hc : c ≤ 1000) (j : Nat) (hj : j < 9) : Fun Try.prog 33 [mpV N, i64V (j : Nat)] [] (.tup [eV (W j), bV (decide ((W j).v > 0))]) := by
  have := mlookF N (j : Nat) (hP.ok hc)
  rw [w_look h hj] at this
  exact this
theorem w_nineF {c : Nat} {N : List (List Ety)} (h : mvalid N = true) (hP : mP c N) (hc : c ≤ 1000) : Fun Try.prog 33 [mpV N, i64V 9] [] (.tup [eV e0, bV false]) := by
  have := mlookF N 9 (hP.ok hc)
  rw [w_nine h hP] at this
  exact this
theorem w_instF {c : Nat} {N : List (List Ety)} {W : Nat → Ety} (h : wInv N W) (hP : mP c N) (hc : c ≤ 999) {kd v mv z o : Int} {bn : Nat} (h9 : bn < 9) (hr : rightE ⟨(bn : Nat), kd, v, mv, z, o⟩ = true) :
    ∃ N2 ok, Fun Try.prog 32 [mpV N, eA (bn : Nat) kd v mv z o] [] (.tup [mpV N2, eV (W bn), bV ok]) ∧ ok = decide (v > (W bn).v) ∧ mP (c + 1) N2 ∧ wInv N2 (fun j => if ok = true ∧ j = bn then ⟨(bn : Nat), kd, v, mv, z, o⟩ else W j) := by
  refine ⟨(minst N ⟨(bn : Nat), kd, v, mv, z, o⟩).1, _, ?_, rfl, hP.inst (by dsimp only; omega), w_step h hr rfl h9 rfl⟩
  have := minstF N (bn : Nat) kd v mv z o (hP.ok (by omega))
  rw [w_inst h hr rfl h9] at this
  exact this
set_option maxRecDepth 100000 in
set_option maxHeartbeats 32000000 in
theorem l2pFindsF (L : List Int) (s : Int) (hs : 0 ≤ s ∧ s ≤ 255) (hL : L.length ≤ 140737488355328) : Fun Try.prog 8 [slV (wV L), .c (.i (.sc (.int .u8 s)))] [] (ATbool true) := by
  have lt := lightF L hL
  have hw := mawakeF
  by_cases hl3 : L.length ≤ 300
  rotate_left
  · rw [decide_eq_false hl3] at lt
    refine fun_of_vc tabOk mixOk Try.func8 rfl (by rfl) (rs := [.tmp 4]) rfl rfl 117 ?_; rw [Try.ntmps8]
    (conv => whnf); repeat ((first | refine And.intro DrawOk.go ?_ | refine And.intro rfl ?_ | refine And.intro (fun _ => ?_) (fun h => Bool.noConfusion h) | refine And.intro (fun h => Bool.noConfusion h) (fun _ => ?_)); conv => whnf)
    refine ⟨_, _, lt, ?_⟩
    (conv => whnf); repeat ((first | refine And.intro DrawOk.go ?_ | refine And.intro rfl ?_ | refine And.intro (fun _ => ?_) (fun h => Bool.noConfusion h) | refine And.intro (fun h => Bool.noConfusion h) (fun _ => ?_)); conv => whnf)
    refine ⟨_, _, hw, ?_⟩
    (conv => whnf); repeat ((first | refine And.intro DrawOk.go ?_ | refine And.intro rfl ?_ | refine And.intro (fun _ => ?_) (fun h => Bool.noConfusion h) | refine And.intro (fun h => Bool.noConfusion h) (fun _ => ?_)); conv => whnf)
    refine Exists.intro [] (And.intro List.nodup_nil ?_); ((conv => whnf); repeat ((first | refine And.intro DrawOk.go ?_ | refine And.intro rfl ?_ | refine And.intro (fun _ => ?_) (fun h => Bool.noConfusion h) | refine And.intro (fun h => Bool.noConfusion h) (fun _ => ?_)); conv => whnf))
    rfl
  rw [decide_eq_true hl3] at lt
  have hl : L.length ≤ 1000000 := by omega
  have hr := rollF L hl
  have hs1 : iwrap .i64 s = s := w64_in (by omega)
  have hs2 := Int.tmod_lt_of_pos s (b := 8) (by decide)
  have hs3 := Int.tmod_nonneg 8 hs.1
  obtain ⟨n, hn⟩ : ∃ n : Nat, 1 + s.tmod 8 = n := ⟨(1 + s.tmod 8).toNat, by omega⟩
  have hs4 : iwrap .i64 (1 + (iwrap .i64 s).tmod 8) = n := by rw [hs1]; exact (w64_in (by omega)).trans hn
  have hnew := mnewF n (by omega) (by omega)
  have hP := mnew_P n (by omega) 0
  have hI : wInv (mnew n) (fun _ => e0) := ⟨mnew_valid (by omega) (by omega), fun j _ => by rw [mnew_lk]; rfl⟩
  generalize mnew n = N0 at hnew hP hI
  refine fun_of_vc (tabXOk [4000068, 4000069]) mixOk Try.func8 rfl (by rfl) (rs := [.tmp 4]) rfl rfl 117 ?_; rw [Try.ntmps8]
  (conv => whnf); repeat ((first | refine And.intro DrawOk.go ?_ | refine And.intro rfl ?_ | refine And.intro (fun _ => ?_) (fun h => Bool.noConfusion h) | refine And.intro (fun h => Bool.noConfusion h) (fun _ => ?_)); conv => whnf)
  refine ⟨_, _, lt, ?_⟩
  (conv => whnf); repeat ((first | refine And.intro DrawOk.go ?_ | refine And.intro rfl ?_ | refine And.intro (fun _ => ?_) (fun h => Bool.noConfusion h) | refine And.intro (fun h => Bool.noConfusion h) (fun _ => ?_)); conv => whnf)
  refine ⟨_, _, hr, ?_⟩
  (conv => whnf); repeat ((first | refine And.intro DrawOk.go ?_ | refine And.intro rfl ?_ | refine And.intro (fun _ => ?_) (fun h => Bool.noConfusion h) | refine And.intro (fun h => Bool.noConfusion h) (fun _ => ?_)); conv => whnf)
  refine ⟨by decide, ?_⟩
  (conv => whnf); repeat ((first | refine And.intro DrawOk.go ?_ | refine And.intro rfl ?_ | refine And.intro (fun _ => ?_) (fun h => Bool.noConfusion h) | refine And.intro (fun h => Bool.noConfusion h) (fun _ => ?_)); conv => whnf)
  rw [hs4]
  refine ⟨_, _, hnew, ?_⟩
  (conv => whnf); repeat ((first | refine And.intro DrawOk.go ?_ | refine And.intro rfl ?_ | refine And.intro (fun _ => ?_) (fun h => Bool.noConfusion h) | refine And.intro (fun h => Bool.noConfusion h) (fun _ => ?_)); conv => whnf)
  refine vc_loop [5, 6, 7, 8] [] (X := Nat × Nat × List (List Ety) × (Nat → Ety)) (fun x gs => [(9, ATint x.1)]) (fun x gs => [(24, .var 1 (dcs L x.2.1)), (6, .var 1 [.i (.sl (mR x.2.2.1))]), (8, .var 1 (wCs x.2.2.2))]) (fun x => x.1 ≤ 40 ∧ x.2.1 ≤ L.length ∧ mP x.1 x.2.2.1 ∧ wInv x.2.2.1 x.2.2.2) (fun x => 40 - x.1) _ (Ghost.refl _) (0, 0, N0, fun _ => e0) ⟨Nat.zero_le _, Nat.zero_le _, hP, hI⟩ ?_ ?_
  · (refine And.intro rfl (And.intro rfl ?_)); (repeat' (first | exact trivial | exact rfl | apply And.intro | (refine congrArg (Value.int .i64) (w64_nat ?_); omega)))
  clear hP hI hnew hs4 hn hs3 hs2 hs1
  rintro gs ⟨i, k, N, W⟩ ⟨hi, hk, hN, hW⟩
  dsimp only at hi hk hN hW ⊢
  have hr2 := restF L k hl hk
  have h9 := w_nineF hW.1 hN (by omega)
  have hR := d9_right L k
  (conv => whnf); repeat ((first | refine And.intro DrawOk.go ?_ | refine And.intro rfl ?_ | refine And.intro (fun _ => ?_) (fun h => Bool.noConfusion h) | refine And.intro (fun h => Bool.noConfusion h) (fun _ => ?_)); conv => whnf)
  refine And.intro (fun h => ?_) (fun h => ?_)
  rotate_left
  · (conv => whnf); repeat ((first | refine And.intro DrawOk.go ?_ | refine And.intro rfl ?_ | refine And.intro (fun _ => ?_) (fun h => Bool.noConfusion h) | refine And.intro (fun h => Bool.noConfusion h) (fun _ => ?_)); conv => whnf)
    refine ⟨_, _, h9, ?_⟩
    (conv => whnf); repeat ((first | refine And.intro DrawOk.go ?_ | refine And.intro rfl ?_ | refine And.intro (fun _ => ?_) (fun h => Bool.noConfusion h) | refine And.intro (fun h => Bool.noConfusion h) (fun _ => ?_)); conv => whnf)
    refine ⟨_, _, hw, ?_⟩
    (conv => whnf); repeat ((first | refine And.intro DrawOk.go ?_ | refine And.intro rfl ?_ | refine And.intro (fun _ => ?_) (fun h => Bool.noConfusion h) | refine And.intro (fun h => Bool.noConfusion h) (fun _ => ?_)); conv => whnf)
    refine Exists.intro [] (And.intro List.nodup_nil ?_); ((conv => whnf); repeat ((first | refine And.intro DrawOk.go ?_ | refine And.intro rfl ?_ | refine And.intro (fun _ => ?_) (fun h => Bool.noConfusion h) | refine And.intro (fun h => Bool.noConfusion h) (fun _ => ?_)); conv => whnf))
    rfl
  have hlt : i < 40 := by have := of_decide_eq_true h; omega
  (conv => whnf); repeat ((first | refine And.intro DrawOk.go ?_ | refine And.intro rfl ?_ | refine And.intro (fun _ => ?_) (fun h => Bool.noConfusion h) | refine And.intro (fun h => Bool.noConfusion h) (fun _ => ?_)); conv => whnf)
  refine ⟨_, _, hr2, ?_⟩
  (conv => whnf); repeat ((first | refine And.intro DrawOk.go ?_ | refine And.intro rfl ?_ | refine And.intro (fun _ => ?_) (fun h => Bool.noConfusion h) | refine And.intro (fun h => Bool.noConfusion h) (fun _ => ?_)); conv => whnf)
  refine And.intro (fun h4 => ?_) (fun h4 => ?_)
  rotate_left
  · (conv => whnf); repeat ((first | refine And.intro DrawOk.go ?_ | refine And.intro rfl ?_ | refine And.intro (fun _ => ?_) (fun h => Bool.noConfusion h) | refine And.intro (fun h => Bool.noConfusion h) (fun _ => ?_)); conv => whnf)
    refine ⟨_, _, h9, ?_⟩
    (conv => whnf); repeat ((first | refine And.intro DrawOk.go ?_ | refine And.intro rfl ?_ | refine And.intro (fun _ => ?_) (fun h => Bool.noConfusion h) | refine And.intro (fun h => Bool.noConfusion h) (fun _ => ?_)); conv => whnf)
    refine ⟨_, _, hw, ?_⟩
    (conv => whnf); repeat ((first | refine And.intro DrawOk.go ?_ | refine And.intro rfl ?_ | refine And.intro (fun _ => ?_) (fun h => Bool.noConfusion h) | refine And.intro (fun h => Bool.noConfusion h) (fun _ => ?_)); conv => whnf)
    refine Exists.intro [] (And.intro List.nodup_nil ?_); ((conv => whnf); repeat ((first | refine And.intro DrawOk.go ?_ | refine And.intro rfl ?_ | refine And.intro (fun _ => ?_) (fun h => Bool.noConfusion h) | refine And.intro (fun h => Bool.noConfusion h) (fun _ => ?_)); conv => whnf))
    rfl
  have hE := m9F L k hl
  have hk2 := d9k_le hk
  generalize d9k L k = k2 at hE hk2
  generalize d9 L k = x at hE hR
  obtain ⟨b, kd, v, mv, z, o⟩ := x
  obtain ⟨bn, rfl⟩ : ∃ bn : Nat, b = bn := ⟨b.toNat, by have := hR.2.1; dsimp only at this; omega⟩
  have hb9 : bn < 9 := by have := hR.2.2.1; dsimp only at this; omega
  obtain ⟨N2, ok, hin, hok, hP2, hW2⟩ := w_instF hW hN (by omega) hb9 hR.1
  clear hN hR h9 hr2
  (conv => whnf); repeat ((first | refine And.intro DrawOk.go ?_ | refine And.intro rfl ?_ | refine And.intro (fun _ => ?_) (fun h => Bool.noConfusion h) | refine And.intro (fun h => Bool.noConfusion h) (fun _ => ?_)); conv => whnf)
  refine ⟨_, _, hE, ?_⟩
  (conv => whnf); repeat ((first | refine And.intro DrawOk.go ?_ | refine And.intro rfl ?_ | refine And.intro (fun _ => ?_) (fun h => Bool.noConfusion h) | refine And.intro (fun h => Bool.noConfusion h) (fun _ => ?_)); conv => whnf)
  refine ⟨_, _, hin, ?_⟩
  (conv => whnf); repeat ((first | refine And.intro DrawOk.go ?_ | refine And.intro rfl ?_ | refine And.intro (fun _ => ?_) (fun h => Bool.noConfusion h) | refine And.intro (fun h => Bool.noConfusion h) (fun _ => ?_)); conv => whnf)
  refine vc_join [5, 6, 7, 8, 9, 10, 11, 13] [6, 8, 10, 11] (X := Unit) (fun _ _ => []) (fun _ _ => [(24, .var 1 (dcs L k2))]) (fun _ => True) ?_ ?_
  · clear hW2 hW hin
    have hbc : bn = 0 ∨ bn = 1 ∨ bn = 2 ∨ bn = 3 ∨ bn = 4 ∨ bn = 5 ∨ bn = 6 ∨ bn = 7 ∨ bn = 8 := by omega
    rcases hbc with rfl | rfl | rfl | rfl | rfl | rfl | rfl | rfl | rfl
    all_goals
      ((conv => whnf); repeat ((first | refine And.intro DrawOk.go ?_ | refine And.intro rfl ?_ | refine And.intro (fun _ => ?_) (fun h => Bool.noConfusion h) | refine And.intro (fun h => Bool.noConfusion h) (fun _ => ?_)); conv => whnf))
      refine ⟨Int.natCast_nonneg _, of_decide_eq_true rfl, ?_⟩
      ((conv => whnf); repeat ((first | refine And.intro DrawOk.go ?_ | refine And.intro rfl ?_ | refine And.intro (fun _ => ?_) (fun h => Bool.noConfusion h) | refine And.intro (fun h => Bool.noConfusion h) (fun _ => ?_)); conv => whnf))
      refine And.intro (fun h => by simp at h) (fun _ => ?_)
      ((conv => whnf); repeat ((first | refine And.intro DrawOk.go ?_ | refine And.intro rfl ?_ | refine And.intro (fun _ => ?_) (fun h => Bool.noConfusion h) | refine And.intro (fun h => Bool.noConfusion h) (fun _ => ?_)); conv => whnf))
      refine ⟨Int.natCast_nonneg _, of_decide_eq_true rfl, ?_⟩
      ((conv => whnf); repeat ((first | refine And.intro DrawOk.go ?_ | refine And.intro rfl ?_ | refine And.intro (fun _ => ?_) (fun h => Bool.noConfusion h) | refine And.intro (fun h => Bool.noConfusion h) (fun _ => ?_)); conv => whnf))
      refine And.intro (fun h => by rw [hok] at h; simp at h) (fun _ => ?_)
      ((conv => whnf); repeat ((first | refine And.intro DrawOk.go ?_ | refine And.intro rfl ?_ | refine And.intro (fun _ => ?_) (fun h => Bool.noConfusion h) | refine And.intro (fun h => Bool.noConfusion h) (fun _ => ?_)); conv => whnf))
      refine joined () trivial ?_
      ((refine And.intro rfl (And.intro rfl ?_)); (repeat' (first | exact trivial | exact rfl | apply And.intro | (refine congrArg (Value.int .i64) (w64_nat ?_); omega))))
  intro gs2 _ _
  (conv => whnf); repeat ((first | refine And.intro DrawOk.go ?_ | refine And.intro rfl ?_ | refine And.intro (fun _ => ?_) (fun h => Bool.noConfusion h) | refine And.intro (fun h => Bool.noConfusion h) (fun _ => ?_)); conv => whnf)
  refine vc_join [5, 6, 7, 8, 9, 11] [6, 11] (X := Nat → Ety) (fun _ _ => []) (fun W' _ => [(24, .var 1 (dcs L k2)), (8, .var 1 (wCs W'))]) (fun W' => wInv N2 W') ?_ ?_
  · clear hok hin
    cases ok with
    | false =>
      (conv => whnf); repeat ((first | refine And.intro DrawOk.go ?_ | refine And.intro rfl ?_ | refine And.intro (fun _ => ?_) (fun h => Bool.noConfusion h) | refine And.intro (fun h => Bool.noConfusion h) (fun _ => ?_)); conv => whnf)
      refine joined W ⟨hW2.1, fun j hj => (hW2.2 j hj).trans (if_neg (fun h => Bool.noConfusion h.1))⟩ ?_
      (refine And.intro rfl (And.intro rfl ?_)); (repeat' (first | exact trivial | exact rfl | apply And.intro | (refine congrArg (Value.int .i64) (w64_nat ?_); omega)))
    | true =>
      have hbc : bn = 0 ∨ bn = 1 ∨ bn = 2 ∨ bn = 3 ∨ bn = 4 ∨ bn = 5 ∨ bn = 6 ∨ bn = 7 ∨ bn = 8 := by omega
      rcases hbc with rfl | rfl | rfl | rfl | rfl | rfl | rfl | rfl | rfl
      all_goals
        ((conv => whnf); repeat ((first | refine And.intro DrawOk.go ?_ | refine And.intro rfl ?_ | refine And.intro (fun _ => ?_) (fun h => Bool.noConfusion h) | refine And.intro (fun h => Bool.noConfusion h) (fun _ => ?_)); conv => whnf))
        refine ⟨Int.natCast_nonneg _, of_decide_eq_true rfl, ?_⟩
        ((conv => whnf); repeat ((first | refine And.intro DrawOk.go ?_ | refine And.intro rfl ?_ | refine And.intro (fun _ => ?_) (fun h => Bool.noConfusion h) | refine And.intro (fun h => Bool.noConfusion h) (fun _ => ?_)); conv => whnf))
        refine joined _ hW2 ?_
        ((refine And.intro rfl (And.intro rfl ?_)); (repeat' (first | exact trivial | exact rfl | apply And.intro | (refine congrArg (Value.int .i64) (w64_nat ?_); omega))))
  intro gs3 W' hW'
  clear hW2 hW hok hin
  (conv => whnf); repeat ((first | refine And.intro DrawOk.go ?_ | refine And.intro rfl ?_ | refine And.intro (fun _ => ?_) (fun h => Bool.noConfusion h) | refine And.intro (fun h => Bool.noConfusion h) (fun _ => ?_)); conv => whnf)
  refine vc_loop [5, 6, 7, 8, 9] [6, 8] (X := Nat) (fun j gs => [(14, ATint j)]) (fun _ _ => [(24, .var 1 (dcs L k2))]) (fun j => j ≤ 9) (fun j => 9 - j) _ (Ghost.refl _) 0 (Nat.zero_le _) ?_ ?_
  · (refine And.intro rfl (And.intro rfl ?_)); (repeat' (first | exact trivial | exact rfl | apply And.intro | (refine congrArg (Value.int .i64) (w64_nat ?_); omega)))
  intro gs4 j hj
  (conv => whnf); repeat ((first | refine And.intro DrawOk.go ?_ | refine And.intro rfl ?_ | refine And.intro (fun _ => ?_) (fun h => Bool.noConfusion h) | refine And.intro (fun h => Bool.noConfusion h) (fun _ => ?_)); conv => whnf)
  refine And.intro (fun h => ?_) (fun h => ?_)
  · have hj9 : j < 9 := by have := of_decide_eq_true h; omega
    have hlo := w_lookF hW' hP2 (by omega) j hj9
    have hbc : j = 0 ∨ j = 1 ∨ j = 2 ∨ j = 3 ∨ j = 4 ∨ j = 5 ∨ j = 6 ∨ j = 7 ∨ j = 8 := by omega
    rcases hbc with rfl | rfl | rfl | rfl | rfl | rfl | rfl | rfl | rfl
    all_goals
      ((conv => whnf); repeat ((first | refine And.intro DrawOk.go ?_ | refine And.intro rfl ?_ | refine And.intro (fun _ => ?_) (fun h => Bool.noConfusion h) | refine And.intro (fun h => Bool.noConfusion h) (fun _ => ?_)); conv => whnf))
      refine ⟨_, _, hlo, ?_⟩
      ((conv => whnf); repeat ((first | refine And.intro DrawOk.go ?_ | refine And.intro rfl ?_ | refine And.intro (fun _ => ?_) (fun h => Bool.noConfusion h) | refine And.intro (fun h => Bool.noConfusion h) (fun _ => ?_)); conv => whnf))
      refine ⟨Int.natCast_nonneg _, of_decide_eq_true rfl, ?_⟩
      ((conv => whnf); repeat ((first | refine And.intro DrawOk.go ?_ | refine And.intro rfl ?_ | refine And.intro (fun _ => ?_) (fun h => Bool.noConfusion h) | refine And.intro (fun h => Bool.noConfusion h) (fun _ => ?_)); conv => whnf))
      refine And.intro (fun h => by simp at h) (fun _ => ?_)
      ((conv => whnf); repeat ((first | refine And.intro DrawOk.go ?_ | refine And.intro rfl ?_ | refine And.intro (fun _ => ?_) (fun h => Bool.noConfusion h) | refine And.intro (fun h => Bool.noConfusion h) (fun _ => ?_)); conv => whnf))
      refine ⟨Int.natCast_nonneg _, of_decide_eq_true rfl, ?_⟩
      ((conv => whnf); repeat ((first | refine And.intro DrawOk.go ?_ | refine And.intro rfl ?_ | refine And.intro (fun _ => ?_) (fun h => Bool.noConfusion h) | refine And.intro (fun h => Bool.noConfusion h) (fun _ => ?_)); conv => whnf))
      refine And.intro (fun h => by simp at h) (fun _ => ?_)
      ((conv => whnf); repeat ((first | refine And.intro DrawOk.go ?_ | refine And.intro rfl ?_ | refine And.intro (fun _ => ?_) (fun h => Bool.noConfusion h) | refine And.intro (fun h => Bool.noConfusion h) (fun _ => ?_)); conv => whnf))
      refine again _ hj9 (Nat.sub_lt_sub_left hj9 (Nat.lt_succ_self _)) ?_
      ((refine And.intro rfl (And.intro rfl ?_)); (repeat' (first | exact trivial | exact rfl | apply And.intro | (refine congrArg (Value.int .i64) (w64_nat ?_); omega))))
      all_goals exact congrArg (Value.int .i64) (w64_nat (by omega))
  · (conv => whnf); repeat ((first | refine And.intro DrawOk.go ?_ | refine And.intro rfl ?_ | refine And.intro (fun _ => ?_) (fun h => Bool.noConfusion h) | refine And.intro (fun h => Bool.noConfusion h) (fun _ => ?_)); conv => whnf)
    refine again (i + 1, k2, N2, W') ⟨hlt, hk2, hP2, hW'⟩ (Nat.sub_lt_sub_left hlt (Nat.lt_succ_self i)) ?_
    (refine And.intro rfl (And.intro rfl ?_)); (repeat' (first | exact trivial | exact rfl | apply And.intro | (refine congrArg (Value.int .i64) (w64_nat ?_); omega)))
    all_goals exact congrArg (Value.int .i64) (w64_nat (by omega))
end Go.Proofs.Ytgjcljjgifnjdaa.Ab
namespace Go.Proofs.Ytgjcljjgifnjdaa
set_option linter.unusedVariables false
set_option linter.unusedSimpArgs false
open Ab
set_option maxRecDepth 100000 in
theorem l2pFinds.walk {H : Type} {enc : TypeId × Value → H} {W : World} {base : Nat} (v : Value) (d : DataW H) (p : List MemPlace) (hv : Value.okWide Try.prog W .any base 22 v)
    (h : DataW.Trod enc Try.prog W 0 (fun _ => true) true 22 v d p) (hw : ∀ n ∈ d.weights Try.prog 22, n ≤ 140737488351232)
    (a2 : Int) (w2 : (Lit.int .u8 a2).wf = true)
    (W' : World) (hW : W' = W := by rfl) : Calls Try.prog 8 #[v, .int .u8 a2] W' (True1 W') := by
  subst hW
  obtain ⟨es, _, q1, q2⟩ := open_sl tabOk 3 (t := 22) (by decide +kernel) rfl hv h
  obtain ⟨xs, rfl⟩ := ints_of (d := 2) es (fun r hr => (q1 r hr).2)
  have b3 := slice_bound tabOk (e := 3) rfl h hw (q2 (fun _ _ => undef) (fun _ => 0))
  rw [bytesOf_eq tabOk (fun h => TK.noConfusion h)] at b3
  have b3' : (wV xs).length * 8 ≤ 140737488351232 := b3
  have u2 : (decide (0 ≤ a2) && decide (a2 ≤ 255)) = true := w2
  rw [Bool.and_eq_true, decide_eq_true_eq, decide_eq_true_eq] at u2
  exact law_of_fun (l2pFindsF xs a2 u2 (by simp [wV] at b3'; omega)) rfl (reps_get (vs := [_, _]) ⟨q2 _ _, .sc _ rfl, trivial⟩)
end Go.Proofs.Ytgjcljjgifnjdaa
