/- The counters: as many appends end as begin. -/
import Derived.Test.YtijajfldpaadnaaLy
namespace Go.Proofs.Ytijajfldpaadnaa.Ab
set_option linter.unusedVariables false
set_option linter.unusedSimpArgs false
open Go.RowKit

theorem cbegin_ok {n k : Nat} {ps : List Int} (hv : cvalid (List.replicate n 0) ps = true) (hk : k < ps.length) (hn : k < n) (hx : ps[k] < 1099511627776) : cbegin (List.replicate n 0) ps k = (ps.set k (ps[k] + 1), true) := by
  unfold cbegin
  have q : cidx (List.replicate n 0) ps k = true := (cidx_iff hv).2 ⟨by omega, by simp; omega⟩
  rw [q, Int.toNat_natCast, List.getElem?_eq_getElem hk, if_neg (by simp; omega)]; rfl
theorem cend_ok {n k : Nat} {ps : List Int} (hv : cvalid (List.replicate n 0) ps = true) (hk : k < ps.length) (hn : k < n) (hx : 0 < ps[k]) : cend (List.replicate n 0) ps k = (ps.set k (ps[k] - 1), true) := by
  unfold cend
  have q : cidx (List.replicate n 0) ps k = true := (cidx_iff hv).2 ⟨by omega, by simp; omega⟩
  rw [q, Int.toNat_natCast, List.getElem?_eq_getElem hk, if_neg (by simp; omega)]; rfl
theorem cend_no {n k : Nat} {ps : List Int} (hk : k < ps.length) (hx : ps[k] = 0) : cend (List.replicate n 0) ps k = (ps, false) := by
  unfold cend
  rw [if_pos (Or.inr (by rw [Int.toNat_natCast, List.getElem?_eq_getElem hk, hx]))]
theorem cb_in {i n : Nat} {ps : List Int} (h : cb i ps) (hi : i ≤ 1000) (hn : ps.length = n) (h1 : 1 ≤ n ∧ n ≤ 32) : cvalid (List.replicate n 0) ps = true := by
  unfold cvalid cin
  simp only [Bool.and_eq_true, decide_eq_true_eq, List.all_eq_true, List.length_replicate]
  refine ⟨by omega, ⟨fun x hx => ?_, fun x hx => ?_⟩, fun x hx => (h x hx).1, fun x hx => by have := (h x hx).2; omega⟩ <;> (rw [List.eq_of_mem_replicate hx]; omega)
theorem cb_set {i : Nat} {ps : List Int} (h : cb i ps) (k : Nat) {v : Int} (hv : 0 ≤ v ∧ v ≤ i + 1) : cb (i + 1) (ps.set k v) := by
  intro x hx
  rcases List.mem_or_eq_of_mem_set hx with h1 | h1
  · have := h x h1; omega
  · rw [h1]; omega

set_option maxRecDepth 100000 in
set_option maxHeartbeats 16000000 in
theorem livePendingF (a : Int) (ha : 0 ≤ a ∧ a ≤ 255) (ss : List Int) (hss : ∀ x ∈ ss, 0 ≤ x ∧ x ≤ 255) : Fun Try.prog 6 [.c (.i (.sc (.int .u8 a))), slV (cV ss)] [] (ATbool true) := by
  obtain ⟨N, hN, hN1⟩ : ∃ N : Nat, iwrap .i64 (1 + iwrap .i64 (a.tmod 32)) = (N : Int) ∧ 1 ≤ N ∧ N ≤ 32 := by
    have q : a.tmod 32 = ((a.toNat % 32 : Nat) : Int) := by
      rw [Int.tmod_eq_emod_of_nonneg ha.1]; omega
    refine ⟨1 + a.toNat % 32, ?_, by omega, by omega⟩
    rw [q, show iwrap .i64 ((a.toNat % 32 : Nat) : Int) = ((a.toNat % 32 : Nat) : Int) from w64_in (by omega)]
    exact (w64_in (by omega)).trans (by omega)
  refine fun_of_vc tabOk mixOk Try.func6 rfl (by rfl) (rs := [.tmp 4]) rfl rfl 103 ?_; rw [Try.ntmps6]
  (conv => whnf); repeat (first | (refine And.intro rfl ?_; conv => whnf) | (refine And.intro (fun _ => ?_) (fun h => Bool.noConfusion h); conv => whnf) | (refine And.intro (fun h => Bool.noConfusion h) (fun _ => ?_); conv => whnf))
  refine And.intro (fun h => ?_) (fun h => ?_)
  · (conv => whnf); repeat (first | (refine And.intro rfl ?_; conv => whnf) | (refine And.intro (fun _ => ?_) (fun h => Bool.noConfusion h); conv => whnf) | (refine And.intro (fun h => Bool.noConfusion h) (fun _ => ?_); conv => whnf))
    refine ⟨_, _, livAwake, ?_⟩
    (conv => whnf); repeat (first | (refine And.intro rfl ?_; conv => whnf) | (refine And.intro (fun _ => ?_) (fun h => Bool.noConfusion h); conv => whnf) | (refine And.intro (fun h => Bool.noConfusion h) (fun _ => ?_); conv => whnf))
    refine Exists.intro [] (And.intro List.nodup_nil ?_); ((conv => whnf); repeat (first | (refine And.intro rfl ?_; conv => whnf) | (refine And.intro (fun _ => ?_) (fun h => Bool.noConfusion h); conv => whnf) | (refine And.intro (fun h => Bool.noConfusion h) (fun _ => ?_); conv => whnf)))
    rfl
  have hl : ss.length ≤ 100 := by have := of_decide_eq_false h; simp [cV] at this; omega
  (conv => whnf); repeat (first | (refine And.intro rfl ?_; conv => whnf) | (refine And.intro (fun _ => ?_) (fun h => Bool.noConfusion h); conv => whnf) | (refine And.intro (fun h => Bool.noConfusion h) (fun _ => ?_); conv => whnf))
  refine ⟨by decide, ?_⟩
  (conv => whnf); repeat (first | (refine And.intro rfl ?_; conv => whnf) | (refine And.intro (fun _ => ?_) (fun h => Bool.noConfusion h); conv => whnf) | (refine And.intro (fun h => Bool.noConfusion h) (fun _ => ?_); conv => whnf))
  rw [hN]
  refine ⟨_, _, cnewF N hN1, ?_⟩
  (conv => whnf); repeat (first | (refine And.intro rfl ?_; conv => whnf) | (refine And.intro (fun _ => ?_) (fun h => Bool.noConfusion h); conv => whnf) | (refine And.intro (fun h => Bool.noConfusion h) (fun _ => ?_); conv => whnf))
  refine ⟨by omega, rfl, ?_, by omega, ?_⟩
  · rw [Nat.mul_comm]; exact bytes_le (by decide) (by omega)
  (conv => whnf); repeat (first | (refine And.intro rfl ?_; conv => whnf) | (refine And.intro (fun _ => ?_) (fun h => Bool.noConfusion h); conv => whnf) | (refine And.intro (fun h => Bool.noConfusion h) (fun _ => ?_); conv => whnf))
  rw [zeros N]
  refine vc_loop [1, 5, 6, 7, 8] [] (X := Nat × List Int) (fun x gs => [(9, ATint x.1)]) (fun x gs => [(6, .var 1 [.i (.sl (wV (List.replicate N 0))), .i (.sl (wV x.2))]), (29, .row 1 3 1 (wV x.2))]) (fun x => x.1 ≤ ss.length ∧ x.2.length = N ∧ cb x.1 x.2) (fun x => ss.length - x.1) _ (Ghost.refl _) (0, List.replicate N 0) ⟨by omega, by simp, cb_zero N⟩ ?_ ?_
  · (refine And.intro rfl (And.intro rfl ?_)); (repeat' (first | exact trivial | exact rfl | apply And.intro | (refine congrArg (Value.int .i64) (w64_nat ?_); omega)))
  rintro gs ⟨i, ps⟩ ⟨hi, hn, hb⟩
  dsimp only at hi hn hb ⊢
  (conv => whnf); repeat (first | (refine And.intro rfl ?_; conv => whnf) | (refine And.intro (fun _ => ?_) (fun h => Bool.noConfusion h); conv => whnf) | (refine And.intro (fun h => Bool.noConfusion h) (fun _ => ?_); conv => whnf))
  refine And.intro (fun h => ?_) (fun h => ?_)
  · have hlt : i < ss.length := by have := of_decide_eq_true h; simp [cV] at this; omega
    have hx := hss _ (List.getElem_mem hlt)
    (conv => whnf); repeat (first | (refine And.intro rfl ?_; conv => whnf) | (refine And.intro (fun _ => ?_) (fun h => Bool.noConfusion h); conv => whnf) | (refine And.intro (fun h => Bool.noConfusion h) (fun _ => ?_); conv => whnf))
    refine ⟨by omega, _, cItem hlt, rfl, ?_⟩
    (conv => whnf); repeat (first | (refine And.intro rfl ?_; conv => whnf) | (refine And.intro (fun _ => ?_) (fun h => Bool.noConfusion h); conv => whnf) | (refine And.intro (fun h => Bool.noConfusion h) (fun _ => ?_); conv => whnf))
    refine ⟨by decide, ?_⟩
    (conv => whnf); repeat (first | (refine And.intro rfl ?_; conv => whnf) | (refine And.intro (fun _ => ?_) (fun h => Bool.noConfusion h); conv => whnf) | (refine And.intro (fun h => Bool.noConfusion h) (fun _ => ?_); conv => whnf))
    refine ⟨by omega, ?_⟩
    obtain ⟨k, hk, hkN⟩ : ∃ k : Nat, (iwrap .i64 (ss[i].fdiv (2 ^ (min (1 : Int).toNat (IntKind.bits .u8))))).tmod (N : Int) = (k : Int) ∧ k < N := by
      have q : ss[i].fdiv (2 ^ (min (1 : Int).toNat (IntKind.bits .u8))) = ((ss[i].toNat / 2 : Nat) : Int) := by
        rw [show (2 : Int) ^ (min (1 : Int).toNat (IntKind.bits .u8)) = 2 from rfl, Int.fdiv_eq_ediv_of_nonneg _ (by omega)]; omega
      rw [q, show iwrap .i64 ((ss[i].toNat / 2 : Nat) : Int) = ((ss[i].toNat / 2 : Nat) : Int) from w64_in (by omega)]
      exact ⟨ss[i].toNat / 2 % N, by rw [Int.tmod_eq_emod_of_nonneg (by omega)]; omega, Nat.mod_lt _ (by omega)⟩
    have kp : k < ps.length := by omega
    have cvd := cb_in hb (by omega) hn hN1
    have hbk := hb _ (List.getElem_mem kp)
    (conv => whnf); repeat (first | (refine And.intro rfl ?_; conv => whnf) | (refine And.intro (fun _ => ?_) (fun h => Bool.noConfusion h); conv => whnf) | (refine And.intro (fun h => Bool.noConfusion h) (fun _ => ?_); conv => whnf))
    rw [hk]
    refine ⟨by omega, _, cItem hlt, rfl, ?_⟩
    (conv => whnf); repeat (first | (refine And.intro rfl ?_; conv => whnf) | (refine And.intro (fun _ => ?_) (fun h => Bool.noConfusion h); conv => whnf) | (refine And.intro (fun h => Bool.noConfusion h) (fun _ => ?_); conv => whnf))
    refine And.intro (fun h6 => ?_) (fun h6 => ?_)
    · have e := cbegin_ok cvd kp hkN (by omega)
      have c1 := cbeginF (List.replicate N 0) ps k (by simp; omega) (by omega)
      rw [e] at c1
      have hw : iwrap .i64 (ps[k] + 1) = ps[k] + 1 := w64_in (by omega)
      (conv => whnf); repeat (first | (refine And.intro rfl ?_; conv => whnf) | (refine And.intro (fun _ => ?_) (fun h => Bool.noConfusion h); conv => whnf) | (refine And.intro (fun h => Bool.noConfusion h) (fun _ => ?_); conv => whnf))
      refine ⟨_, _, c1, ?_⟩
      (conv => whnf); repeat (first | (refine And.intro rfl ?_; conv => whnf) | (refine And.intro (fun _ => ?_) (fun h => Bool.noConfusion h); conv => whnf) | (refine And.intro (fun h => Bool.noConfusion h) (fun _ => ?_); conv => whnf))
      refine ⟨by omega, by simpa [wV] using kp, ?_⟩
      (conv => whnf); repeat (first | (refine And.intro rfl ?_; conv => whnf) | (refine And.intro (fun _ => ?_) (fun h => Bool.noConfusion h); conv => whnf) | (refine And.intro (fun h => Bool.noConfusion h) (fun _ => ?_); conv => whnf))
      refine ⟨_, wItem kp, ?_⟩
      (conv => whnf); repeat (first | (refine And.intro rfl ?_; conv => whnf) | (refine And.intro (fun _ => ?_) (fun h => Bool.noConfusion h); conv => whnf) | (refine And.intro (fun h => Bool.noConfusion h) (fun _ => ?_); conv => whnf))
      refine ⟨by omega, by simpa [wV] using kp, ?_⟩
      (conv => whnf); repeat (first | (refine And.intro rfl ?_; conv => whnf) | (refine And.intro (fun _ => ?_) (fun h => Bool.noConfusion h); conv => whnf) | (refine And.intro (fun h => Bool.noConfusion h) (fun _ => ?_); conv => whnf))
      refine ⟨_, wItem kp, ?_⟩
      (conv => whnf); repeat (first | (refine And.intro rfl ?_; conv => whnf) | (refine And.intro (fun _ => ?_) (fun h => Bool.noConfusion h); conv => whnf) | (refine And.intro (fun h => Bool.noConfusion h) (fun _ => ?_); conv => whnf))
      refine again (i + 1, ps.set k (ps[k] + 1)) ⟨hlt, by simpa using hn, cb_set hb k (by omega)⟩ (by dsimp only; omega) ?_
      (refine And.intro rfl (And.intro rfl ?_)); (repeat' (first | exact trivial | exact rfl | apply And.intro | (refine congrArg (Value.int .i64) (w64_nat ?_); omega)))
      all_goals exact congrArg (Blk.row _ _ _) (by rw [hw]; exact wset ps k _)
    · have c0 := cendF (List.replicate N 0) ps k (by simp; omega) (by omega)
      by_cases hz : ps[k] = 0
      · rw [cend_no kp hz] at c0
        (conv => whnf); repeat (first | (refine And.intro rfl ?_; conv => whnf) | (refine And.intro (fun _ => ?_) (fun h => Bool.noConfusion h); conv => whnf) | (refine And.intro (fun h => Bool.noConfusion h) (fun _ => ?_); conv => whnf))
        refine ⟨_, _, c0, ?_⟩
        (conv => whnf); repeat (first | (refine And.intro rfl ?_; conv => whnf) | (refine And.intro (fun _ => ?_) (fun h => Bool.noConfusion h); conv => whnf) | (refine And.intro (fun h => Bool.noConfusion h) (fun _ => ?_); conv => whnf))
        refine ⟨by omega, by simpa [wV] using kp, ?_⟩
        (conv => whnf); repeat (first | (refine And.intro rfl ?_; conv => whnf) | (refine And.intro (fun _ => ?_) (fun h => Bool.noConfusion h); conv => whnf) | (refine And.intro (fun h => Bool.noConfusion h) (fun _ => ?_); conv => whnf))
        refine ⟨_, wItem kp, ?_⟩
        (conv => whnf); repeat (first | (refine And.intro rfl ?_; conv => whnf) | (refine And.intro (fun _ => ?_) (fun h => Bool.noConfusion h); conv => whnf) | (refine And.intro (fun h => Bool.noConfusion h) (fun _ => ?_); conv => whnf))
        refine And.intro (fun h => by simp [hz] at h) (fun _ => ?_)
        (conv => whnf); repeat (first | (refine And.intro rfl ?_; conv => whnf) | (refine And.intro (fun _ => ?_) (fun h => Bool.noConfusion h); conv => whnf) | (refine And.intro (fun h => Bool.noConfusion h) (fun _ => ?_); conv => whnf))
        refine ⟨by omega, by simpa [wV] using kp, ?_⟩
        (conv => whnf); repeat (first | (refine And.intro rfl ?_; conv => whnf) | (refine And.intro (fun _ => ?_) (fun h => Bool.noConfusion h); conv => whnf) | (refine And.intro (fun h => Bool.noConfusion h) (fun _ => ?_); conv => whnf))
        refine ⟨_, wItem kp, ?_⟩
        (conv => whnf); repeat (first | (refine And.intro rfl ?_; conv => whnf) | (refine And.intro (fun _ => ?_) (fun h => Bool.noConfusion h); conv => whnf) | (refine And.intro (fun h => Bool.noConfusion h) (fun _ => ?_); conv => whnf))
        refine ⟨by omega, by simpa [wV] using kp, ?_⟩
        (conv => whnf); repeat (first | (refine And.intro rfl ?_; conv => whnf) | (refine And.intro (fun _ => ?_) (fun h => Bool.noConfusion h); conv => whnf) | (refine And.intro (fun h => Bool.noConfusion h) (fun _ => ?_); conv => whnf))
        refine ⟨_, wItem kp, ?_⟩
        (conv => whnf); repeat (first | (refine And.intro rfl ?_; conv => whnf) | (refine And.intro (fun _ => ?_) (fun h => Bool.noConfusion h); conv => whnf) | (refine And.intro (fun h => Bool.noConfusion h) (fun _ => ?_); conv => whnf))
        refine again (i + 1, ps) ⟨hlt, hn, fun x hx => by have := hb x hx; omega⟩ (by dsimp only; omega) ?_
        (refine And.intro rfl (And.intro rfl ?_)); (repeat' (first | exact trivial | exact rfl | apply And.intro | (refine congrArg (Value.int .i64) (w64_nat ?_); omega)))
        all_goals (refine congrArg (Blk.row _ _ _) ?_)
        all_goals (rw [show iwrap .i64 (ps[k] - 1) = -1 from (w64_in (by omega)).trans (by omega), if_neg (by omega), wset, ← hz, List.set_getElem_self])
      · rw [cend_ok cvd kp hkN (by omega)] at c0
        (conv => whnf); repeat (first | (refine And.intro rfl ?_; conv => whnf) | (refine And.intro (fun _ => ?_) (fun h => Bool.noConfusion h); conv => whnf) | (refine And.intro (fun h => Bool.noConfusion h) (fun _ => ?_); conv => whnf))
        refine ⟨_, _, c0, ?_⟩
        (conv => whnf); repeat (first | (refine And.intro rfl ?_; conv => whnf) | (refine And.intro (fun _ => ?_) (fun h => Bool.noConfusion h); conv => whnf) | (refine And.intro (fun h => Bool.noConfusion h) (fun _ => ?_); conv => whnf))
        refine ⟨by omega, by simpa [wV] using kp, ?_⟩
        (conv => whnf); repeat (first | (refine And.intro rfl ?_; conv => whnf) | (refine And.intro (fun _ => ?_) (fun h => Bool.noConfusion h); conv => whnf) | (refine And.intro (fun h => Bool.noConfusion h) (fun _ => ?_); conv => whnf))
        refine ⟨_, wItem kp, ?_⟩
        (conv => whnf); repeat (first | (refine And.intro rfl ?_; conv => whnf) | (refine And.intro (fun _ => ?_) (fun h => Bool.noConfusion h); conv => whnf) | (refine And.intro (fun h => Bool.noConfusion h) (fun _ => ?_); conv => whnf))
        refine And.intro (fun h => by simp at h; omega) (fun _ => ?_)
        (conv => whnf); repeat (first | (refine And.intro rfl ?_; conv => whnf) | (refine And.intro (fun _ => ?_) (fun h => Bool.noConfusion h); conv => whnf) | (refine And.intro (fun h => Bool.noConfusion h) (fun _ => ?_); conv => whnf))
        refine ⟨by omega, by simpa [wV] using kp, ?_⟩
        (conv => whnf); repeat (first | (refine And.intro rfl ?_; conv => whnf) | (refine And.intro (fun _ => ?_) (fun h => Bool.noConfusion h); conv => whnf) | (refine And.intro (fun h => Bool.noConfusion h) (fun _ => ?_); conv => whnf))
        refine ⟨_, wItem kp, ?_⟩
        (conv => whnf); repeat (first | (refine And.intro rfl ?_; conv => whnf) | (refine And.intro (fun _ => ?_) (fun h => Bool.noConfusion h); conv => whnf) | (refine And.intro (fun h => Bool.noConfusion h) (fun _ => ?_); conv => whnf))
        refine ⟨by omega, by simpa [wV] using kp, ?_⟩
        (conv => whnf); repeat (first | (refine And.intro rfl ?_; conv => whnf) | (refine And.intro (fun _ => ?_) (fun h => Bool.noConfusion h); conv => whnf) | (refine And.intro (fun h => Bool.noConfusion h) (fun _ => ?_); conv => whnf))
        refine ⟨_, wItem kp, ?_⟩
        (conv => whnf); repeat (first | (refine And.intro rfl ?_; conv => whnf) | (refine And.intro (fun _ => ?_) (fun h => Bool.noConfusion h); conv => whnf) | (refine And.intro (fun h => Bool.noConfusion h) (fun _ => ?_); conv => whnf))
        refine again (i + 1, ps.set k (ps[k] - 1)) ⟨hlt, by simpa using hn, cb_set hb k (by omega)⟩ (by dsimp only; omega) ?_
        (refine And.intro rfl (And.intro rfl ?_)); (repeat' (first | exact trivial | exact rfl | apply And.intro | (refine congrArg (Value.int .i64) (w64_nat ?_); omega)))
        all_goals (refine congrArg (Blk.row _ _ _) ?_)
        all_goals (rw [show iwrap .i64 (ps[k] - 1) = ps[k] - 1 from w64_in (by omega)])
        all_goals (by_cases hq : ps[k] - 1 > 0; (rw [if_pos hq, wset]); (rw [if_neg hq, wset, show ps[k] - 1 = 0 by omega]))
  · (conv => whnf); repeat (first | (refine And.intro rfl ?_; conv => whnf) | (refine And.intro (fun _ => ?_) (fun h => Bool.noConfusion h); conv => whnf) | (refine And.intro (fun h => Bool.noConfusion h) (fun _ => ?_); conv => whnf))
    refine ⟨_, _, sameF ps (by omega), ?_⟩
    (conv => whnf); repeat (first | (refine And.intro rfl ?_; conv => whnf) | (refine And.intro (fun _ => ?_) (fun h => Bool.noConfusion h); conv => whnf) | (refine And.intro (fun h => Bool.noConfusion h) (fun _ => ?_); conv => whnf))
    refine ⟨_, _, livAwake, ?_⟩
    (conv => whnf); repeat (first | (refine And.intro rfl ?_; conv => whnf) | (refine And.intro (fun _ => ?_) (fun h => Bool.noConfusion h); conv => whnf) | (refine And.intro (fun h => Bool.noConfusion h) (fun _ => ?_); conv => whnf))
    refine Exists.intro [] (And.intro List.nodup_nil ?_); ((conv => whnf); repeat (first | (refine And.intro rfl ?_; conv => whnf) | (refine And.intro (fun _ => ?_) (fun h => Bool.noConfusion h); conv => whnf) | (refine And.intro (fun h => Bool.noConfusion h) (fun _ => ?_); conv => whnf)))
    rfl
end Go.Proofs.Ytijajfldpaadnaa.Ab
namespace Go.Proofs.Ytijajfldpaadnaa
set_option linter.unusedVariables false
set_option linter.unusedSimpArgs false
open Ab
set_option maxRecDepth 100000 in
theorem livePending.walk {H : Type} {enc : TypeId × Value → H} {W : World} {base : Nat} (a0 : Int) (w0 : (Lit.int .u8 a0).wf = true) (v : Value) (d : DataW H) (p : List MemPlace) (hv : Value.okWide Try.prog W .any base 85 v)
    (h : DataW.Trod enc Try.prog W 0 (fun _ => true) true 85 v d p) (_hw : ∀ n ∈ d.weights Try.prog 85, n ≤ 140737488351232)
    (W' : World) (hW : W' = W := by rfl) : Calls Try.prog 6 #[.int .u8 a0, v] W' (True1 W') := by
  subst hW
  obtain ⟨es, _, q1, q2⟩ := open_sl tabOk 3 (t := 85) (by decide +kernel) rfl hv h
  obtain ⟨ss, rfl, hss⟩ := u8s_of (d := 2) es (fun r hr => (q1 r hr).2)
  exact law_of_fun (livePendingF a0 (bounds_u8 w0) ss hss) rfl (two (.sc _ rfl) (q2 _ _))
end Go.Proofs.Ytijajfldpaadnaa
