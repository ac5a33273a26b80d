/- The counters: of entries. -/
import Derived.Test.YtijajfldpaadnaaLp
namespace Go.Proofs.Ytijajfldpaadnaa.Ab
set_option linter.unusedVariables false
set_option linter.unusedSimpArgs false
open Go.RowKit

def cofL (z : Int) : List Ety → List Int → Option (List Int)
  | [], ls => some ls
  | e :: es, ls => if 0 ≤ e.z ∧ e.z < z then cofL z es (cupd ls e.z 1) else none
def cof (z : Int) (es : List Ety) : (List Int × List Int) × Bool :=
  if 1 ≤ z ∧ z ≤ 32 then match cofL z es (List.replicate z.toNat 0) with
    | some ls => ((ls, List.replicate z.toNat 0), true)
    | none => (([], []), false)
  else (([], []), false)
def cb (i : Nat) (ls : List Int) : Prop := ∀ x ∈ ls, 0 ≤ x ∧ x ≤ i
theorem cb_upd {i : Nat} {ls : List Int} (h : cb i ls) (z : Int) : cb (i + 1) (cupd ls z 1) := by
  intro x hx
  unfold cupd at hx
  rcases List.mem_or_eq_of_mem_set hx with h1 | h1
  · have := h x h1; omega
  · by_cases hz : z.toNat < ls.length
    · rw [List.getElem?_eq_getElem hz] at h1
      have := h _ (List.getElem_mem hz)
      simp at h1
      omega
    · rw [List.getElem?_eq_none (by omega)] at h1
      simp at h1
      omega
theorem cb_zero (n : Nat) : cb 0 (List.replicate n 0) := by
  intro x hx
  rw [List.eq_of_mem_replicate hx]
  omega
theorem cb_valid {i : Nat} {ls : List Int} {n : Nat} (h : cb i ls) (hi : i ≤ 1000000) (hn : ls.length = n) (h1 : 1 ≤ n ∧ n ≤ 32) : cvalid ls (List.replicate n 0) = true := by
  unfold cvalid cin
  simp only [Bool.and_eq_true, decide_eq_true_eq, List.all_eq_true, List.length_replicate]
  refine ⟨by omega, ⟨fun x hx => (h x hx).1, fun x hx => by have := (h x hx).2; omega⟩, fun x hx => ?_, fun x hx => ?_⟩ <;> (rw [List.eq_of_mem_replicate hx]; omega)

set_option maxRecDepth 100000 in
set_option maxHeartbeats 8000000 in
theorem cnewOlive (N : Nat) (hN : 1 ≤ N ∧ N ≤ 32) : Fun Try.prog 26 [i64V N] [.row 0 3 1 (wV (List.replicate N 0)), .row 0 3 1 (wV (List.replicate N 0))] (.tup [.agg [.own 0 0, .own 1 0], i64V 0]) := by
  refine fun_of_vc tabOk mixOk Try.func26 rfl (by rfl) (rs := [.cell 2 34, .tmp 3]) rfl rfl 20 ?_; rw [Try.ntmps26]
  (conv => whnf); repeat (first | (refine And.intro rfl ?_; conv => whnf) | (refine And.intro (fun _ => ?_) (fun h => Bool.noConfusion h); conv => whnf) | (refine And.intro (fun h => Bool.noConfusion h) (fun _ => ?_); conv => whnf))
  refine And.intro (fun h => ?_) (fun _ => ?_)
  · have := of_decide_eq_true h; omega
  (conv => whnf); repeat (first | (refine And.intro rfl ?_; conv => whnf) | (refine And.intro (fun _ => ?_) (fun h => Bool.noConfusion h); conv => whnf) | (refine And.intro (fun h => Bool.noConfusion h) (fun _ => ?_); conv => whnf))
  refine And.intro (fun h => ?_) (fun _ => ?_)
  · have := of_decide_eq_true h; omega
  (conv => whnf); repeat (first | (refine And.intro rfl ?_; conv => whnf) | (refine And.intro (fun _ => ?_) (fun h => Bool.noConfusion h); conv => whnf) | (refine And.intro (fun h => Bool.noConfusion h) (fun _ => ?_); conv => whnf))
  refine ⟨by omega, rfl, ?_, by omega, ?_⟩
  · rw [Nat.mul_comm]; exact bytes_le (by decide) (by omega)
  (conv => whnf); repeat (first | (refine And.intro rfl ?_; conv => whnf) | (refine And.intro (fun _ => ?_) (fun h => Bool.noConfusion h); conv => whnf) | (refine And.intro (fun h => Bool.noConfusion h) (fun _ => ?_); conv => whnf))
  refine ⟨by omega, rfl, ?_, by omega, ?_⟩
  · rw [Nat.mul_comm]; exact bytes_le (by decide) (by omega)
  (conv => whnf); repeat (first | (refine And.intro rfl ?_; conv => whnf) | (refine And.intro (fun _ => ?_) (fun h => Bool.noConfusion h); conv => whnf) | (refine And.intro (fun h => Bool.noConfusion h) (fun _ => ?_); conv => whnf))
  refine ⟨[12, 14], by simp, ?_⟩
  (conv => whnf); repeat (first | (refine And.intro rfl ?_; conv => whnf) | (refine And.intro (fun _ => ?_) (fun h => Bool.noConfusion h); conv => whnf) | (refine And.intro (fun h => Bool.noConfusion h) (fun _ => ?_); conv => whnf))
  exact ⟨congrArg (fun l => [Blk.row 0 3 1 l, Blk.row 0 3 1 l]) (zeros N), rfl⟩
set_option maxRecDepth 100000 in
set_option maxHeartbeats 8000000 in
theorem cnewOref10 (N : Nat) (hN : 1 ≤ N ∧ N ≤ 32) : Fun Try.prog 123 [i64V N] [.row 0 3 1 (wV (List.replicate N 0)), .row 0 3 1 (wV (List.replicate N 0))] (.tup [.agg [.own 0 0, .own 1 0], i64V 0]) := by
  refine fun_of_vc tabOk mixOk Try.func123 rfl (by rfl) (rs := [.cell 2 34, .tmp 3]) rfl rfl 20 ?_; rw [Try.ntmps123]
  (conv => whnf); repeat (first | (refine And.intro rfl ?_; conv => whnf) | (refine And.intro (fun _ => ?_) (fun h => Bool.noConfusion h); conv => whnf) | (refine And.intro (fun h => Bool.noConfusion h) (fun _ => ?_); conv => whnf))
  refine And.intro (fun h => ?_) (fun _ => ?_)
  · have := of_decide_eq_true h; omega
  (conv => whnf); repeat (first | (refine And.intro rfl ?_; conv => whnf) | (refine And.intro (fun _ => ?_) (fun h => Bool.noConfusion h); conv => whnf) | (refine And.intro (fun h => Bool.noConfusion h) (fun _ => ?_); conv => whnf))
  refine And.intro (fun h => ?_) (fun _ => ?_)
  · have := of_decide_eq_true h; omega
  (conv => whnf); repeat (first | (refine And.intro rfl ?_; conv => whnf) | (refine And.intro (fun _ => ?_) (fun h => Bool.noConfusion h); conv => whnf) | (refine And.intro (fun h => Bool.noConfusion h) (fun _ => ?_); conv => whnf))
  refine ⟨by omega, rfl, ?_, by omega, ?_⟩
  · rw [Nat.mul_comm]; exact bytes_le (by decide) (by omega)
  (conv => whnf); repeat (first | (refine And.intro rfl ?_; conv => whnf) | (refine And.intro (fun _ => ?_) (fun h => Bool.noConfusion h); conv => whnf) | (refine And.intro (fun h => Bool.noConfusion h) (fun _ => ?_); conv => whnf))
  refine ⟨by omega, rfl, ?_, by omega, ?_⟩
  · rw [Nat.mul_comm]; exact bytes_le (by decide) (by omega)
  (conv => whnf); repeat (first | (refine And.intro rfl ?_; conv => whnf) | (refine And.intro (fun _ => ?_) (fun h => Bool.noConfusion h); conv => whnf) | (refine And.intro (fun h => Bool.noConfusion h) (fun _ => ?_); conv => whnf))
  refine ⟨[12, 14], by simp, ?_⟩
  (conv => whnf); repeat (first | (refine And.intro rfl ?_; conv => whnf) | (refine And.intro (fun _ => ?_) (fun h => Bool.noConfusion h); conv => whnf) | (refine And.intro (fun h => Bool.noConfusion h) (fun _ => ?_); conv => whnf))
  exact ⟨congrArg (fun l => [Blk.row 0 3 1 l, Blk.row 0 3 1 l]) (zeros N), rfl⟩
theorem cofX {z : Int} (es : List Ety) (h : ¬ (1 ≤ z ∧ z ≤ 32)) : cof z es = (([], []), false) := by unfold cof; rw [if_neg h]
theorem cof_no {N : Nat} {es : List Ety} (hN : 1 ≤ N ∧ N ≤ 32) (h : cofL N es (List.replicate N 0) = none) : cof N es = (([], []), false) := by
  unfold cof; rw [if_pos (by omega), Int.toNat_natCast, h]
theorem cof_yes {N : Nat} {es : List Ety} {ls : List Int} (hN : 1 ≤ N ∧ N ≤ 32) (h : cofL N es (List.replicate N 0) = some ls) : cof N es = ((ls, List.replicate N 0), true) := by
  unfold cof; rw [if_pos (by omega), Int.toNat_natCast, h]

set_option maxRecDepth 100000 in
set_option maxHeartbeats 16000000 in
theorem cofF (z : Int) (es : List Ety) (hl : es.length ≤ 1000000) : Fun Try.prog 32 [i64V z, slV (eR es)] [] (.tup [cntV (cof z es).1.1 (cof z es).1.2, bV (cof z es).2]) := by
  by_cases hz : 1 ≤ z ∧ z ≤ 32
  · obtain ⟨N, rfl⟩ := Int.eq_ofNat_of_zero_le (show 0 ≤ z by omega)
    have hN : 1 ≤ N ∧ N ≤ 32 := by omega
    refine fun_of_vc tabOk mixOk Try.func32 rfl (by rfl) (rs := [.cell 4 34, .tmp 5]) rfl rfl 51 ?_; rw [Try.ntmps32]
    (conv => whnf); repeat (first | (refine And.intro rfl ?_; conv => whnf) | (refine And.intro (fun _ => ?_) (fun h => Bool.noConfusion h); conv => whnf) | (refine And.intro (fun h => Bool.noConfusion h) (fun _ => ?_); conv => whnf))
    refine ⟨_, _, cnewOlive N hN, ?_⟩
    (conv => whnf); repeat (first | (refine And.intro rfl ?_; conv => whnf) | (refine And.intro (fun _ => ?_) (fun h => Bool.noConfusion h); conv => whnf) | (refine And.intro (fun h => Bool.noConfusion h) (fun _ => ?_); conv => whnf))
    refine vc_loop [0, 4, 6, 18, 19] [4, 6] (X := Nat × List Int) (fun x gs => [(20, ATint x.1)]) (fun x gs => [(12, .row 1 3 1 (wV x.2)), (13, .row 1 3 1 (wV (List.replicate N 0)))]) (fun x => x.1 ≤ es.length ∧ x.2.length = N ∧ cb x.1 x.2 ∧ cofL N es (List.replicate N 0) = cofL N (es.drop x.1) x.2) (fun x => es.length - x.1) _ (Ghost.refl _) (0, List.replicate N 0) ⟨by omega, by simp, cb_zero N, rfl⟩ ?_ ?_
    · (refine And.intro rfl (And.intro rfl ?_)); (repeat' (first | exact trivial | exact rfl | apply And.intro | (refine congrArg (Value.int .i64) (w64_nat ?_); omega)))
    rintro gs ⟨i, ls⟩ ⟨hi, hn, hb, hq⟩
    dsimp only at hi hn hb hq ⊢
    (conv => whnf); repeat (first | (refine And.intro rfl ?_; conv => whnf) | (refine And.intro (fun _ => ?_) (fun h => Bool.noConfusion h); conv => whnf) | (refine And.intro (fun h => Bool.noConfusion h) (fun _ => ?_); conv => whnf))
    refine And.intro (fun h => ?_) (fun h => ?_)
    · have hlt : i < es.length := by have := of_decide_eq_true h; simp [eR] at this; omega
      rw [List.drop_eq_getElem_cons hlt] at hq
      generalize hE : es[i] = e at hq
      obtain ⟨eb, ek, ev, em, ez, eo⟩ := e
      have hI : (eR es)[((i : Int)).toNat]? = some [.sc (.int .i64 eb), .sc (.int .i64 ek), .sc (.int .i64 ev), .sc (.int .i64 em), .sc (.int .i64 ez), .sc (.int .i64 eo)] := by
        have := eItem hlt
        rw [hE] at this
        exact this
      simp only [cofL] at hq
      (conv => whnf); repeat (first | (refine And.intro rfl ?_; conv => whnf) | (refine And.intro (fun _ => ?_) (fun h => Bool.noConfusion h); conv => whnf) | (refine And.intro (fun h => Bool.noConfusion h) (fun _ => ?_); conv => whnf))
      refine ⟨by omega, _, hI, rfl, ?_⟩
      (conv => whnf); repeat (first | (refine And.intro rfl ?_; conv => whnf) | (refine And.intro (fun _ => ?_) (fun h => Bool.noConfusion h); conv => whnf) | (refine And.intro (fun h => Bool.noConfusion h) (fun _ => ?_); conv => whnf))
      refine And.intro (fun h2 => ?_) (fun h2 => ?_)
      · have h2' := of_decide_eq_true h2
        rw [if_neg (by omega)] at hq
        have e := cof_no hN hq
        (conv => whnf); repeat (first | (refine And.intro rfl ?_; conv => whnf) | (refine And.intro (fun _ => ?_) (fun h => Bool.noConfusion h); conv => whnf) | (refine And.intro (fun h => Bool.noConfusion h) (fun _ => ?_); conv => whnf))
        refine Exists.intro [] (And.intro List.nodup_nil ?_); ((conv => whnf); repeat (first | (refine And.intro rfl ?_; conv => whnf) | (refine And.intro (fun _ => ?_) (fun h => Bool.noConfusion h); conv => whnf) | (refine And.intro (fun h => Bool.noConfusion h) (fun _ => ?_); conv => whnf)))
        rw [e]; rfl
      have h2' := of_decide_eq_false h2
      (conv => whnf); repeat (first | (refine And.intro rfl ?_; conv => whnf) | (refine And.intro (fun _ => ?_) (fun h => Bool.noConfusion h); conv => whnf) | (refine And.intro (fun h => Bool.noConfusion h) (fun _ => ?_); conv => whnf))
      refine And.intro (fun h3 => ?_) (fun h3 => ?_)
      · have h3' := of_decide_eq_true h3
        rw [if_neg (by omega)] at hq
        have e := cof_no hN hq
        (conv => whnf); repeat (first | (refine And.intro rfl ?_; conv => whnf) | (refine And.intro (fun _ => ?_) (fun h => Bool.noConfusion h); conv => whnf) | (refine And.intro (fun h => Bool.noConfusion h) (fun _ => ?_); conv => whnf))
        refine Exists.intro [] (And.intro List.nodup_nil ?_); ((conv => whnf); repeat (first | (refine And.intro rfl ?_; conv => whnf) | (refine And.intro (fun _ => ?_) (fun h => Bool.noConfusion h); conv => whnf) | (refine And.intro (fun h => Bool.noConfusion h) (fun _ => ?_); conv => whnf)))
        rw [e]; rfl
      have h3' := of_decide_eq_false h3
      rw [if_pos (by omega)] at hq
      obtain ⟨k, rfl⟩ := Int.eq_ofNat_of_zero_le (show 0 ≤ ez by omega)
      have k1 : k < ls.length := by omega
      have hbk := hb _ (List.getElem_mem k1)
      have hw : iwrap .i64 (ls[k] + 1) = ls[k] + 1 := w64_in (by omega)
      have s1 := wupd ls k 1 _ k1 hw
      (conv => whnf); repeat (first | (refine And.intro rfl ?_; conv => whnf) | (refine And.intro (fun _ => ?_) (fun h => Bool.noConfusion h); conv => whnf) | (refine And.intro (fun h => Bool.noConfusion h) (fun _ => ?_); conv => whnf))
      refine ⟨by omega, by simpa [wV] using k1, ?_⟩
      (conv => whnf); repeat (first | (refine And.intro rfl ?_; conv => whnf) | (refine And.intro (fun _ => ?_) (fun h => Bool.noConfusion h); conv => whnf) | (refine And.intro (fun h => Bool.noConfusion h) (fun _ => ?_); conv => whnf))
      refine ⟨_, wItem k1, ?_⟩
      (conv => whnf); repeat (first | (refine And.intro rfl ?_; conv => whnf) | (refine And.intro (fun _ => ?_) (fun h => Bool.noConfusion h); conv => whnf) | (refine And.intro (fun h => Bool.noConfusion h) (fun _ => ?_); conv => whnf))
      refine ⟨by omega, by simpa [wV] using k1, ?_⟩
      (conv => whnf); repeat (first | (refine And.intro rfl ?_; conv => whnf) | (refine And.intro (fun _ => ?_) (fun h => Bool.noConfusion h); conv => whnf) | (refine And.intro (fun h => Bool.noConfusion h) (fun _ => ?_); conv => whnf))
      refine ⟨_, wItem k1, ?_⟩
      (conv => whnf); repeat (first | (refine And.intro rfl ?_; conv => whnf) | (refine And.intro (fun _ => ?_) (fun h => Bool.noConfusion h); conv => whnf) | (refine And.intro (fun h => Bool.noConfusion h) (fun _ => ?_); conv => whnf))
      refine again (i + 1, cupd ls k 1) ⟨hlt, by rw [cupd_len]; exact hn, cb_upd hb k, hq⟩ (by dsimp only; omega) ?_
      (refine And.intro rfl (And.intro rfl ?_)); (repeat' (first | exact trivial | exact rfl | apply And.intro | (refine congrArg (Value.int .i64) (w64_nat ?_); omega)))
      all_goals exact congrArg (Blk.row _ _ _) s1
    · have hge : ¬ i < es.length := by have := of_decide_eq_false h; simp [eR] at this; omega
      rw [List.drop_of_length_le (by omega)] at hq
      have e := cof_yes hN hq
      (conv => whnf); repeat (first | (refine And.intro rfl ?_; conv => whnf) | (refine And.intro (fun _ => ?_) (fun h => Bool.noConfusion h); conv => whnf) | (refine And.intro (fun h => Bool.noConfusion h) (fun _ => ?_); conv => whnf))
      refine Exists.intro [] (And.intro List.nodup_nil ?_); ((conv => whnf); repeat (first | (refine And.intro rfl ?_; conv => whnf) | (refine And.intro (fun _ => ?_) (fun h => Bool.noConfusion h); conv => whnf) | (refine And.intro (fun h => Bool.noConfusion h) (fun _ => ?_); conv => whnf)))
      rw [e]; rfl
  · rw [cofX es hz]
    refine fun_of_vc tabOk mixOk Try.func32 rfl (by rfl) (rs := [.cell 4 34, .tmp 5]) rfl rfl 51 ?_; rw [Try.ntmps32]
    (conv => whnf); repeat (first | (refine And.intro rfl ?_; conv => whnf) | (refine And.intro (fun _ => ?_) (fun h => Bool.noConfusion h); conv => whnf) | (refine And.intro (fun h => Bool.noConfusion h) (fun _ => ?_); conv => whnf))
    refine ⟨_, _, cnewX z hz, ?_⟩
    (conv => whnf); repeat (first | (refine And.intro rfl ?_; conv => whnf) | (refine And.intro (fun _ => ?_) (fun h => Bool.noConfusion h); conv => whnf) | (refine And.intro (fun h => Bool.noConfusion h) (fun _ => ?_); conv => whnf))
    refine Exists.intro [] (And.intro List.nodup_nil ?_); ((conv => whnf); repeat (first | (refine And.intro rfl ?_; conv => whnf) | (refine And.intro (fun _ => ?_) (fun h => Bool.noConfusion h); conv => whnf) | (refine And.intro (fun h => Bool.noConfusion h) (fun _ => ?_); conv => whnf)))
    rfl

set_option maxRecDepth 100000 in
set_option maxHeartbeats 16000000 in
theorem cofF' (z : Int) (es : List Ety) (hl : es.length ≤ 1000000) : Fun Try.prog 89 [i64V z, slV (eR es)] [] (.tup [cntV (cof z es).1.1 (cof z es).1.2, bV (cof z es).2]) := by
  by_cases hz : 1 ≤ z ∧ z ≤ 32
  · obtain ⟨N, rfl⟩ := Int.eq_ofNat_of_zero_le (show 0 ≤ z by omega)
    have hN : 1 ≤ N ∧ N ≤ 32 := by omega
    refine fun_of_vc tabOk mixOk Try.func89 rfl (by rfl) (rs := [.cell 4 34, .tmp 5]) rfl rfl 50 ?_; rw [Try.ntmps89]
    (conv => whnf); repeat (first | (refine And.intro rfl ?_; conv => whnf) | (refine And.intro (fun _ => ?_) (fun h => Bool.noConfusion h); conv => whnf) | (refine And.intro (fun h => Bool.noConfusion h) (fun _ => ?_); conv => whnf))
    refine ⟨_, _, cnewOref10 N hN, ?_⟩
    (conv => whnf); repeat (first | (refine And.intro rfl ?_; conv => whnf) | (refine And.intro (fun _ => ?_) (fun h => Bool.noConfusion h); conv => whnf) | (refine And.intro (fun h => Bool.noConfusion h) (fun _ => ?_); conv => whnf))
    refine vc_loop [1, 4, 6] [4, 6] (X := Nat × List Int) (fun x gs => [(8, ATint x.1)]) (fun x gs => [(11, .row 1 3 1 (wV x.2)), (12, .row 1 3 1 (wV (List.replicate N 0)))]) (fun x => x.1 ≤ es.length ∧ x.2.length = N ∧ cb x.1 x.2 ∧ cofL N es (List.replicate N 0) = cofL N (es.drop x.1) x.2) (fun x => es.length - x.1) _ (Ghost.refl _) (0, List.replicate N 0) ⟨by omega, by simp, cb_zero N, rfl⟩ ?_ ?_
    · (refine And.intro rfl (And.intro rfl ?_)); (repeat' (first | exact trivial | exact rfl | apply And.intro | (refine congrArg (Value.int .i64) (w64_nat ?_); omega)))
    rintro gs ⟨i, ls⟩ ⟨hi, hn, hb, hq⟩
    dsimp only at hi hn hb hq ⊢
    (conv => whnf); repeat (first | (refine And.intro rfl ?_; conv => whnf) | (refine And.intro (fun _ => ?_) (fun h => Bool.noConfusion h); conv => whnf) | (refine And.intro (fun h => Bool.noConfusion h) (fun _ => ?_); conv => whnf))
    refine And.intro (fun h => ?_) (fun h => ?_)
    · have hlt : i < es.length := by have := of_decide_eq_true h; simp [eR] at this; omega
      rw [List.drop_eq_getElem_cons hlt] at hq
      generalize hE : es[i] = e at hq
      obtain ⟨eb, ek, ev, em, ez, eo⟩ := e
      have hI : (eR es)[((i : Int)).toNat]? = some [.sc (.int .i64 eb), .sc (.int .i64 ek), .sc (.int .i64 ev), .sc (.int .i64 em), .sc (.int .i64 ez), .sc (.int .i64 eo)] := by
        have := eItem hlt
        rw [hE] at this
        exact this
      simp only [cofL] at hq
      have cvd := cb_valid hb (by omega) hn hN
      (conv => whnf); repeat (first | (refine And.intro rfl ?_; conv => whnf) | (refine And.intro (fun _ => ?_) (fun h => Bool.noConfusion h); conv => whnf) | (refine And.intro (fun h => Bool.noConfusion h) (fun _ => ?_); conv => whnf))
      refine ⟨by omega, _, hI, rfl, ?_⟩
      (conv => whnf); repeat (first | (refine And.intro rfl ?_; conv => whnf) | (refine And.intro (fun _ => ?_) (fun h => Bool.noConfusion h); conv => whnf) | (refine And.intro (fun h => Bool.noConfusion h) (fun _ => ?_); conv => whnf))
      refine ⟨_, _, cidxF' ls (List.replicate N 0) ez, ?_⟩
      (conv => whnf); repeat (first | (refine And.intro rfl ?_; conv => whnf) | (refine And.intro (fun _ => ?_) (fun h => Bool.noConfusion h); conv => whnf) | (refine And.intro (fun h => Bool.noConfusion h) (fun _ => ?_); conv => whnf))
      refine And.intro (fun h2 => ?_) (fun h2 => ?_)
      · have h2' : ¬ (0 ≤ ez ∧ ez < ls.length) := fun h => by rw [(cidx_iff cvd).2 h] at h2; cases h2
        rw [if_neg (by omega)] at hq
        have e := cof_no hN hq
        (conv => whnf); repeat (first | (refine And.intro rfl ?_; conv => whnf) | (refine And.intro (fun _ => ?_) (fun h => Bool.noConfusion h); conv => whnf) | (refine And.intro (fun h => Bool.noConfusion h) (fun _ => ?_); conv => whnf))
        refine Exists.intro [] (And.intro List.nodup_nil ?_); ((conv => whnf); repeat (first | (refine And.intro rfl ?_; conv => whnf) | (refine And.intro (fun _ => ?_) (fun h => Bool.noConfusion h); conv => whnf) | (refine And.intro (fun h => Bool.noConfusion h) (fun _ => ?_); conv => whnf)))
        rw [e]; rfl
      have h2' := (cidx_iff cvd).1 (by simpa using h2)
      rw [if_pos (by omega)] at hq
      obtain ⟨k, rfl⟩ := Int.eq_ofNat_of_zero_le (show 0 ≤ ez by omega)
      have k1 : k < ls.length := by omega
      have hbk := hb _ (List.getElem_mem k1)
      have hw : iwrap .i64 (ls[k] + 1) = ls[k] + 1 := w64_in (by omega)
      have s1 := wupd ls k 1 _ k1 hw
      (conv => whnf); repeat (first | (refine And.intro rfl ?_; conv => whnf) | (refine And.intro (fun _ => ?_) (fun h => Bool.noConfusion h); conv => whnf) | (refine And.intro (fun h => Bool.noConfusion h) (fun _ => ?_); conv => whnf))
      refine ⟨by omega, _, hI, rfl, ?_⟩
      (conv => whnf); repeat (first | (refine And.intro rfl ?_; conv => whnf) | (refine And.intro (fun _ => ?_) (fun h => Bool.noConfusion h); conv => whnf) | (refine And.intro (fun h => Bool.noConfusion h) (fun _ => ?_); conv => whnf))
      refine ⟨by omega, by simpa [wV] using k1, ?_⟩
      (conv => whnf); repeat (first | (refine And.intro rfl ?_; conv => whnf) | (refine And.intro (fun _ => ?_) (fun h => Bool.noConfusion h); conv => whnf) | (refine And.intro (fun h => Bool.noConfusion h) (fun _ => ?_); conv => whnf))
      refine ⟨_, wItem k1, ?_⟩
      (conv => whnf); repeat (first | (refine And.intro rfl ?_; conv => whnf) | (refine And.intro (fun _ => ?_) (fun h => Bool.noConfusion h); conv => whnf) | (refine And.intro (fun h => Bool.noConfusion h) (fun _ => ?_); conv => whnf))
      refine ⟨by omega, by simpa [wV] using k1, ?_⟩
      (conv => whnf); repeat (first | (refine And.intro rfl ?_; conv => whnf) | (refine And.intro (fun _ => ?_) (fun h => Bool.noConfusion h); conv => whnf) | (refine And.intro (fun h => Bool.noConfusion h) (fun _ => ?_); conv => whnf))
      refine ⟨_, wItem k1, ?_⟩
      (conv => whnf); repeat (first | (refine And.intro rfl ?_; conv => whnf) | (refine And.intro (fun _ => ?_) (fun h => Bool.noConfusion h); conv => whnf) | (refine And.intro (fun h => Bool.noConfusion h) (fun _ => ?_); conv => whnf))
      refine again (i + 1, cupd ls k 1) ⟨hlt, by rw [cupd_len]; exact hn, cb_upd hb k, hq⟩ (by dsimp only; omega) ?_
      (refine And.intro rfl (And.intro rfl ?_)); (repeat' (first | exact trivial | exact rfl | apply And.intro | (refine congrArg (Value.int .i64) (w64_nat ?_); omega)))
      all_goals exact congrArg (Blk.row _ _ _) s1
    · have hge : ¬ i < es.length := by have := of_decide_eq_false h; simp [eR] at this; omega
      rw [List.drop_of_length_le (by omega)] at hq
      have e := cof_yes hN hq
      (conv => whnf); repeat (first | (refine And.intro rfl ?_; conv => whnf) | (refine And.intro (fun _ => ?_) (fun h => Bool.noConfusion h); conv => whnf) | (refine And.intro (fun h => Bool.noConfusion h) (fun _ => ?_); conv => whnf))
      refine Exists.intro [] (And.intro List.nodup_nil ?_); ((conv => whnf); repeat (first | (refine And.intro rfl ?_; conv => whnf) | (refine And.intro (fun _ => ?_) (fun h => Bool.noConfusion h); conv => whnf) | (refine And.intro (fun h => Bool.noConfusion h) (fun _ => ?_); conv => whnf)))
      rw [e]; rfl
  · rw [cofX es hz]
    refine fun_of_vc tabOk mixOk Try.func89 rfl (by rfl) (rs := [.cell 4 34, .tmp 5]) rfl rfl 50 ?_; rw [Try.ntmps89]
    (conv => whnf); repeat (first | (refine And.intro rfl ?_; conv => whnf) | (refine And.intro (fun _ => ?_) (fun h => Bool.noConfusion h); conv => whnf) | (refine And.intro (fun h => Bool.noConfusion h) (fun _ => ?_); conv => whnf))
    refine ⟨_, _, cnewX' z hz, ?_⟩
    (conv => whnf); repeat (first | (refine And.intro rfl ?_; conv => whnf) | (refine And.intro (fun _ => ?_) (fun h => Bool.noConfusion h); conv => whnf) | (refine And.intro (fun h => Bool.noConfusion h) (fun _ => ?_); conv => whnf))
    refine Exists.intro [] (And.intro List.nodup_nil ?_); ((conv => whnf); repeat (first | (refine And.intro rfl ?_; conv => whnf) | (refine And.intro (fun _ => ?_) (fun h => Bool.noConfusion h); conv => whnf) | (refine And.intro (fun h => Bool.noConfusion h) (fun _ => ?_); conv => whnf)))
    rfl
end Go.Proofs.Ytijajfldpaadnaa.Ab
