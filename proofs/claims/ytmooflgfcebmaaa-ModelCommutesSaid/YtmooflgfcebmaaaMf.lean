/- Blocks as clients see them: commands made of numbers; reads return what was written last. -/
import Derived.Test.YtmooflgfcebmaaaMd
namespace Go.Proofs.Ytmooflgfcebmaaa.Ab
set_option linter.unusedVariables false
set_option linter.unusedSimpArgs false
open Go.RowKit

def cmdV (c : Cmd) : AV := cmV c.k c.b c.s
def mk0 (L : List Int) (k : Nat) : Int := 1 + dval L k 4
def mcmd (L : List Int) (k : Nat) (n : Int) : Cmd := ⟨mk0 L k, if mk0 L k = 4 then 0 else dval L (dnx L k) n, if mk0 L k = 2 then vval (dval L (dnx L (dnx L k)) 50) else ByteArray.empty⟩
def mnxt (L : List Int) (k : Nat) : Nat := if mk0 L k = 2 then dnx L (dnx L (dnx L k)) else dnx L (dnx L k)
theorem mnxt_le {L : List Int} {k : Nat} (h : k ≤ L.length) : mnxt L k ≤ L.length := by
  unfold mnxt
  split
  · exact dnx_le (dnx_le (dnx_le h))
  · exact dnx_le (dnx_le h)
theorem mk0_in (L : List Int) (k : Nat) : mk0 L k = 1 ∨ mk0 L k = 2 ∨ mk0 L k = 3 ∨ mk0 L k = 4 := by
  have := dval_in L k (n := 4) (by decide) (by decide)
  unfold mk0
  omega
theorem mk0_w (L : List Int) (k : Nat) : iwrap .i64 (1 + dval L k 4) = mk0 L k := by
  have := dval_in L k (n := 4) (by decide) (by decide)
  exact w64_in (by omega)
set_option maxRecDepth 100000 in
set_option maxHeartbeats 16000000 in
theorem mcmdF (L : List Int) (k : Nat) (n : Int) (hl : L.length ≤ 1000000) : FunP Try.prog 42 (dcs L k) [i64V n] (dcs L (mnxt L k)) (.v (cmdV (mcmd L k n))) := by
  have h4 := mk0_in L k
  have hw := mk0_w L k
  have n1 := nextF L k 4 hl
  have n2 := nextF L (dnx L k) n hl
  have n3 := nextF L (dnx L (dnx L k)) 50 hl
  have e1 : mnxt L k = if mk0 L k = 2 then dnx L (dnx L (dnx L k)) else dnx L (dnx L k) := rfl
  have e2 : mcmd L k n = ⟨mk0 L k, if mk0 L k = 4 then 0 else dval L (dnx L k) n, if mk0 L k = 2 then vval (dval L (dnx L (dnx L k)) 50) else ByteArray.empty⟩ := rfl
  rw [e1, e2]
  generalize mk0 L k = kk at h4 hw ⊢
  generalize dval L (dnx L k) n = bb at n2 ⊢
  generalize dval L (dnx L (dnx L k)) 50 = vv at n3 ⊢
  rcases h4 with rfl | rfl | rfl | rfl
  all_goals (refine funP_of_vc tabOk mixOk Try.func42 rfl (by rfl) (rs := [.cell 4 34]) rfl rfl rfl rfl rfl 29 ?_; rw [Try.ntmps42]; (conv => whnf); repeat (first | (refine And.intro rfl ?_; conv => whnf) | (refine And.intro (fun _ => ?_) (fun h => Bool.noConfusion h); conv => whnf) | (refine And.intro (fun h => Bool.noConfusion h) (fun _ => ?_); conv => whnf)))
  all_goals (refine ⟨_, _, n1, ?_⟩; (conv => whnf); repeat (first | (refine And.intro rfl ?_; conv => whnf) | (refine And.intro (fun _ => ?_) (fun h => Bool.noConfusion h); conv => whnf) | (refine And.intro (fun h => Bool.noConfusion h) (fun _ => ?_); conv => whnf)); refine ⟨_, _, n2, ?_⟩; (conv => whnf); repeat (first | (refine And.intro rfl ?_; conv => whnf) | (refine And.intro (fun _ => ?_) (fun h => Bool.noConfusion h); conv => whnf) | (refine And.intro (fun h => Bool.noConfusion h) (fun _ => ?_); conv => whnf)); rw [hw]; (conv => whnf); repeat (first | (refine And.intro rfl ?_; conv => whnf) | (refine And.intro (fun _ => ?_) (fun h => Bool.noConfusion h); conv => whnf) | (refine And.intro (fun h => Bool.noConfusion h) (fun _ => ?_); conv => whnf)))
  all_goals (repeat' (first | (refine And.intro (fun h => ?_) (fun h => ?_) <;> (try (simp at h)) <;> ((conv => whnf); repeat (first | (refine And.intro rfl ?_; conv => whnf) | (refine And.intro (fun _ => ?_) (fun h => Bool.noConfusion h); conv => whnf) | (refine And.intro (fun h => Bool.noConfusion h) (fun _ => ?_); conv => whnf)))) | (refine ⟨_, _, n3, ?_⟩; ((conv => whnf); repeat (first | (refine And.intro rfl ?_; conv => whnf) | (refine And.intro (fun _ => ?_) (fun h => Bool.noConfusion h); conv => whnf) | (refine And.intro (fun h => Bool.noConfusion h) (fun _ => ?_); conv => whnf)))) | (refine ⟨_, _, valF vv, ?_⟩; ((conv => whnf); repeat (first | (refine And.intro rfl ?_; conv => whnf) | (refine And.intro (fun _ => ?_) (fun h => Bool.noConfusion h); conv => whnf) | (refine And.intro (fun h => Bool.noConfusion h) (fun _ => ?_); conv => whnf)))) | fail))
  all_goals rfl

theorem chk_ok {n : Nat} (c : Cmd) (h : (c.k = 1 ∧ 0 ≤ c.b ∧ c.b < n ∧ c.s.size = 0) ∨ (c.k = 2 ∧ 0 ≤ c.b ∧ c.b < n ∧ c.s.size = 16) ∨ (c.k = 3 ∧ 0 ≤ c.b ∧ c.b < n ∧ c.s.size = 0) ∨ (c.k = 4 ∧ c.b = 0 ∧ c.s.size = 0)) : chk n c.k c.b c.s.size = 0 := by
  unfold chk
  rcases h with ⟨h1, h2, h3, h4⟩ | ⟨h1, h2, h3, h4⟩ | ⟨h1, h2, h3, h4⟩ | ⟨h1, h2, h4⟩
  · rw [if_pos (by omega), if_neg (by omega), h1, if_neg (show ¬ ((1 : Int) = 2) by decide), if_pos (by omega)]
  · rw [if_pos (by omega), if_neg (by omega), h1, if_pos rfl, if_pos (by omega)]
  · rw [if_pos (by omega), if_neg (by omega), h1, if_neg (show ¬ ((3 : Int) = 2) by decide), if_pos (by omega)]
  · rw [if_neg (by omega), if_pos h1, if_pos h2, if_pos (by omega)]
theorem empty_size : ByteArray.empty.size = 0 := rfl
theorem mcmd_cases (L : List Int) (k : Nat) (n : Nat) (h1 : 1 ≤ n) (h2 : n ≤ 1000) :
    (∃ b : Int, mcmd L k n = ⟨1, b, ByteArray.empty⟩ ∧ 0 ≤ b ∧ b < n) ∨ (∃ (b : Int) (s : ByteArray), mcmd L k n = ⟨2, b, s⟩ ∧ 0 ≤ b ∧ b < n ∧ s.size = 16) ∨ (∃ b : Int, mcmd L k n = ⟨3, b, ByteArray.empty⟩ ∧ 0 ≤ b ∧ b < n) ∨ mcmd L k n = ⟨4, 0, ByteArray.empty⟩ := by
  have hb := dval_in L (dnx L k) (n := (n : Int)) (by omega) (by omega)
  unfold mcmd
  rcases mk0_in L k with e | e | e | e
  · left; exact ⟨_, by rw [e]; rfl, hb.1, hb.2⟩
  · right; left; exact ⟨_, _, by rw [e]; rfl, hb.1, hb.2, vval_size _⟩
  · right; right; left; exact ⟨_, by rw [e]; rfl, hb.1, hb.2⟩
  · right; right; right; rw [e]; rfl
theorem mres1 {ss : List ByteArray} {b : Int} (h0 : 0 ≤ b) (h1 : b.toNat < ss.length) : mres ss 1 b ByteArray.empty = (ss, (0, ss[b.toNat])) := by
  unfold mres
  rw [chk_ok ⟨1, b, ByteArray.empty⟩ (Or.inl ⟨rfl, h0, (by show b < _; omega), rfl⟩)]
  simp [h1]
theorem mres2 {ss : List ByteArray} {b : Int} {s : ByteArray} (h0 : 0 ≤ b) (h1 : b.toNat < ss.length) (hs : s.size = 16) : mres ss 2 b s = (ss.set b.toNat s, (0, ByteArray.empty)) := by
  unfold mres
  rw [chk_ok ⟨2, b, s⟩ (Or.inr (Or.inl ⟨rfl, h0, (by show b < _; omega), hs⟩))]
  simp
theorem mres3 {ss : List ByteArray} {b : Int} (h0 : 0 ≤ b) (h1 : b.toNat < ss.length) : mres ss 3 b ByteArray.empty = (ss.set b.toNat zeroS, (0, ByteArray.empty)) := by
  unfold mres
  rw [chk_ok ⟨3, b, ByteArray.empty⟩ (Or.inr (Or.inr (Or.inl ⟨rfl, h0, (by show b < _; omega), rfl⟩)))]
  simp
theorem mres4 {ss : List ByteArray} : mres ss 4 0 ByteArray.empty = (ss, (0, ByteArray.empty)) := by
  unfold mres
  rw [chk_ok ⟨4, 0, ByteArray.empty⟩ (Or.inr (Or.inr (Or.inr ⟨rfl, rfl, rfl⟩)))]
  simp
theorem sEq (a : ByteArray) : (a.toList == a.toList) = true := by simp

set_option maxRecDepth 100000 in
set_option maxHeartbeats 32000000 in
theorem modelReadsF (L : List Int) (hb : L.length ≤ 140737488355328) : Fun Try.prog 10 [slV (wV L)] [] (ATbool true) := by
  have hlight := lightF L hb
  by_cases hL : L.length ≤ 300
  · rw [decide_eq_true hL] at hlight
    have hv := dval_in L 0 (n := 5) (by decide) (by decide)
    obtain ⟨n, hn, hn1, hn5⟩ : ∃ n : Nat, iwrap .i64 (1 + dval L 0 5) = (n : Int) ∧ 1 ≤ n ∧ n ≤ 5 := ⟨(1 + dval L 0 5).toNat, by rw [show iwrap .i64 (1 + dval L 0 5) = 1 + dval L 0 5 from w64_in (by omega)]; omega, by omega, by omega⟩
    have hnew := newFzeroF (n : Int)
    rw [show mnew (n : Int) = nrow n n by unfold mnew; rw [if_neg (by omega)]; simp] at hnew
    refine fun_of_vc tabOk mixOk Try.func10 rfl (by rfl) (rs := [.tmp 2]) rfl rfl 110 ?_; rw [Try.ntmps10]
    (conv => whnf); repeat (first | (refine And.intro rfl ?_; conv => whnf) | (refine And.intro (fun _ => ?_) (fun h => Bool.noConfusion h); conv => whnf) | (refine And.intro (fun h => Bool.noConfusion h) (fun _ => ?_); conv => whnf))
    refine ⟨_, _, hlight, ?_⟩
    (conv => whnf); repeat (first | (refine And.intro rfl ?_; conv => whnf) | (refine And.intro (fun _ => ?_) (fun h => Bool.noConfusion h); conv => whnf) | (refine And.intro (fun h => Bool.noConfusion h) (fun _ => ?_); conv => whnf))
    refine ⟨_, _, rollF L (by omega), ?_⟩
    (conv => whnf); repeat (first | (refine And.intro rfl ?_; conv => whnf) | (refine And.intro (fun _ => ?_) (fun h => Bool.noConfusion h); conv => whnf) | (refine And.intro (fun h => Bool.noConfusion h) (fun _ => ?_); conv => whnf))
    refine ⟨_, _, nextF L 0 5 (by omega), ?_⟩
    (conv => whnf); repeat (first | (refine And.intro rfl ?_; conv => whnf) | (refine And.intro (fun _ => ?_) (fun h => Bool.noConfusion h); conv => whnf) | (refine And.intro (fun h => Bool.noConfusion h) (fun _ => ?_); conv => whnf))
    rw [hn]
    refine ⟨_, _, hnew, ?_⟩
    (conv => whnf); repeat (first | (refine And.intro rfl ?_; conv => whnf) | (refine And.intro (fun _ => ?_) (fun h => Bool.noConfusion h); conv => whnf) | (refine And.intro (fun h => Bool.noConfusion h) (fun _ => ?_); conv => whnf))
    refine ⟨by omega, rfl, bytes16 (by omega), by omega, ?_⟩
    (conv => whnf); repeat (first | (refine And.intro rfl ?_; conv => whnf) | (refine And.intro (fun _ => ?_) (fun h => Bool.noConfusion h); conv => whnf) | (refine And.intro (fun h => Bool.noConfusion h) (fun _ => ?_); conv => whnf))
    refine vc_loop [2, 3, 4, 5, 6] [] (X := Nat) (fun k gs => [(7, ATint k)]) (fun k _ => [(17, .var 1 (dcs L (dnx L 0))), (24, .row 1 9 1 (sV (nrow n k)))]) (fun k => k ≤ n) (fun k => n - k) _ (Ghost.refl _) 0 (by omega) ?_ ?_
    · (refine And.intro rfl (And.intro rfl ?_)); (repeat' (first | exact trivial | exact rfl | apply And.intro | (refine congrArg (Value.int .i64) (w64_nat ?_); omega)))
      all_goals (first | exact ⟨rfl, rfl, rfl, trivial⟩ | exact congrArg (Blk.row _ _ _) (nrow_zero n))
    rintro gs k hk
    (conv => whnf); repeat (first | (refine And.intro rfl ?_; conv => whnf) | (refine And.intro (fun _ => ?_) (fun h => Bool.noConfusion h); conv => whnf) | (refine And.intro (fun h => Bool.noConfusion h) (fun _ => ?_); conv => whnf))
    refine And.intro (fun h4 => ?_) (fun h4 => ?_)
    · have hlt : k < n := by have := of_decide_eq_true h4; omega
      (conv => whnf); repeat (first | (refine And.intro rfl ?_; conv => whnf) | (refine And.intro (fun _ => ?_) (fun h => Bool.noConfusion h); conv => whnf) | (refine And.intro (fun h => Bool.noConfusion h) (fun _ => ?_); conv => whnf))
      refine ⟨by decide, rfl, by decide, by decide, ?_⟩
      (conv => whnf); repeat (first | (refine And.intro rfl ?_; conv => whnf) | (refine And.intro (fun _ => ?_) (fun h => Bool.noConfusion h); conv => whnf) | (refine And.intro (fun h => Bool.noConfusion h) (fun _ => ?_); conv => whnf))
      refine ⟨List.replicate 16 0, rfl, ?_⟩
      (conv => whnf); repeat (first | (refine And.intro rfl ?_; conv => whnf) | (refine And.intro (fun _ => ?_) (fun h => Bool.noConfusion h); conv => whnf) | (refine And.intro (fun h => Bool.noConfusion h) (fun _ => ?_); conv => whnf))
      refine ⟨by omega, by rw [sLen, nrow_len]; omega, ?_⟩
      (conv => whnf); repeat (first | (refine And.intro rfl ?_; conv => whnf) | (refine And.intro (fun _ => ?_) (fun h => Bool.noConfusion h); conv => whnf) | (refine And.intro (fun h => Bool.noConfusion h) (fun _ => ?_); conv => whnf))
      refine ⟨_, sItem' (by rw [nrow_len]; omega), ?_⟩
      (conv => whnf); repeat (first | (refine And.intro rfl ?_; conv => whnf) | (refine And.intro (fun _ => ?_) (fun h => Bool.noConfusion h); conv => whnf) | (refine And.intro (fun h => Bool.noConfusion h) (fun _ => ?_); conv => whnf))
      refine again (k + 1) hlt (by omega) ?_
      (refine And.intro rfl (And.intro rfl ?_)); (repeat' (first | exact trivial | exact rfl | apply And.intro | (refine congrArg (Value.int .i64) (w64_nat ?_); omega)))
      all_goals (first | exact ⟨rfl, rfl, rfl, trivial⟩ | exact congrArg (Blk.row _ _ _) (by rw [← nrow_set _ _ hlt, ← sSet]; rfl))
    have hge : n ≤ k := by have := of_decide_eq_false h4; omega
    obtain rfl : k = n := by omega
    (conv => whnf); repeat (first | (refine And.intro rfl ?_; conv => whnf) | (refine And.intro (fun _ => ?_) (fun h => Bool.noConfusion h); conv => whnf) | (refine And.intro (fun h => Bool.noConfusion h) (fun _ => ?_); conv => whnf))
    refine vc_loop [3, 4, 6] [] (X := Nat × Nat × List ByteArray) (fun x gs => [(8, ATint x.1), (5, .v (slV (sV x.2.2)))]) (fun x gs => [(17, .var 1 (dcs L x.2.1)), (24, .row 1 9 1 (sV x.2.2))]) (fun x => x.1 ≤ 40 ∧ x.2.1 ≤ L.length ∧ x.2.2.length = k) (fun x => 40 - x.1) _ (Ghost.refl _) (0, dnx L 0, nrow k k) ⟨by omega, dnx_le (by omega), nrow_len _ _⟩ ?_ ?_
    · (refine And.intro rfl (And.intro rfl ?_)); (repeat' (first | exact trivial | exact rfl | apply And.intro | (refine congrArg (Value.int .i64) (w64_nat ?_); omega)))
      all_goals exact ⟨rfl, rfl, rfl, trivial⟩
    rintro gs2 ⟨i, q, ss⟩ ⟨hi, hq, hsl⟩
    dsimp only at hi hq hsl ⊢
    have hend : ∀ {K : Prop}, K → K := fun h => h
    (conv => whnf); repeat (first | (refine And.intro rfl ?_; conv => whnf) | (refine And.intro (fun _ => ?_) (fun h => Bool.noConfusion h); conv => whnf) | (refine And.intro (fun h => Bool.noConfusion h) (fun _ => ?_); conv => whnf))
    refine And.intro (fun h5 => ?_) (fun h5 => ?_)
    · have hi' : i < 40 := by have := of_decide_eq_true h5; omega
      (conv => whnf); repeat (first | (refine And.intro rfl ?_; conv => whnf) | (refine And.intro (fun _ => ?_) (fun h => Bool.noConfusion h); conv => whnf) | (refine And.intro (fun h => Bool.noConfusion h) (fun _ => ?_); conv => whnf))
      refine ⟨_, _, restF L q (by omega) hq, ?_⟩
      (conv => whnf); repeat (first | (refine And.intro rfl ?_; conv => whnf) | (refine And.intro (fun _ => ?_) (fun h => Bool.noConfusion h); conv => whnf) | (refine And.intro (fun h => Bool.noConfusion h) (fun _ => ?_); conv => whnf))
      refine And.intro (fun h6 => ?_) (fun h6 => ?_)
      · have hc := mcmdF L q k (by omega)
        have hqn := mnxt_le hq
        have bnd : ∀ {b : Int}, 0 ≤ b → b < k → b.toNat < ss.length := fun h1 h2 => by omega
        rcases mcmd_cases L q k hn1 (by omega) with ⟨b, e, b0, b1⟩ | ⟨b, s, e, b0, b1, hs⟩ | ⟨b, e, b0, b1⟩ | e
        · rw [e] at hc
          have hap := applyM ss 1 b ByteArray.empty (by omega)
          rw [mres1 b0 (bnd b0 b1)] at hap
          (conv => whnf); repeat (first | (refine And.intro rfl ?_; conv => whnf) | (refine And.intro (fun _ => ?_) (fun h => Bool.noConfusion h); conv => whnf) | (refine And.intro (fun h => Bool.noConfusion h) (fun _ => ?_); conv => whnf))
          refine ⟨_, _, hc, ?_⟩
          (conv => whnf); repeat (first | (refine And.intro rfl ?_; conv => whnf) | (refine And.intro (fun _ => ?_) (fun h => Bool.noConfusion h); conv => whnf) | (refine And.intro (fun h => Bool.noConfusion h) (fun _ => ?_); conv => whnf))
          refine ⟨_, _, hap, ?_⟩
          (conv => whnf); repeat (first | (refine And.intro rfl ?_; conv => whnf) | (refine And.intro (fun _ => ?_) (fun h => Bool.noConfusion h); conv => whnf) | (refine And.intro (fun h => Bool.noConfusion h) (fun _ => ?_); conv => whnf))
          refine ⟨b0, by rw [sLen]; exact bnd b0 b1, ?_⟩
          (conv => whnf); repeat (first | (refine And.intro rfl ?_; conv => whnf) | (refine And.intro (fun _ => ?_) (fun h => Bool.noConfusion h); conv => whnf) | (refine And.intro (fun h => Bool.noConfusion h) (fun _ => ?_); conv => whnf))
          refine ⟨_, sItem' (bnd b0 b1), ?_⟩
          (conv => whnf); repeat (first | (refine And.intro rfl ?_; conv => whnf) | (refine And.intro (fun _ => ?_) (fun h => Bool.noConfusion h); conv => whnf) | (refine And.intro (fun h => Bool.noConfusion h) (fun _ => ?_); conv => whnf))
          refine And.intro (fun h => by simp at h) (fun _ => ?_)
          (conv => whnf); repeat (first | (refine And.intro rfl ?_; conv => whnf) | (refine And.intro (fun _ => ?_) (fun h => Bool.noConfusion h); conv => whnf) | (refine And.intro (fun h => Bool.noConfusion h) (fun _ => ?_); conv => whnf))
          refine again (i + 1, mnxt L q, ss) ⟨hi', hqn, hsl⟩ (by dsimp only; omega) ?_
          (refine And.intro rfl (And.intro rfl ?_)); (repeat' (first | exact trivial | exact rfl | apply And.intro | (refine congrArg (Value.int .i64) (w64_nat ?_); omega)))
          all_goals exact ⟨rfl, rfl, rfl, trivial⟩
        · rw [e] at hc
          have hap := applyM ss 2 b s (by omega)
          rw [mres2 b0 (bnd b0 b1) hs] at hap
          (conv => whnf); repeat (first | (refine And.intro rfl ?_; conv => whnf) | (refine And.intro (fun _ => ?_) (fun h => Bool.noConfusion h); conv => whnf) | (refine And.intro (fun h => Bool.noConfusion h) (fun _ => ?_); conv => whnf))
          refine ⟨_, _, hc, ?_⟩
          (conv => whnf); repeat (first | (refine And.intro rfl ?_; conv => whnf) | (refine And.intro (fun _ => ?_) (fun h => Bool.noConfusion h); conv => whnf) | (refine And.intro (fun h => Bool.noConfusion h) (fun _ => ?_); conv => whnf))
          refine ⟨_, _, hap, ?_⟩
          (conv => whnf); repeat (first | (refine And.intro rfl ?_; conv => whnf) | (refine And.intro (fun _ => ?_) (fun h => Bool.noConfusion h); conv => whnf) | (refine And.intro (fun h => Bool.noConfusion h) (fun _ => ?_); conv => whnf))
          refine And.intro (fun h => by simp at h) (fun _ => ?_)
          (conv => whnf); repeat (first | (refine And.intro rfl ?_; conv => whnf) | (refine And.intro (fun _ => ?_) (fun h => Bool.noConfusion h); conv => whnf) | (refine And.intro (fun h => Bool.noConfusion h) (fun _ => ?_); conv => whnf))
          refine ⟨b0, by rw [sLen]; exact bnd b0 b1, ?_⟩
          (conv => whnf); repeat (first | (refine And.intro rfl ?_; conv => whnf) | (refine And.intro (fun _ => ?_) (fun h => Bool.noConfusion h); conv => whnf) | (refine And.intro (fun h => Bool.noConfusion h) (fun _ => ?_); conv => whnf))
          refine ⟨_, sItem' (bnd b0 b1), ?_⟩
          (conv => whnf); repeat (first | (refine And.intro rfl ?_; conv => whnf) | (refine And.intro (fun _ => ?_) (fun h => Bool.noConfusion h); conv => whnf) | (refine And.intro (fun h => Bool.noConfusion h) (fun _ => ?_); conv => whnf))
          refine again (i + 1, mnxt L q, ss.set b.toNat s) ⟨hi', hqn, by rw [List.length_set]; exact hsl⟩ (by dsimp only; omega) ?_
          (refine And.intro rfl (And.intro rfl ?_)); (repeat' (first | exact trivial | exact rfl | apply And.intro | (refine congrArg (Value.int .i64) (w64_nat ?_); omega)))
          all_goals (first | exact ⟨rfl, rfl, rfl, trivial⟩ | exact congrArg (Blk.row _ _ _) (sSet _ _ _))
        · rw [e] at hc
          have hap := applyM ss 3 b ByteArray.empty (by omega)
          rw [mres3 b0 (bnd b0 b1)] at hap
          (conv => whnf); repeat (first | (refine And.intro rfl ?_; conv => whnf) | (refine And.intro (fun _ => ?_) (fun h => Bool.noConfusion h); conv => whnf) | (refine And.intro (fun h => Bool.noConfusion h) (fun _ => ?_); conv => whnf))
          refine ⟨_, _, hc, ?_⟩
          (conv => whnf); repeat (first | (refine And.intro rfl ?_; conv => whnf) | (refine And.intro (fun _ => ?_) (fun h => Bool.noConfusion h); conv => whnf) | (refine And.intro (fun h => Bool.noConfusion h) (fun _ => ?_); conv => whnf))
          refine ⟨_, _, hap, ?_⟩
          (conv => whnf); repeat (first | (refine And.intro rfl ?_; conv => whnf) | (refine And.intro (fun _ => ?_) (fun h => Bool.noConfusion h); conv => whnf) | (refine And.intro (fun h => Bool.noConfusion h) (fun _ => ?_); conv => whnf))
          refine And.intro (fun h => by simp at h) (fun _ => ?_)
          (conv => whnf); repeat (first | (refine And.intro rfl ?_; conv => whnf) | (refine And.intro (fun _ => ?_) (fun h => Bool.noConfusion h); conv => whnf) | (refine And.intro (fun h => Bool.noConfusion h) (fun _ => ?_); conv => whnf))
          refine ⟨by decide, rfl, by decide, by decide, ?_⟩
          (conv => whnf); repeat (first | (refine And.intro rfl ?_; conv => whnf) | (refine And.intro (fun _ => ?_) (fun h => Bool.noConfusion h); conv => whnf) | (refine And.intro (fun h => Bool.noConfusion h) (fun _ => ?_); conv => whnf))
          refine ⟨List.replicate 16 0, rfl, ?_⟩
          (conv => whnf); repeat (first | (refine And.intro rfl ?_; conv => whnf) | (refine And.intro (fun _ => ?_) (fun h => Bool.noConfusion h); conv => whnf) | (refine And.intro (fun h => Bool.noConfusion h) (fun _ => ?_); conv => whnf))
          refine ⟨b0, by rw [sLen]; exact bnd b0 b1, ?_⟩
          (conv => whnf); repeat (first | (refine And.intro rfl ?_; conv => whnf) | (refine And.intro (fun _ => ?_) (fun h => Bool.noConfusion h); conv => whnf) | (refine And.intro (fun h => Bool.noConfusion h) (fun _ => ?_); conv => whnf))
          refine ⟨_, sItem' (bnd b0 b1), ?_⟩
          (conv => whnf); repeat (first | (refine And.intro rfl ?_; conv => whnf) | (refine And.intro (fun _ => ?_) (fun h => Bool.noConfusion h); conv => whnf) | (refine And.intro (fun h => Bool.noConfusion h) (fun _ => ?_); conv => whnf))
          refine again (i + 1, mnxt L q, ss.set b.toNat zeroS) ⟨hi', hqn, by rw [List.length_set]; exact hsl⟩ (by dsimp only; omega) ?_
          (refine And.intro rfl (And.intro rfl ?_)); (repeat' (first | exact trivial | exact rfl | apply And.intro | (refine congrArg (Value.int .i64) (w64_nat ?_); omega)))
          all_goals (first | exact ⟨rfl, rfl, rfl, trivial⟩ | exact congrArg (Blk.row _ _ _) (sSet _ _ _))
        · rw [e] at hc
          have hap := applyM ss 4 0 ByteArray.empty (by omega)
          rw [mres4] at hap
          (conv => whnf); repeat (first | (refine And.intro rfl ?_; conv => whnf) | (refine And.intro (fun _ => ?_) (fun h => Bool.noConfusion h); conv => whnf) | (refine And.intro (fun h => Bool.noConfusion h) (fun _ => ?_); conv => whnf))
          refine ⟨_, _, hc, ?_⟩
          (conv => whnf); repeat (first | (refine And.intro rfl ?_; conv => whnf) | (refine And.intro (fun _ => ?_) (fun h => Bool.noConfusion h); conv => whnf) | (refine And.intro (fun h => Bool.noConfusion h) (fun _ => ?_); conv => whnf))
          refine ⟨_, _, hap, ?_⟩
          (conv => whnf); repeat (first | (refine And.intro rfl ?_; conv => whnf) | (refine And.intro (fun _ => ?_) (fun h => Bool.noConfusion h); conv => whnf) | (refine And.intro (fun h => Bool.noConfusion h) (fun _ => ?_); conv => whnf))
          refine And.intro (fun h => by simp at h) (fun _ => ?_)
          (conv => whnf); repeat (first | (refine And.intro rfl ?_; conv => whnf) | (refine And.intro (fun _ => ?_) (fun h => Bool.noConfusion h); conv => whnf) | (refine And.intro (fun h => Bool.noConfusion h) (fun _ => ?_); conv => whnf))
          refine again (i + 1, mnxt L q, ss) ⟨hi', hqn, hsl⟩ (by dsimp only; omega) ?_
          (refine And.intro rfl (And.intro rfl ?_)); (repeat' (first | exact trivial | exact rfl | apply And.intro | (refine congrArg (Value.int .i64) (w64_nat ?_); omega)))
          all_goals exact ⟨rfl, rfl, rfl, trivial⟩
      · (conv => whnf); repeat (first | (refine And.intro rfl ?_; conv => whnf) | (refine And.intro (fun _ => ?_) (fun h => Bool.noConfusion h); conv => whnf) | (refine And.intro (fun h => Bool.noConfusion h) (fun _ => ?_); conv => whnf))
        refine ⟨_, _, ssameF ss ss (by omega), ?_⟩
        (conv => whnf); repeat (first | (refine And.intro rfl ?_; conv => whnf) | (refine And.intro (fun _ => ?_) (fun h => Bool.noConfusion h); conv => whnf) | (refine And.intro (fun h => Bool.noConfusion h) (fun _ => ?_); conv => whnf))
        refine And.intro (fun _ => ?_) (fun h => by simp at h)
        (conv => whnf); repeat (first | (refine And.intro rfl ?_; conv => whnf) | (refine And.intro (fun _ => ?_) (fun h => Bool.noConfusion h); conv => whnf) | (refine And.intro (fun h => Bool.noConfusion h) (fun _ => ?_); conv => whnf))
        refine ⟨_, _, mdAwake, ?_⟩
        (conv => whnf); repeat (first | (refine And.intro rfl ?_; conv => whnf) | (refine And.intro (fun _ => ?_) (fun h => Bool.noConfusion h); conv => whnf) | (refine And.intro (fun h => Bool.noConfusion h) (fun _ => ?_); conv => whnf))
        refine Exists.intro [] (And.intro List.nodup_nil ?_); ((conv => whnf); repeat (first | (refine And.intro rfl ?_; conv => whnf) | (refine And.intro (fun _ => ?_) (fun h => Bool.noConfusion h); conv => whnf) | (refine And.intro (fun h => Bool.noConfusion h) (fun _ => ?_); conv => whnf)))
        rfl
    · (conv => whnf); repeat (first | (refine And.intro rfl ?_; conv => whnf) | (refine And.intro (fun _ => ?_) (fun h => Bool.noConfusion h); conv => whnf) | (refine And.intro (fun h => Bool.noConfusion h) (fun _ => ?_); conv => whnf))
      refine ⟨_, _, ssameF ss ss (by omega), ?_⟩
      (conv => whnf); repeat (first | (refine And.intro rfl ?_; conv => whnf) | (refine And.intro (fun _ => ?_) (fun h => Bool.noConfusion h); conv => whnf) | (refine And.intro (fun h => Bool.noConfusion h) (fun _ => ?_); conv => whnf))
      refine And.intro (fun _ => ?_) (fun h => by simp at h)
      (conv => whnf); repeat (first | (refine And.intro rfl ?_; conv => whnf) | (refine And.intro (fun _ => ?_) (fun h => Bool.noConfusion h); conv => whnf) | (refine And.intro (fun h => Bool.noConfusion h) (fun _ => ?_); conv => whnf))
      refine ⟨_, _, mdAwake, ?_⟩
      (conv => whnf); repeat (first | (refine And.intro rfl ?_; conv => whnf) | (refine And.intro (fun _ => ?_) (fun h => Bool.noConfusion h); conv => whnf) | (refine And.intro (fun h => Bool.noConfusion h) (fun _ => ?_); conv => whnf))
      refine Exists.intro [] (And.intro List.nodup_nil ?_); ((conv => whnf); repeat (first | (refine And.intro rfl ?_; conv => whnf) | (refine And.intro (fun _ => ?_) (fun h => Bool.noConfusion h); conv => whnf) | (refine And.intro (fun h => Bool.noConfusion h) (fun _ => ?_); conv => whnf)))
      rfl
  · rw [decide_eq_false hL] at hlight
    refine fun_of_vc tabOk mixOk Try.func10 rfl (by rfl) (rs := [.tmp 2]) rfl rfl 110 ?_; rw [Try.ntmps10]
    (conv => whnf); repeat (first | (refine And.intro rfl ?_; conv => whnf) | (refine And.intro (fun _ => ?_) (fun h => Bool.noConfusion h); conv => whnf) | (refine And.intro (fun h => Bool.noConfusion h) (fun _ => ?_); conv => whnf))
    refine ⟨_, _, hlight, ?_⟩
    (conv => whnf); repeat (first | (refine And.intro rfl ?_; conv => whnf) | (refine And.intro (fun _ => ?_) (fun h => Bool.noConfusion h); conv => whnf) | (refine And.intro (fun h => Bool.noConfusion h) (fun _ => ?_); conv => whnf))
    refine ⟨_, _, mdAwake, ?_⟩
    (conv => whnf); repeat (first | (refine And.intro rfl ?_; conv => whnf) | (refine And.intro (fun _ => ?_) (fun h => Bool.noConfusion h); conv => whnf) | (refine And.intro (fun h => Bool.noConfusion h) (fun _ => ?_); conv => whnf))
    refine Exists.intro [] (And.intro List.nodup_nil ?_); ((conv => whnf); repeat (first | (refine And.intro rfl ?_; conv => whnf) | (refine And.intro (fun _ => ?_) (fun h => Bool.noConfusion h); conv => whnf) | (refine And.intro (fun h => Bool.noConfusion h) (fun _ => ?_); conv => whnf)))
    rfl
end Go.Proofs.Ytmooflgfcebmaaa.Ab
namespace Go.Proofs.Ytmooflgfcebmaaa
set_option linter.unusedVariables false
set_option linter.unusedSimpArgs false
open Ab
set_option maxRecDepth 100000 in
theorem modelReads.walk {H : Type} {enc : TypeId × Value → H} {W : World} {base : Nat} (v : Value) (d : DataW H) (p : List MemPlace) (hv : Value.okWide Try.prog W .any base 22 v)
    (h : DataW.Trod enc Try.prog W 0 (fun _ => true) true 22 v d p) (hw : ∀ n ∈ d.weights Try.prog 22, n ≤ 140737488351232)
    (W' : World) (hW : W' = W := by rfl) : Calls Try.prog 10 #[v] W' (True1 W') := by
  subst hW
  obtain ⟨es, _, q1, q2⟩ := open_sl tabOk 3 (t := 22) (by decide +kernel) rfl hv h
  obtain ⟨xs, rfl⟩ := ints_of (d := 2) es (fun r hr => (q1 r hr).2)
  have b3 := slice_bound tabOk (e := 3) rfl h hw (q2 (fun _ _ => undef) (fun _ => 0))
  rw [bytesOf_eq tabOk (fun h => TK.noConfusion h)] at b3
  have b3' : (wV xs).length * 8 ≤ 140737488351232 := b3
  exact law_of_fun (modelReadsF xs (by simp [wV] at b3'; omega)) rfl (reps_get (vs := [_]) ⟨q2 _ _, trivial⟩)
end Go.Proofs.Ytmooflgfcebmaaa
