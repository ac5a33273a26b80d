/- Shards: entries made of dice; step by step. -/
import Derived.Test.YtgjcljjgifnjdaaSg
import Derived.Test.YtgjcljjgifnjdaaGd
namespace Go.Proofs.Ytgjcljjgifnjdaa.Ab
set_option linter.unusedVariables false
set_option linter.unusedSimpArgs false
open Go.RowKit

theorem shAgreeA (es : List Ety) (hl : es.length ≤ 1000) (eb ek ev em ez eo : Int) (b v cut fz fo tz to : Int) : Fun Try.prog 24 [slV (eR es), eA eb ek ev em ez eo, i64V b, i64V v, i64V cut, plV fz fo, plV tz to] [] (ATbool true) := shAgree es ⟨eb, ek, ev, em, ez, eo⟩ b v cut fz fo tz to hl
def dEk (L : List Int) (k : Nat) : Nat := dnx L (dnx L (dnx L (dnx L (dnx L (dnx L k)))))
def dE (L : List Int) (k : Nat) : Ety :=
  ⟨dval L k 5, if dval L (dnx L (dnx L (dnx L (dnx L (dnx L k))))) 3 = 2 then 2 else 1, 1 + dval L (dnx L k) 12, dval L (dnx L (dnx L k)) 3, dval L (dnx L (dnx L (dnx L k))) 4, dval L (dnx L (dnx L (dnx L (dnx L k)))) 4⟩
theorem dEk_le {L : List Int} {k : Nat} (h : k ≤ L.length) : dEk L k ≤ L.length := dnx_le (dnx_le (dnx_le (dnx_le (dnx_le (dnx_le h)))))
theorem dE_right (L : List Int) (k : Nat) : rightE (dE L k) = true ∧ 0 ≤ (dE L k).b ∧ (dE L k).b < 5 ∧ 0 ≤ (dE L k).z ∧ (dE L k).z < 4 ∧ 1 ≤ (dE L k).v ∧ (dE L k).v ≤ 12 := by
  have h1 := dval_in L k (n := 5) (by omega) (by omega)
  have h2 := dval_in L (dnx L k) (n := 12) (by omega) (by omega)
  have h3 := dval_in L (dnx L (dnx L k)) (n := 3) (by omega) (by omega)
  have h4 := dval_in L (dnx L (dnx L (dnx L k))) (n := 4) (by omega) (by omega)
  have h5 := dval_in L (dnx L (dnx L (dnx L (dnx L k)))) (n := 4) (by omega) (by omega)
  unfold rightE dE
  dsimp only
  refine ⟨?_, by omega, by omega, by omega, by omega, by omega, by omega⟩
  rw [decide_eq_true_eq]
  split <;> omega

set_option maxRecDepth 100000 in
set_option maxHeartbeats 8000000 in
theorem shEntryF (L : List Int) (k : Nat) (hl : L.length ≤ 1000000) : FunP Try.prog 16 (dcs L k) [] (dcs L (dEk L k)) (.v (eV (dE L k))) := by
  have h2 := dval_in L (dnx L k) (n := 12) (by omega) (by omega)
  have hw : iwrap .i64 (1 + dval L (dnx L k) 12) = 1 + dval L (dnx L k) 12 := w64_in (by omega)
  refine funP_of_vc tabOk mixOk Try.func16 rfl (by rfl) (rs := [.cell 2 34]) rfl rfl rfl rfl rfl 26 ?_; rw [Try.ntmps16]
  (conv => whnf); repeat (first | (refine And.intro rfl ?_; conv => whnf) | (refine And.intro (fun _ => ?_) (fun h => Bool.noConfusion h); conv => whnf) | (refine And.intro (fun h => Bool.noConfusion h) (fun _ => ?_); conv => whnf))
  refine ⟨_, _, nextF L k 5 hl, ?_⟩
  (conv => whnf); repeat (first | (refine And.intro rfl ?_; conv => whnf) | (refine And.intro (fun _ => ?_) (fun h => Bool.noConfusion h); conv => whnf) | (refine And.intro (fun h => Bool.noConfusion h) (fun _ => ?_); conv => whnf))
  refine ⟨_, _, nextF L _ 12 hl, ?_⟩
  (conv => whnf); repeat (first | (refine And.intro rfl ?_; conv => whnf) | (refine And.intro (fun _ => ?_) (fun h => Bool.noConfusion h); conv => whnf) | (refine And.intro (fun h => Bool.noConfusion h) (fun _ => ?_); conv => whnf))
  refine ⟨_, _, nextF L _ 3 hl, ?_⟩
  (conv => whnf); repeat (first | (refine And.intro rfl ?_; conv => whnf) | (refine And.intro (fun _ => ?_) (fun h => Bool.noConfusion h); conv => whnf) | (refine And.intro (fun h => Bool.noConfusion h) (fun _ => ?_); conv => whnf))
  refine ⟨_, _, nextF L _ 4 hl, ?_⟩
  (conv => whnf); repeat (first | (refine And.intro rfl ?_; conv => whnf) | (refine And.intro (fun _ => ?_) (fun h => Bool.noConfusion h); conv => whnf) | (refine And.intro (fun h => Bool.noConfusion h) (fun _ => ?_); conv => whnf))
  refine ⟨_, _, nextF L _ 4 hl, ?_⟩
  (conv => whnf); repeat (first | (refine And.intro rfl ?_; conv => whnf) | (refine And.intro (fun _ => ?_) (fun h => Bool.noConfusion h); conv => whnf) | (refine And.intro (fun h => Bool.noConfusion h) (fun _ => ?_); conv => whnf))
  refine ⟨_, _, nextF L _ 3 hl, ?_⟩
  (conv => whnf); repeat (first | (refine And.intro rfl ?_; conv => whnf) | (refine And.intro (fun _ => ?_) (fun h => Bool.noConfusion h); conv => whnf) | (refine And.intro (fun h => Bool.noConfusion h) (fun _ => ?_); conv => whnf))
  rw [hw]
  refine And.intro (fun h => ?_) (fun h => ?_)
  · have h' : dval L (dnx L (dnx L (dnx L (dnx L (dnx L k))))) 3 = 2 := by simpa using h
    (conv => whnf); repeat (first | (refine And.intro rfl ?_; conv => whnf) | (refine And.intro (fun _ => ?_) (fun h => Bool.noConfusion h); conv => whnf) | (refine And.intro (fun h => Bool.noConfusion h) (fun _ => ?_); conv => whnf))
    rw [show dE L k = ⟨dval L k 5, 2, 1 + dval L (dnx L k) 12, dval L (dnx L (dnx L k)) 3, dval L (dnx L (dnx L (dnx L k))) 4, dval L (dnx L (dnx L (dnx L (dnx L k)))) 4⟩ from by unfold dE; rw [if_pos h']]
    rfl
  · have h' : ¬ dval L (dnx L (dnx L (dnx L (dnx L (dnx L k))))) 3 = 2 := by simpa using h
    (conv => whnf); repeat (first | (refine And.intro rfl ?_; conv => whnf) | (refine And.intro (fun _ => ?_) (fun h => Bool.noConfusion h); conv => whnf) | (refine And.intro (fun h => Bool.noConfusion h) (fun _ => ?_); conv => whnf))
    rw [show dE L k = ⟨dval L k 5, 1, 1 + dval L (dnx L k) 12, dval L (dnx L (dnx L k)) 3, dval L (dnx L (dnx L (dnx L k))) 4, dval L (dnx L (dnx L (dnx L (dnx L k)))) 4⟩ from by unfold dE; rw [if_neg h']]
    rfl

set_option maxRecDepth 100000 in
set_option maxHeartbeats 32000000 in
theorem shardMadeF (L : List Int) (hL : L.length ≤ 140737488355328) : Fun Try.prog 7 [slV (wV L)] [] (ATbool true) := by
  have lt := lightF L hL
  by_cases hl3 : L.length ≤ 300
  · rw [decide_eq_true hl3] at lt
    have hl : L.length ≤ 1000000 := by omega
    refine fun_of_vc tabOk mixOk Try.func7 rfl (by rfl) (rs := [.tmp 2]) rfl rfl 103 ?_; rw [Try.ntmps7]
    (conv => whnf); repeat (first | (refine And.intro rfl ?_; conv => whnf) | (refine And.intro (fun _ => ?_) (fun h => Bool.noConfusion h); conv => whnf) | (refine And.intro (fun h => Bool.noConfusion h) (fun _ => ?_); conv => whnf))
    refine ⟨_, _, lt, ?_⟩
    (conv => whnf); repeat (first | (refine And.intro rfl ?_; conv => whnf) | (refine And.intro (fun _ => ?_) (fun h => Bool.noConfusion h); conv => whnf) | (refine And.intro (fun h => Bool.noConfusion h) (fun _ => ?_); conv => whnf))
    refine ⟨_, _, rollF L hl, ?_⟩
    (conv => whnf); repeat (first | (refine And.intro rfl ?_; conv => whnf) | (refine And.intro (fun _ => ?_) (fun h => Bool.noConfusion h); conv => whnf) | (refine And.intro (fun h => Bool.noConfusion h) (fun _ => ?_); conv => whnf))
    refine vc_loop [3] [] (X := Nat × Nat × List Ety) (fun x gs => [(5, ATint x.1), (4, .v (slV (eR x.2.2)))]) (fun x gs => [(15, .var 1 (dcs L x.2.1))]) (fun x => x.1 ≤ 30 ∧ x.2.1 ≤ L.length ∧ x.2.2.length ≤ x.1) (fun x => 30 - x.1) _ (Ghost.refl _) (0, 0, []) ⟨by omega, Nat.zero_le _, by simp⟩ ?_ ?_
    · (refine And.intro rfl (And.intro rfl ?_)); (repeat' (first | exact trivial | exact rfl | apply And.intro | (refine congrArg (Value.int .i64) (w64_nat ?_); omega)))
    rintro gs ⟨i, k, s⟩ ⟨hi, hk, hs⟩
    dsimp only at hi hk hs ⊢
    (conv => whnf); repeat (first | (refine And.intro rfl ?_; conv => whnf) | (refine And.intro (fun _ => ?_) (fun h => Bool.noConfusion h); conv => whnf) | (refine And.intro (fun h => Bool.noConfusion h) (fun _ => ?_); conv => whnf))
    refine And.intro (fun h => ?_) (fun h => ?_)
    · have hlt : i < 30 := by have := of_decide_eq_true h; omega
      (conv => whnf); repeat (first | (refine And.intro rfl ?_; conv => whnf) | (refine And.intro (fun _ => ?_) (fun h => Bool.noConfusion h); conv => whnf) | (refine And.intro (fun h => Bool.noConfusion h) (fun _ => ?_); conv => whnf))
      refine ⟨_, _, restF L k hl hk, ?_⟩
      (conv => whnf); repeat (first | (refine And.intro rfl ?_; conv => whnf) | (refine And.intro (fun _ => ?_) (fun h => Bool.noConfusion h); conv => whnf) | (refine And.intro (fun h => Bool.noConfusion h) (fun _ => ?_); conv => whnf))
      refine And.intro (fun h2 => ?_) (fun h2 => ?_)
      · (conv => whnf); repeat (first | (refine And.intro rfl ?_; conv => whnf) | (refine And.intro (fun _ => ?_) (fun h => Bool.noConfusion h); conv => whnf) | (refine And.intro (fun h => Bool.noConfusion h) (fun _ => ?_); conv => whnf))
        refine ⟨_, _, shEntryF L k hl, ?_⟩
        (conv => whnf); repeat (first | (refine And.intro rfl ?_; conv => whnf) | (refine And.intro (fun _ => ?_) (fun h => Bool.noConfusion h); conv => whnf) | (refine And.intro (fun h => Bool.noConfusion h) (fun _ => ?_); conv => whnf))
        refine ⟨_, _, sfindF' s _ (by omega), ?_⟩
        (conv => whnf); repeat (first | (refine And.intro rfl ?_; conv => whnf) | (refine And.intro (fun _ => ?_) (fun h => Bool.noConfusion h); conv => whnf) | (refine And.intro (fun h => Bool.noConfusion h) (fun _ => ?_); conv => whnf))
        refine And.intro (fun _ => ?_) (fun _ => ?_)
        · (conv => whnf); repeat (first | (refine And.intro rfl ?_; conv => whnf) | (refine And.intro (fun _ => ?_) (fun h => Bool.noConfusion h); conv => whnf) | (refine And.intro (fun h => Bool.noConfusion h) (fun _ => ?_); conv => whnf))
          refine ⟨_, _, nextF L (dEk L k) 2 hl, ?_⟩
          (conv => whnf); repeat (first | (refine And.intro rfl ?_; conv => whnf) | (refine And.intro (fun _ => ?_) (fun h => Bool.noConfusion h); conv => whnf) | (refine And.intro (fun h => Bool.noConfusion h) (fun _ => ?_); conv => whnf))
          refine And.intro (fun _ => ?_) (fun _ => ?_)
          · (conv => whnf); repeat (first | (refine And.intro rfl ?_; conv => whnf) | (refine And.intro (fun _ => ?_) (fun h => Bool.noConfusion h); conv => whnf) | (refine And.intro (fun h => Bool.noConfusion h) (fun _ => ?_); conv => whnf))
            refine ⟨_, _, nextF L _ 3 hl, ?_⟩
            (conv => whnf); repeat (first | (refine And.intro rfl ?_; conv => whnf) | (refine And.intro (fun _ => ?_) (fun h => Bool.noConfusion h); conv => whnf) | (refine And.intro (fun h => Bool.noConfusion h) (fun _ => ?_); conv => whnf))
            refine ⟨_, _, nextF L (dnx L (dnx L (dEk L k))) 14 hl, ?_⟩
            (conv => whnf); repeat (first | (refine And.intro rfl ?_; conv => whnf) | (refine And.intro (fun _ => ?_) (fun h => Bool.noConfusion h); conv => whnf) | (refine And.intro (fun h => Bool.noConfusion h) (fun _ => ?_); conv => whnf))
            refine ⟨_, _, nextF L _ 5 hl, ?_⟩
            (conv => whnf); repeat (first | (refine And.intro rfl ?_; conv => whnf) | (refine And.intro (fun _ => ?_) (fun h => Bool.noConfusion h); conv => whnf) | (refine And.intro (fun h => Bool.noConfusion h) (fun _ => ?_); conv => whnf))
            refine ⟨_, _, shAgreeA s (by omega) _ _ _ _ _ _ _ _ _ _ _ _ _, ?_⟩
            (conv => whnf); repeat (first | (refine And.intro rfl ?_; conv => whnf) | (refine And.intro (fun _ => ?_) (fun h => Bool.noConfusion h); conv => whnf) | (refine And.intro (fun h => Bool.noConfusion h) (fun _ => ?_); conv => whnf))
            refine ⟨_, _, nextF L _ 4 hl, ?_⟩
            (conv => whnf); repeat (first | (refine And.intro rfl ?_; conv => whnf) | (refine And.intro (fun _ => ?_) (fun h => Bool.noConfusion h); conv => whnf) | (refine And.intro (fun h => Bool.noConfusion h) (fun _ => ?_); conv => whnf))
            refine And.intro (fun _ => ?_) (fun _ => ?_)
            · (conv => whnf); repeat (first | (refine And.intro rfl ?_; conv => whnf) | (refine And.intro (fun _ => ?_) (fun h => Bool.noConfusion h); conv => whnf) | (refine And.intro (fun h => Bool.noConfusion h) (fun _ => ?_); conv => whnf))
              refine ⟨_, _, srelF' s (dE L k).b (iwrap .i64 (iwrap .i64 ((sfind s (dE L k).b).1.v + dval L (dnx L (dEk L k)) 3) - 1)) (sfind s (dE L k).b).1.z (sfind s (dE L k).b).1.o 2 9 (dE L k).m (by omega), ?_⟩
              (conv => whnf); repeat (first | (refine And.intro rfl ?_; conv => whnf) | (refine And.intro (fun _ => ?_) (fun h => Bool.noConfusion h); conv => whnf) | (refine And.intro (fun h => Bool.noConfusion h) (fun _ => ?_); conv => whnf))
              refine again (i + 1, (dnx L (dnx L (dnx L (dnx L (dnx L (dEk L k)))))), (srel s (dE L k).b (iwrap .i64 (iwrap .i64 ((sfind s (dE L k).b).1.v + dval L (dnx L (dEk L k)) 3) - 1)) (sfind s (dE L k).b).1.z (sfind s (dE L k).b).1.o 2 9 (dE L k).m).1) ⟨hlt, (dnx_le (dnx_le (dnx_le (dnx_le (dnx_le (dEk_le hk)))))), by have := srel_len s (dE L k).b (iwrap .i64 (iwrap .i64 ((sfind s (dE L k).b).1.v + dval L (dnx L (dEk L k)) 3) - 1)) (sfind s (dE L k).b).1.z (sfind s (dE L k).b).1.o 2 9 (dE L k).m; dsimp only; omega⟩ (by dsimp only; omega) ?_
              (refine And.intro rfl (And.intro rfl ?_)); (repeat' (first | exact trivial | exact rfl | apply And.intro | (refine congrArg (Value.int .i64) (w64_nat ?_); omega)))
            · (conv => whnf); repeat (first | (refine And.intro rfl ?_; conv => whnf) | (refine And.intro (fun _ => ?_) (fun h => Bool.noConfusion h); conv => whnf) | (refine And.intro (fun h => Bool.noConfusion h) (fun _ => ?_); conv => whnf))
              refine And.intro (fun _ => ?_) (fun _ => ?_)
              · (conv => whnf); repeat (first | (refine And.intro rfl ?_; conv => whnf) | (refine And.intro (fun _ => ?_) (fun h => Bool.noConfusion h); conv => whnf) | (refine And.intro (fun h => Bool.noConfusion h) (fun _ => ?_); conv => whnf))
                refine ⟨_, _, nextF L _ 8 hl, ?_⟩
                (conv => whnf); repeat (first | (refine And.intro rfl ?_; conv => whnf) | (refine And.intro (fun _ => ?_) (fun h => Bool.noConfusion h); conv => whnf) | (refine And.intro (fun h => Bool.noConfusion h) (fun _ => ?_); conv => whnf))
                refine ⟨_, _, sdropF' s (dval L (dnx L (dnx L (dnx L (dnx L (dnx L (dEk L k)))))) 8) (by omega), ?_⟩
                (conv => whnf); repeat (first | (refine And.intro rfl ?_; conv => whnf) | (refine And.intro (fun _ => ?_) (fun h => Bool.noConfusion h); conv => whnf) | (refine And.intro (fun h => Bool.noConfusion h) (fun _ => ?_); conv => whnf))
                refine again (i + 1, dnx L (dnx L (dnx L (dnx L (dnx L (dnx L (dEk L k)))))), (sdrop s (dval L (dnx L (dnx L (dnx L (dnx L (dnx L (dEk L k)))))) 8)).1) ⟨hlt, dnx_le (dnx_le (dnx_le (dnx_le (dnx_le (dnx_le (dEk_le hk)))))), by have := (sdrop_len s (dval L (dnx L (dnx L (dnx L (dnx L (dnx L (dEk L k)))))) 8)).1; dsimp only; omega⟩ (by dsimp only; omega) ?_
                (refine And.intro rfl (And.intro rfl ?_)); (repeat' (first | exact trivial | exact rfl | apply And.intro | (refine congrArg (Value.int .i64) (w64_nat ?_); omega)))
              · (conv => whnf); repeat (first | (refine And.intro rfl ?_; conv => whnf) | (refine And.intro (fun _ => ?_) (fun h => Bool.noConfusion h); conv => whnf) | (refine And.intro (fun h => Bool.noConfusion h) (fun _ => ?_); conv => whnf))
                refine ⟨_, _, sinstF' s (dE L k).b (dE L k).k (iwrap .i64 (iwrap .i64 ((sfind s (dE L k).b).1.v + dval L (dnx L (dEk L k)) 3) - 1)) (dE L k).m (dE L k).z (dE L k).o (by omega), ?_⟩
                (conv => whnf); repeat (first | (refine And.intro rfl ?_; conv => whnf) | (refine And.intro (fun _ => ?_) (fun h => Bool.noConfusion h); conv => whnf) | (refine And.intro (fun h => Bool.noConfusion h) (fun _ => ?_); conv => whnf))
                refine again (i + 1, (dnx L (dnx L (dnx L (dnx L (dnx L (dEk L k)))))), (sinst s ⟨(dE L k).b, (dE L k).k, (iwrap .i64 (iwrap .i64 ((sfind s (dE L k).b).1.v + dval L (dnx L (dEk L k)) 3) - 1)), (dE L k).m, (dE L k).z, (dE L k).o⟩).1) ⟨hlt, (dnx_le (dnx_le (dnx_le (dnx_le (dnx_le (dEk_le hk)))))), by have := sinst_len s ⟨(dE L k).b, (dE L k).k, (iwrap .i64 (iwrap .i64 ((sfind s (dE L k).b).1.v + dval L (dnx L (dEk L k)) 3) - 1)), (dE L k).m, (dE L k).z, (dE L k).o⟩; dsimp only; omega⟩ (by dsimp only; omega) ?_
                (refine And.intro rfl (And.intro rfl ?_)); (repeat' (first | exact trivial | exact rfl | apply And.intro | (refine congrArg (Value.int .i64) (w64_nat ?_); omega)))
          · (conv => whnf); repeat (first | (refine And.intro rfl ?_; conv => whnf) | (refine And.intro (fun _ => ?_) (fun h => Bool.noConfusion h); conv => whnf) | (refine And.intro (fun h => Bool.noConfusion h) (fun _ => ?_); conv => whnf))
            refine ⟨_, _, nextF L (dnx L (dEk L k)) 14 hl, ?_⟩
            (conv => whnf); repeat (first | (refine And.intro rfl ?_; conv => whnf) | (refine And.intro (fun _ => ?_) (fun h => Bool.noConfusion h); conv => whnf) | (refine And.intro (fun h => Bool.noConfusion h) (fun _ => ?_); conv => whnf))
            refine ⟨_, _, nextF L _ 5 hl, ?_⟩
            (conv => whnf); repeat (first | (refine And.intro rfl ?_; conv => whnf) | (refine And.intro (fun _ => ?_) (fun h => Bool.noConfusion h); conv => whnf) | (refine And.intro (fun h => Bool.noConfusion h) (fun _ => ?_); conv => whnf))
            refine ⟨_, _, shAgreeA s (by omega) _ _ _ _ _ _ _ _ _ _ _ _ _, ?_⟩
            (conv => whnf); repeat (first | (refine And.intro rfl ?_; conv => whnf) | (refine And.intro (fun _ => ?_) (fun h => Bool.noConfusion h); conv => whnf) | (refine And.intro (fun h => Bool.noConfusion h) (fun _ => ?_); conv => whnf))
            refine ⟨_, _, nextF L _ 4 hl, ?_⟩
            (conv => whnf); repeat (first | (refine And.intro rfl ?_; conv => whnf) | (refine And.intro (fun _ => ?_) (fun h => Bool.noConfusion h); conv => whnf) | (refine And.intro (fun h => Bool.noConfusion h) (fun _ => ?_); conv => whnf))
            refine And.intro (fun _ => ?_) (fun _ => ?_)
            · (conv => whnf); repeat (first | (refine And.intro rfl ?_; conv => whnf) | (refine And.intro (fun _ => ?_) (fun h => Bool.noConfusion h); conv => whnf) | (refine And.intro (fun h => Bool.noConfusion h) (fun _ => ?_); conv => whnf))
              refine ⟨_, _, srelF' s (dE L k).b (dE L k).v (dE L k).z (dE L k).o 2 9 (dE L k).m (by omega), ?_⟩
              (conv => whnf); repeat (first | (refine And.intro rfl ?_; conv => whnf) | (refine And.intro (fun _ => ?_) (fun h => Bool.noConfusion h); conv => whnf) | (refine And.intro (fun h => Bool.noConfusion h) (fun _ => ?_); conv => whnf))
              refine again (i + 1, (dnx L (dnx L (dnx L (dnx L (dEk L k))))), (srel s (dE L k).b (dE L k).v (dE L k).z (dE L k).o 2 9 (dE L k).m).1) ⟨hlt, (dnx_le (dnx_le (dnx_le (dnx_le (dEk_le hk))))), by have := srel_len s (dE L k).b (dE L k).v (dE L k).z (dE L k).o 2 9 (dE L k).m; dsimp only; omega⟩ (by dsimp only; omega) ?_
              (refine And.intro rfl (And.intro rfl ?_)); (repeat' (first | exact trivial | exact rfl | apply And.intro | (refine congrArg (Value.int .i64) (w64_nat ?_); omega)))
            · (conv => whnf); repeat (first | (refine And.intro rfl ?_; conv => whnf) | (refine And.intro (fun _ => ?_) (fun h => Bool.noConfusion h); conv => whnf) | (refine And.intro (fun h => Bool.noConfusion h) (fun _ => ?_); conv => whnf))
              refine And.intro (fun _ => ?_) (fun _ => ?_)
              · (conv => whnf); repeat (first | (refine And.intro rfl ?_; conv => whnf) | (refine And.intro (fun _ => ?_) (fun h => Bool.noConfusion h); conv => whnf) | (refine And.intro (fun h => Bool.noConfusion h) (fun _ => ?_); conv => whnf))
                refine ⟨_, _, nextF L _ 8 hl, ?_⟩
                (conv => whnf); repeat (first | (refine And.intro rfl ?_; conv => whnf) | (refine And.intro (fun _ => ?_) (fun h => Bool.noConfusion h); conv => whnf) | (refine And.intro (fun h => Bool.noConfusion h) (fun _ => ?_); conv => whnf))
                refine ⟨_, _, sdropF' s (dval L (dnx L (dnx L (dnx L (dnx L (dEk L k))))) 8) (by omega), ?_⟩
                (conv => whnf); repeat (first | (refine And.intro rfl ?_; conv => whnf) | (refine And.intro (fun _ => ?_) (fun h => Bool.noConfusion h); conv => whnf) | (refine And.intro (fun h => Bool.noConfusion h) (fun _ => ?_); conv => whnf))
                refine again (i + 1, dnx L (dnx L (dnx L (dnx L (dnx L (dEk L k))))), (sdrop s (dval L (dnx L (dnx L (dnx L (dnx L (dEk L k))))) 8)).1) ⟨hlt, dnx_le (dnx_le (dnx_le (dnx_le (dnx_le (dEk_le hk))))), by have := (sdrop_len s (dval L (dnx L (dnx L (dnx L (dnx L (dEk L k))))) 8)).1; dsimp only; omega⟩ (by dsimp only; omega) ?_
                (refine And.intro rfl (And.intro rfl ?_)); (repeat' (first | exact trivial | exact rfl | apply And.intro | (refine congrArg (Value.int .i64) (w64_nat ?_); omega)))
              · (conv => whnf); repeat (first | (refine And.intro rfl ?_; conv => whnf) | (refine And.intro (fun _ => ?_) (fun h => Bool.noConfusion h); conv => whnf) | (refine And.intro (fun h => Bool.noConfusion h) (fun _ => ?_); conv => whnf))
                refine ⟨_, _, sinstF' s (dE L k).b (dE L k).k (dE L k).v (dE L k).m (dE L k).z (dE L k).o (by omega), ?_⟩
                (conv => whnf); repeat (first | (refine And.intro rfl ?_; conv => whnf) | (refine And.intro (fun _ => ?_) (fun h => Bool.noConfusion h); conv => whnf) | (refine And.intro (fun h => Bool.noConfusion h) (fun _ => ?_); conv => whnf))
                refine again (i + 1, (dnx L (dnx L (dnx L (dnx L (dEk L k))))), (sinst s ⟨(dE L k).b, (dE L k).k, (dE L k).v, (dE L k).m, (dE L k).z, (dE L k).o⟩).1) ⟨hlt, (dnx_le (dnx_le (dnx_le (dnx_le (dEk_le hk))))), by have := sinst_len s ⟨(dE L k).b, (dE L k).k, (dE L k).v, (dE L k).m, (dE L k).z, (dE L k).o⟩; dsimp only; omega⟩ (by dsimp only; omega) ?_
                (refine And.intro rfl (And.intro rfl ?_)); (repeat' (first | exact trivial | exact rfl | apply And.intro | (refine congrArg (Value.int .i64) (w64_nat ?_); omega)))
        · (conv => whnf); repeat (first | (refine And.intro rfl ?_; conv => whnf) | (refine And.intro (fun _ => ?_) (fun h => Bool.noConfusion h); conv => whnf) | (refine And.intro (fun h => Bool.noConfusion h) (fun _ => ?_); conv => whnf))
          refine ⟨_, _, nextF L (dEk L k) 14 hl, ?_⟩
          (conv => whnf); repeat (first | (refine And.intro rfl ?_; conv => whnf) | (refine And.intro (fun _ => ?_) (fun h => Bool.noConfusion h); conv => whnf) | (refine And.intro (fun h => Bool.noConfusion h) (fun _ => ?_); conv => whnf))
          refine ⟨_, _, nextF L _ 5 hl, ?_⟩
          (conv => whnf); repeat (first | (refine And.intro rfl ?_; conv => whnf) | (refine And.intro (fun _ => ?_) (fun h => Bool.noConfusion h); conv => whnf) | (refine And.intro (fun h => Bool.noConfusion h) (fun _ => ?_); conv => whnf))
          refine ⟨_, _, shAgreeA s (by omega) _ _ _ _ _ _ _ _ _ _ _ _ _, ?_⟩
          (conv => whnf); repeat (first | (refine And.intro rfl ?_; conv => whnf) | (refine And.intro (fun _ => ?_) (fun h => Bool.noConfusion h); conv => whnf) | (refine And.intro (fun h => Bool.noConfusion h) (fun _ => ?_); conv => whnf))
          refine ⟨_, _, nextF L _ 4 hl, ?_⟩
          (conv => whnf); repeat (first | (refine And.intro rfl ?_; conv => whnf) | (refine And.intro (fun _ => ?_) (fun h => Bool.noConfusion h); conv => whnf) | (refine And.intro (fun h => Bool.noConfusion h) (fun _ => ?_); conv => whnf))
          refine And.intro (fun _ => ?_) (fun _ => ?_)
          · (conv => whnf); repeat (first | (refine And.intro rfl ?_; conv => whnf) | (refine And.intro (fun _ => ?_) (fun h => Bool.noConfusion h); conv => whnf) | (refine And.intro (fun h => Bool.noConfusion h) (fun _ => ?_); conv => whnf))
            refine ⟨_, _, srelF' s (dE L k).b (dE L k).v (dE L k).z (dE L k).o 2 9 (dE L k).m (by omega), ?_⟩
            (conv => whnf); repeat (first | (refine And.intro rfl ?_; conv => whnf) | (refine And.intro (fun _ => ?_) (fun h => Bool.noConfusion h); conv => whnf) | (refine And.intro (fun h => Bool.noConfusion h) (fun _ => ?_); conv => whnf))
            refine again (i + 1, (dnx L (dnx L (dnx L (dEk L k)))), (srel s (dE L k).b (dE L k).v (dE L k).z (dE L k).o 2 9 (dE L k).m).1) ⟨hlt, (dnx_le (dnx_le (dnx_le (dEk_le hk)))), by have := srel_len s (dE L k).b (dE L k).v (dE L k).z (dE L k).o 2 9 (dE L k).m; dsimp only; omega⟩ (by dsimp only; omega) ?_
            (refine And.intro rfl (And.intro rfl ?_)); (repeat' (first | exact trivial | exact rfl | apply And.intro | (refine congrArg (Value.int .i64) (w64_nat ?_); omega)))
          · (conv => whnf); repeat (first | (refine And.intro rfl ?_; conv => whnf) | (refine And.intro (fun _ => ?_) (fun h => Bool.noConfusion h); conv => whnf) | (refine And.intro (fun h => Bool.noConfusion h) (fun _ => ?_); conv => whnf))
            refine And.intro (fun _ => ?_) (fun _ => ?_)
            · (conv => whnf); repeat (first | (refine And.intro rfl ?_; conv => whnf) | (refine And.intro (fun _ => ?_) (fun h => Bool.noConfusion h); conv => whnf) | (refine And.intro (fun h => Bool.noConfusion h) (fun _ => ?_); conv => whnf))
              refine ⟨_, _, nextF L _ 8 hl, ?_⟩
              (conv => whnf); repeat (first | (refine And.intro rfl ?_; conv => whnf) | (refine And.intro (fun _ => ?_) (fun h => Bool.noConfusion h); conv => whnf) | (refine And.intro (fun h => Bool.noConfusion h) (fun _ => ?_); conv => whnf))
              refine ⟨_, _, sdropF' s (dval L (dnx L (dnx L (dnx L (dEk L k)))) 8) (by omega), ?_⟩
              (conv => whnf); repeat (first | (refine And.intro rfl ?_; conv => whnf) | (refine And.intro (fun _ => ?_) (fun h => Bool.noConfusion h); conv => whnf) | (refine And.intro (fun h => Bool.noConfusion h) (fun _ => ?_); conv => whnf))
              refine again (i + 1, dnx L (dnx L (dnx L (dnx L (dEk L k)))), (sdrop s (dval L (dnx L (dnx L (dnx L (dEk L k)))) 8)).1) ⟨hlt, dnx_le (dnx_le (dnx_le (dnx_le (dEk_le hk)))), by have := (sdrop_len s (dval L (dnx L (dnx L (dnx L (dEk L k)))) 8)).1; dsimp only; omega⟩ (by dsimp only; omega) ?_
              (refine And.intro rfl (And.intro rfl ?_)); (repeat' (first | exact trivial | exact rfl | apply And.intro | (refine congrArg (Value.int .i64) (w64_nat ?_); omega)))
            · (conv => whnf); repeat (first | (refine And.intro rfl ?_; conv => whnf) | (refine And.intro (fun _ => ?_) (fun h => Bool.noConfusion h); conv => whnf) | (refine And.intro (fun h => Bool.noConfusion h) (fun _ => ?_); conv => whnf))
              refine ⟨_, _, sinstF' s (dE L k).b (dE L k).k (dE L k).v (dE L k).m (dE L k).z (dE L k).o (by omega), ?_⟩
              (conv => whnf); repeat (first | (refine And.intro rfl ?_; conv => whnf) | (refine And.intro (fun _ => ?_) (fun h => Bool.noConfusion h); conv => whnf) | (refine And.intro (fun h => Bool.noConfusion h) (fun _ => ?_); conv => whnf))
              refine again (i + 1, (dnx L (dnx L (dnx L (dEk L k)))), (sinst s ⟨(dE L k).b, (dE L k).k, (dE L k).v, (dE L k).m, (dE L k).z, (dE L k).o⟩).1) ⟨hlt, (dnx_le (dnx_le (dnx_le (dEk_le hk)))), by have := sinst_len s ⟨(dE L k).b, (dE L k).k, (dE L k).v, (dE L k).m, (dE L k).z, (dE L k).o⟩; dsimp only; omega⟩ (by dsimp only; omega) ?_
              (refine And.intro rfl (And.intro rfl ?_)); (repeat' (first | exact trivial | exact rfl | apply And.intro | (refine congrArg (Value.int .i64) (w64_nat ?_); omega)))
      · (conv => whnf); repeat (first | (refine And.intro rfl ?_; conv => whnf) | (refine And.intro (fun _ => ?_) (fun h => Bool.noConfusion h); conv => whnf) | (refine And.intro (fun h => Bool.noConfusion h) (fun _ => ?_); conv => whnf))
        refine ⟨_, _, shAwake, ?_⟩
        (conv => whnf); repeat (first | (refine And.intro rfl ?_; conv => whnf) | (refine And.intro (fun _ => ?_) (fun h => Bool.noConfusion h); conv => whnf) | (refine And.intro (fun h => Bool.noConfusion h) (fun _ => ?_); conv => whnf))
        refine Exists.intro [] (And.intro List.nodup_nil ?_); ((conv => whnf); repeat (first | (refine And.intro rfl ?_; conv => whnf) | (refine And.intro (fun _ => ?_) (fun h => Bool.noConfusion h); conv => whnf) | (refine And.intro (fun h => Bool.noConfusion h) (fun _ => ?_); conv => whnf)))
        rfl
    · (conv => whnf); repeat (first | (refine And.intro rfl ?_; conv => whnf) | (refine And.intro (fun _ => ?_) (fun h => Bool.noConfusion h); conv => whnf) | (refine And.intro (fun h => Bool.noConfusion h) (fun _ => ?_); conv => whnf))
      refine ⟨_, _, shAwake, ?_⟩
      (conv => whnf); repeat (first | (refine And.intro rfl ?_; conv => whnf) | (refine And.intro (fun _ => ?_) (fun h => Bool.noConfusion h); conv => whnf) | (refine And.intro (fun h => Bool.noConfusion h) (fun _ => ?_); conv => whnf))
      refine Exists.intro [] (And.intro List.nodup_nil ?_); ((conv => whnf); repeat (first | (refine And.intro rfl ?_; conv => whnf) | (refine And.intro (fun _ => ?_) (fun h => Bool.noConfusion h); conv => whnf) | (refine And.intro (fun h => Bool.noConfusion h) (fun _ => ?_); conv => whnf)))
      rfl
  · rw [decide_eq_false hl3] at lt
    refine fun_of_vc tabOk mixOk Try.func7 rfl (by rfl) (rs := [.tmp 2]) rfl rfl 103 ?_; rw [Try.ntmps7]
    (conv => whnf); repeat (first | (refine And.intro rfl ?_; conv => whnf) | (refine And.intro (fun _ => ?_) (fun h => Bool.noConfusion h); conv => whnf) | (refine And.intro (fun h => Bool.noConfusion h) (fun _ => ?_); conv => whnf))
    refine ⟨_, _, lt, ?_⟩
    (conv => whnf); repeat (first | (refine And.intro rfl ?_; conv => whnf) | (refine And.intro (fun _ => ?_) (fun h => Bool.noConfusion h); conv => whnf) | (refine And.intro (fun h => Bool.noConfusion h) (fun _ => ?_); conv => whnf))
    refine ⟨_, _, shAwake, ?_⟩
    (conv => whnf); repeat (first | (refine And.intro rfl ?_; conv => whnf) | (refine And.intro (fun _ => ?_) (fun h => Bool.noConfusion h); conv => whnf) | (refine And.intro (fun h => Bool.noConfusion h) (fun _ => ?_); conv => whnf))
    refine Exists.intro [] (And.intro List.nodup_nil ?_); ((conv => whnf); repeat (first | (refine And.intro rfl ?_; conv => whnf) | (refine And.intro (fun _ => ?_) (fun h => Bool.noConfusion h); conv => whnf) | (refine And.intro (fun h => Bool.noConfusion h) (fun _ => ?_); conv => whnf)))
    rfl
end Go.Proofs.Ytgjcljjgifnjdaa.Ab
