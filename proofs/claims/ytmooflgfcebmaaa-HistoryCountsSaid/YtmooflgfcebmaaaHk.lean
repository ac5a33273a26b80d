/- Histories: HistoryOrder. -/
import Derived.Test.YtmooflgfcebmaaaHh
namespace Go.Proofs.Ytmooflgfcebmaaa.Ab
set_option linter.unusedVariables false
set_option linter.unusedSimpArgs false
open Go.RowKit

def u8V (a : Int) : AV := .c (.i (.sc (.int .u8 a)))
theorem vCut0 (l : List Ev) (k : Nat) : List.drop (0 + Int.toNat 0) (List.take (0 + ((k : Int)).toNat) (vR l)) = vR (l.take k) := by
  simp only [Int.toNat_natCast, Nat.zero_add, vTake]; rfl
theorem made_pre (L : List Int) (k : Nat) : chkH 3 ((madeL L).take k) = 0 := by
  have h1 := made_len L
  unfold chkH
  rw [if_neg (by omega), if_neg (by rw [List.length_take]; omega), if_pos (rgo_pre (made_right L) k)]
set_option maxRecDepth 100000 in
set_option maxHeartbeats 16000000 in
theorem hOrderF (L : List Int) (a b c n : Int) (hl : L.length ≤ 140737488351232) : Fun Try.prog 3 [slV (wV L), u8V a, u8V b, u8V c, i64V n] [] (ATbool true) := by
  have hlight := lightF L (by omega)
  by_cases hL : L.length ≤ 300
  · rw [decide_eq_true hL] at hlight
    have c1 := madeF L (by omega)
    have hr := made_right L
    have hlen := made_len L
    have hpre := made_pre L
    generalize madeL L = l at c1 hr hlen hpre
    have c2 : ∀ x y, Fun Try.prog 15 [slV (vR l), i64V x, i64V y] [] (ATbool (bef l x y)) := fun x y => beforeF l x y (by omega)
    obtain ⟨k, hk, hkl⟩ : ∃ k : Nat, dmod n ((l.length : Int) + 1) = (k : Int) ∧ k ≤ l.length := by
      have := dmod_in (x := n) (n := (l.length : Int) + 1) (by omega) (by omega)
      exact ⟨_, (Int.toNat_of_nonneg this.1).symm, by omega⟩
    have c3 := modF n ((l.length : Int) + 1)
    have hwl : iwrap .i64 (((vR l).length : Int) + 1) = (l.length : Int) + 1 := by rw [vLen]; exact w64_in (by omega)
    rw [hk, ← hwl] at c3
    have c4 := chkF 3 (l.take k)
    rw [hpre k] at c4
    refine fun_of_vc tabOk mixOk Try.func3 rfl (by rfl) (rs := [.tmp 10]) rfl rfl 81 ?_; rw [Try.ntmps3]
    (conv => whnf); repeat (first | (refine And.intro rfl ?_; conv => whnf) | (refine And.intro (fun _ => ?_) (fun h => Bool.noConfusion h); conv => whnf) | (refine And.intro (fun h => Bool.noConfusion h) (fun _ => ?_); conv => whnf))
    refine ⟨_, _, hlight, ?_⟩
    (conv => whnf); repeat (first | (refine And.intro rfl ?_; conv => whnf) | (refine And.intro (fun _ => ?_) (fun h => Bool.noConfusion h); conv => whnf) | (refine And.intro (fun h => Bool.noConfusion h) (fun _ => ?_); conv => whnf))
    refine ⟨_, _, c1, ?_⟩
    (conv => whnf); repeat (first | (refine And.intro rfl ?_; conv => whnf) | (refine And.intro (fun _ => ?_) (fun h => Bool.noConfusion h); conv => whnf) | (refine And.intro (fun h => Bool.noConfusion h) (fun _ => ?_); conv => whnf))
    refine ⟨by decide, ?_⟩
    (conv => whnf); repeat (first | (refine And.intro rfl ?_; conv => whnf) | (refine And.intro (fun _ => ?_) (fun h => Bool.noConfusion h); conv => whnf) | (refine And.intro (fun h => Bool.noConfusion h) (fun _ => ?_); conv => whnf))
    refine ⟨by decide, ?_⟩
    (conv => whnf); repeat (first | (refine And.intro rfl ?_; conv => whnf) | (refine And.intro (fun _ => ?_) (fun h => Bool.noConfusion h); conv => whnf) | (refine And.intro (fun h => Bool.noConfusion h) (fun _ => ?_); conv => whnf))
    refine ⟨by decide, ?_⟩
    (conv => whnf); repeat (first | (refine And.intro rfl ?_; conv => whnf) | (refine And.intro (fun _ => ?_) (fun h => Bool.noConfusion h); conv => whnf) | (refine And.intro (fun h => Bool.noConfusion h) (fun _ => ?_); conv => whnf))
    repeat' (first | ((refine And.intro (fun h => ?_) (fun h => ?_)) <;> (try simp at h) <;> ((conv => whnf); repeat (first | (refine And.intro rfl ?_; conv => whnf) | (refine And.intro (fun _ => ?_) (fun h => Bool.noConfusion h); conv => whnf) | (refine And.intro (fun h => Bool.noConfusion h) (fun _ => ?_); conv => whnf)))) | (refine ⟨_, _, c2 _ _, ?_⟩; ((conv => whnf); repeat (first | (refine And.intro rfl ?_; conv => whnf) | (refine And.intro (fun _ => ?_) (fun h => Bool.noConfusion h); conv => whnf) | (refine And.intro (fun h => Bool.noConfusion h) (fun _ => ?_); conv => whnf)))) | fail)
    all_goals first
      | (exfalso
         have q1 := bef_irr hr
         have q2 := fun x y => @bef_asym l hr x y
         have q3 := @bef_trans l hr (iwrap .i64 (a.tmod 30)) (iwrap .i64 (b.tmod 30)) (iwrap .i64 (c.tmod 30))
         simp_all; done)
      | skip
    all_goals try (refine ⟨_, _, c3, ?_⟩)
    all_goals ((conv => whnf); repeat (first | (refine And.intro rfl ?_; conv => whnf) | (refine And.intro (fun _ => ?_) (fun h => Bool.noConfusion h); conv => whnf) | (refine And.intro (fun h => Bool.noConfusion h) (fun _ => ?_); conv => whnf)))
    all_goals (refine ⟨by omega, by omega, by rw [vLen]; omega, ?_⟩)
    all_goals ((conv => whnf); repeat (first | (refine And.intro rfl ?_; conv => whnf) | (refine And.intro (fun _ => ?_) (fun h => Bool.noConfusion h); conv => whnf) | (refine And.intro (fun h => Bool.noConfusion h) (fun _ => ?_); conv => whnf)))
    all_goals (rw [vCut0])
    all_goals (refine ⟨_, _, c4, ?_⟩)
    all_goals ((conv => whnf); repeat (first | (refine And.intro rfl ?_; conv => whnf) | (refine And.intro (fun _ => ?_) (fun h => Bool.noConfusion h); conv => whnf) | (refine And.intro (fun h => Bool.noConfusion h) (fun _ => ?_); conv => whnf)))
    all_goals (refine ⟨_, _, hAwake, ?_⟩)
    all_goals ((conv => whnf); repeat (first | (refine And.intro rfl ?_; conv => whnf) | (refine And.intro (fun _ => ?_) (fun h => Bool.noConfusion h); conv => whnf) | (refine And.intro (fun h => Bool.noConfusion h) (fun _ => ?_); conv => whnf)))
    all_goals (refine Exists.intro [] (And.intro List.nodup_nil ?_); ((conv => whnf); repeat (first | (refine And.intro rfl ?_; conv => whnf) | (refine And.intro (fun _ => ?_) (fun h => Bool.noConfusion h); conv => whnf) | (refine And.intro (fun h => Bool.noConfusion h) (fun _ => ?_); conv => whnf))))
    all_goals rfl
  · rw [decide_eq_false hL] at hlight
    refine fun_of_vc tabOk mixOk Try.func3 rfl (by rfl) (rs := [.tmp 10]) rfl rfl 81 ?_; rw [Try.ntmps3]
    (conv => whnf); repeat (first | (refine And.intro rfl ?_; conv => whnf) | (refine And.intro (fun _ => ?_) (fun h => Bool.noConfusion h); conv => whnf) | (refine And.intro (fun h => Bool.noConfusion h) (fun _ => ?_); conv => whnf))
    refine ⟨_, _, hlight, ?_⟩
    (conv => whnf); repeat (first | (refine And.intro rfl ?_; conv => whnf) | (refine And.intro (fun _ => ?_) (fun h => Bool.noConfusion h); conv => whnf) | (refine And.intro (fun h => Bool.noConfusion h) (fun _ => ?_); conv => whnf))
    refine ⟨_, _, hAwake, ?_⟩
    (conv => whnf); repeat (first | (refine And.intro rfl ?_; conv => whnf) | (refine And.intro (fun _ => ?_) (fun h => Bool.noConfusion h); conv => whnf) | (refine And.intro (fun h => Bool.noConfusion h) (fun _ => ?_); conv => whnf))
    refine Exists.intro [] (And.intro List.nodup_nil ?_); ((conv => whnf); repeat (first | (refine And.intro rfl ?_; conv => whnf) | (refine And.intro (fun _ => ?_) (fun h => Bool.noConfusion h); conv => whnf) | (refine And.intro (fun h => Bool.noConfusion h) (fun _ => ?_); conv => whnf)))
    rfl
end Go.Proofs.Ytmooflgfcebmaaa.Ab
namespace Go.Proofs.Ytmooflgfcebmaaa
set_option linter.unusedVariables false
set_option linter.unusedSimpArgs false
open Ab
set_option maxRecDepth 100000 in
theorem historyOrder.walk {H : Type} {enc : TypeId × Value → H} {W : World} {base : Nat} (v : Value) (d : DataW H) (p : List MemPlace) (hv : Value.okWide Try.prog W .any base 22 v)
    (h : DataW.Trod enc Try.prog W 0 (fun _ => true) true 22 v d p) (hw : ∀ n ∈ d.weights Try.prog 22, n ≤ 140737488351232)
    (a1 : Int) (w1 : (Lit.int .u8 a1).wf = true) (a2 : Int) (w2 : (Lit.int .u8 a2).wf = true) (a3 : Int) (w3 : (Lit.int .u8 a3).wf = true) (a4 : Int) (w4 : (Lit.int .i64 a4).wf = true)
    (W' : World) (hW : W' = W := by rfl) : Calls Try.prog 3 #[v, .int .u8 a1, .int .u8 a2, .int .u8 a3, .int .i64 a4] W' (True1 W') := by
  subst hW
  obtain ⟨es, _, q1, q2⟩ := open_sl tabOk 3 (t := 22) (by decide +kernel) rfl hv h
  obtain ⟨xs, rfl⟩ := ints_of (d := 2) es (fun r hr => (q1 r hr).2)
  have b3 := slice_bound tabOk (e := 3) rfl h hw (q2 (fun _ _ => undef) (fun _ => 0))
  rw [bytesOf_eq tabOk (fun h => TK.noConfusion h)] at b3
  have b3' : (wV xs).length * 8 ≤ 140737488351232 := b3
  exact law_of_fun (hOrderF xs a1 a2 a3 a4 (by simp [wV] at b3'; omega)) rfl (reps_get (vs := [_, _, _, _, _]) ⟨q2 _ _, .sc _ rfl, .sc _ rfl, .sc _ rfl, .sc _ rfl, trivial⟩)
end Go.Proofs.Ytmooflgfcebmaaa
