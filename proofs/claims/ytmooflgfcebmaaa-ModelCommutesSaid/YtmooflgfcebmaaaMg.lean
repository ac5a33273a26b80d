/- Blocks as clients see them: commands on different blocks can change places. -/
import Derived.Test.YtmooflgfcebmaaaMf
namespace Go.Proofs.Ytmooflgfcebmaaa.Ab
set_option linter.unusedVariables false
set_option linter.unusedSimpArgs false
open Go.RowKit

def act (c : Cmd) (ss : List ByteArray) : List ByteArray := if c.k = 2 then ss.set c.b.toNat c.s else if c.k = 3 then ss.set c.b.toNat zeroS else ss
def outC (c : Cmd) (ss : List ByteArray) : ByteArray := if c.k = 1 then ss[c.b.toNat]?.getD ByteArray.empty else ByteArray.empty
theorem act_len (c : Cmd) (ss : List ByteArray) : (act c ss).length = ss.length := by unfold act; repeat' split
                                                                                      all_goals simp
def valid (n : Nat) (c : Cmd) : Prop := 0 ≤ c.b ∧ ∀ ss : List ByteArray, ss.length = n → mres ss c.k c.b c.s = (act c ss, (0, outC c ss))
theorem valid_mcmd (L : List Int) (k : Nat) : valid 5 (mcmd L k 5) := by
  rcases mcmd_cases L k 5 (by decide) (by decide) with ⟨b, e, b0, b1⟩ | ⟨b, s, e, b0, b1, h⟩ | ⟨b, e, b0, b1⟩ | e
  · rw [show mcmd L k 5 = _ from e]
    refine ⟨b0, fun ss hs => ?_⟩
    have h1 : b.toNat < ss.length := by omega
    rw [mres1 b0 h1]
    simp [act, outC, h1]
  · rw [show mcmd L k 5 = _ from e]
    refine ⟨b0, fun ss hs => ?_⟩
    rw [mres2 b0 (by omega) h]
    simp [act, outC]
  · rw [show mcmd L k 5 = _ from e]
    refine ⟨b0, fun ss hs => ?_⟩
    rw [mres3 b0 (by omega)]
    simp [act, outC]
  · rw [show mcmd L k 5 = _ from e]
    refine ⟨by decide, fun ss hs => ?_⟩
    rw [mres4]
    simp [act, outC]
theorem act_form (c : Cmd) : (∀ ss, act c ss = ss) ∨ ((c.k = 2 ∨ c.k = 3) ∧ ∃ v, ∀ ss, act c ss = ss.set c.b.toNat v) := by
  by_cases h2 : c.k = 2
  · exact Or.inr ⟨Or.inl h2, c.s, fun ss => by unfold act; rw [if_pos h2]⟩
  · by_cases h3 : c.k = 3
    · exact Or.inr ⟨Or.inr h3, zeroS, fun ss => by unfold act; rw [if_neg h2, if_pos h3]⟩
    · exact Or.inl fun ss => by unfold act; rw [if_neg h2, if_neg h3]
def apartC (x y : Cmd) : Prop := x.k = 4 ∨ y.k = 4 ∨ x.b.toNat ≠ y.b.toNat
theorem out_act {x y : Cmd} (h : apartC x y) (ss : List ByteArray) : outC y (act x ss) = outC y ss := by
  unfold outC
  split
  · rename_i hy
    rcases act_form x with hx | ⟨hx, v, hv⟩
    · rw [hx]
    · rw [hv, List.getElem?_set_ne]
      rcases h with h | h | h
      · omega
      · omega
      · exact h
  · rfl
theorem act_act {x y : Cmd} (h : apartC x y) (ss : List ByteArray) : act y (act x ss) = act x (act y ss) := by
  rcases act_form x with hx | ⟨hx, v, hv⟩
  · rw [hx, hx]
  · rcases act_form y with hy | ⟨hy, u, hu⟩
    · rw [hy, hy]
    · rw [hv, hu, hu, hv]
      rcases h with h | h | h
      · omega
      · omega
      · exact List.set_comm _ _ h
theorem apart_symm {x y : Cmd} (h : apartC x y) : apartC y x := by
  rcases h with h | h | h
  · exact Or.inr (Or.inl h)
  · exact Or.inl h
  · exact Or.inr (Or.inr (fun e => h e.symm))
theorem mrun2 {x y : Cmd} {ss : List ByteArray} (hs : ss.length = 5) (hx : valid 5 x) (hy : valid 5 y) : mrun ss [x, y] = (act y (act x ss), [(0, outC x ss), (0, outC y (act x ss))]) := by
  simp only [mrun, List.foldl_cons, List.foldl_nil, mst]
  rw [hx.2 ss hs]
  dsimp only
  rw [hy.2 _ (by rw [act_len]; exact hs)]
  rfl

set_option maxRecDepth 100000 in
set_option maxHeartbeats 32000000 in
theorem modelCommutesF (L : List Int) (hb : L.length ≤ 140737488355328) : Fun Try.prog 11 [slV (wV L)] [] (ATbool true) := by
  have hlight := lightF L hb
  by_cases hL : L.length ≤ 300
  · rw [decide_eq_true hL] at hlight
    have hnew := newFzeroF 5
    rw [show mnew 5 = nrow 5 5 from rfl] at hnew
    refine fun_of_vc tabOk mixOk Try.func11 rfl (by rfl) (rs := [.tmp 2]) rfl rfl 104 ?_; rw [Try.ntmps11]
    (conv => whnf); repeat (first | (refine And.intro rfl ?_; conv => whnf) | (refine And.intro (fun _ => ?_) (fun h => Bool.noConfusion h); conv => whnf) | (refine And.intro (fun h => Bool.noConfusion h) (fun _ => ?_); conv => whnf))
    refine ⟨_, _, hlight, ?_⟩
    (conv => whnf); repeat (first | (refine And.intro rfl ?_; conv => whnf) | (refine And.intro (fun _ => ?_) (fun h => Bool.noConfusion h); conv => whnf) | (refine And.intro (fun h => Bool.noConfusion h) (fun _ => ?_); conv => whnf))
    refine ⟨_, _, rollF L (by omega), ?_⟩
    (conv => whnf); repeat (first | (refine And.intro rfl ?_; conv => whnf) | (refine And.intro (fun _ => ?_) (fun h => Bool.noConfusion h); conv => whnf) | (refine And.intro (fun h => Bool.noConfusion h) (fun _ => ?_); conv => whnf))
    refine ⟨_, _, hnew, ?_⟩
    (conv => whnf); repeat (first | (refine And.intro rfl ?_; conv => whnf) | (refine And.intro (fun _ => ?_) (fun h => Bool.noConfusion h); conv => whnf) | (refine And.intro (fun h => Bool.noConfusion h) (fun _ => ?_); conv => whnf))
    refine vc_loop [2, 3] [] (X := Nat × Nat × List ByteArray) (fun x gs => [(5, ATint x.1), (4, .v (slV (sV x.2.2)))]) (fun x gs => [(17, .var 1 (dcs L x.2.1))]) (fun x => x.1 ≤ 10 ∧ x.2.1 ≤ L.length ∧ x.2.2.length = 5) (fun x => 10 - x.1) _ (Ghost.refl _) (0, 0, nrow 5 5) ⟨by omega, Nat.zero_le _, nrow_len _ _⟩ ?_ ?_
    · (refine And.intro rfl (And.intro rfl ?_)); (repeat' (first | exact trivial | exact rfl | apply And.intro | (refine congrArg (Value.int .i64) (w64_nat ?_); omega)))
      all_goals exact ⟨rfl, rfl, rfl, trivial⟩
    rintro gs2 ⟨i, q, ss⟩ ⟨hi, hq, hsl⟩
    dsimp only at hi hq hsl ⊢
    (conv => whnf); repeat (first | (refine And.intro rfl ?_; conv => whnf) | (refine And.intro (fun _ => ?_) (fun h => Bool.noConfusion h); conv => whnf) | (refine And.intro (fun h => Bool.noConfusion h) (fun _ => ?_); conv => whnf))
    refine And.intro (fun h5 => ?_) (fun h5 => ?_)
    · have hi' : i < 10 := by have := of_decide_eq_true h5; omega
      have hap := applyM ss (mcmd L q 5).k (mcmd L q 5).b (mcmd L q 5).s (by omega)
      rw [(valid_mcmd L q).2 ss hsl] at hap
      (conv => whnf); repeat (first | (refine And.intro rfl ?_; conv => whnf) | (refine And.intro (fun _ => ?_) (fun h => Bool.noConfusion h); conv => whnf) | (refine And.intro (fun h => Bool.noConfusion h) (fun _ => ?_); conv => whnf))
      refine ⟨_, _, mcmdF L q 5 (by omega), ?_⟩
      (conv => whnf); repeat (first | (refine And.intro rfl ?_; conv => whnf) | (refine And.intro (fun _ => ?_) (fun h => Bool.noConfusion h); conv => whnf) | (refine And.intro (fun h => Bool.noConfusion h) (fun _ => ?_); conv => whnf))
      refine ⟨_, _, hap, ?_⟩
      (conv => whnf); repeat (first | (refine And.intro rfl ?_; conv => whnf) | (refine And.intro (fun _ => ?_) (fun h => Bool.noConfusion h); conv => whnf) | (refine And.intro (fun h => Bool.noConfusion h) (fun _ => ?_); conv => whnf))
      refine again (i + 1, mnxt L q, act (mcmd L q 5) ss) ⟨hi', mnxt_le hq, by rw [act_len]; exact hsl⟩ (by dsimp only; omega) ?_
      (refine And.intro rfl (And.intro rfl ?_)); (repeat' (first | exact trivial | exact rfl | apply And.intro | (refine congrArg (Value.int .i64) (w64_nat ?_); omega)))
      all_goals exact ⟨rfl, rfl, rfl, trivial⟩
    · have c1 := mcmdF L q 5 (by omega)
      have c2 := mcmdF L (mnxt L q) 5 (by omega)
      have v1 := valid_mcmd L q
      have v2 := valid_mcmd L (mnxt L q)
      generalize mcmd L (mnxt L q) 5 = y at c2 v2
      generalize mcmd L q 5 = x at c1 v1
      obtain ⟨xk, xb, xs⟩ := x
      obtain ⟨yk, yb, ys⟩ := y
      have key : apartC ⟨xk, xb, xs⟩ ⟨yk, yb, ys⟩ ∨ (xb = yb ∧ xk ≠ 4 ∧ yk ≠ 4) := by
        have w1 : 0 ≤ xb := v1.1
        have w2 : 0 ≤ yb := v2.1
        unfold apartC
        dsimp only
        omega
      rcases key with hA | ⟨hN1, hN2, hN3⟩
      · have m1 := mrun2 hsl v1 v2
        have m2 := mrun2 hsl v2 v1
        rw [out_act hA ss] at m1
        rw [out_act (apart_symm hA) ss, ← act_act hA ss] at m2
        have r1 := runM ss [⟨xk, xb, xs⟩, ⟨yk, yb, ys⟩] (by omega) (Nat.le_of_ble_eq_true rfl)
        have r2 := runM ss [⟨yk, yb, ys⟩, ⟨xk, xb, xs⟩] (by omega) (Nat.le_of_ble_eq_true rfl)
        rw [m1] at r1
        rw [m2] at r2
        have hle : (act ⟨yk, yb, ys⟩ (act ⟨xk, xb, xs⟩ ss)).length ≤ 8796093022208 := by rw [act_len, act_len]; omega
        clear m1 m2 v1 v2
        generalize act ⟨yk, yb, ys⟩ (act ⟨xk, xb, xs⟩ ss) = PP at r1 r2 hle
        generalize outC ⟨xk, xb, xs⟩ ss = o1 at r1 r2
        generalize outC ⟨yk, yb, ys⟩ ss = o2 at r1 r2
        dsimp only at r1 r2
        have hs := ssameF PP PP hle
        (conv => whnf); repeat (first | (refine And.intro rfl ?_; conv => whnf) | (refine And.intro (fun _ => ?_) (fun h => Bool.noConfusion h); conv => whnf) | (refine And.intro (fun h => Bool.noConfusion h) (fun _ => ?_); conv => whnf))
        refine ⟨_, _, c1, ?_⟩
        (conv => whnf); repeat (first | (refine And.intro rfl ?_; conv => whnf) | (refine And.intro (fun _ => ?_) (fun h => Bool.noConfusion h); conv => whnf) | (refine And.intro (fun h => Bool.noConfusion h) (fun _ => ?_); conv => whnf))
        refine ⟨_, _, c2, ?_⟩
        (conv => whnf); repeat (first | (refine And.intro rfl ?_; conv => whnf) | (refine And.intro (fun _ => ?_) (fun h => Bool.noConfusion h); conv => whnf) | (refine And.intro (fun h => Bool.noConfusion h) (fun _ => ?_); conv => whnf))
        repeat' (first | ((refine And.intro (fun h => ?_) (fun h => ?_)) <;> (try simp at h) <;> ((conv => whnf); repeat (first | (refine And.intro rfl ?_; conv => whnf) | (refine And.intro (fun _ => ?_) (fun h => Bool.noConfusion h); conv => whnf) | (refine And.intro (fun h => Bool.noConfusion h) (fun _ => ?_); conv => whnf)))) | (refine ⟨_, _, r1, ?_⟩; ((conv => whnf); repeat (first | (refine And.intro rfl ?_; conv => whnf) | (refine And.intro (fun _ => ?_) (fun h => Bool.noConfusion h); conv => whnf) | (refine And.intro (fun h => Bool.noConfusion h) (fun _ => ?_); conv => whnf)))) | (refine ⟨_, _, r2, ?_⟩; ((conv => whnf); repeat (first | (refine And.intro rfl ?_; conv => whnf) | (refine And.intro (fun _ => ?_) (fun h => Bool.noConfusion h); conv => whnf) | (refine And.intro (fun h => Bool.noConfusion h) (fun _ => ?_); conv => whnf)))) | (refine ⟨_, _, hs, ?_⟩; ((conv => whnf); repeat (first | (refine And.intro rfl ?_; conv => whnf) | (refine And.intro (fun _ => ?_) (fun h => Bool.noConfusion h); conv => whnf) | (refine And.intro (fun h => Bool.noConfusion h) (fun _ => ?_); conv => whnf)))) | (refine ⟨_, _, mdAwake, ?_⟩; ((conv => whnf); repeat (first | (refine And.intro rfl ?_; conv => whnf) | (refine And.intro (fun _ => ?_) (fun h => Bool.noConfusion h); conv => whnf) | (refine And.intro (fun h => Bool.noConfusion h) (fun _ => ?_); conv => whnf)))) | (refine ⟨by decide, _, rfl, rfl, ?_⟩; ((conv => whnf); repeat (first | (refine And.intro rfl ?_; conv => whnf) | (refine And.intro (fun _ => ?_) (fun h => Bool.noConfusion h); conv => whnf) | (refine And.intro (fun h => Bool.noConfusion h) (fun _ => ?_); conv => whnf)))) | fail)
        all_goals (refine Exists.intro [] (And.intro List.nodup_nil ?_); ((conv => whnf); repeat (first | (refine And.intro rfl ?_; conv => whnf) | (refine And.intro (fun _ => ?_) (fun h => Bool.noConfusion h); conv => whnf) | (refine And.intro (fun h => Bool.noConfusion h) (fun _ => ?_); conv => whnf))))
        all_goals rfl
      · (conv => whnf); repeat (first | (refine And.intro rfl ?_; conv => whnf) | (refine And.intro (fun _ => ?_) (fun h => Bool.noConfusion h); conv => whnf) | (refine And.intro (fun h => Bool.noConfusion h) (fun _ => ?_); conv => whnf))
        refine ⟨_, _, c1, ?_⟩
        (conv => whnf); repeat (first | (refine And.intro rfl ?_; conv => whnf) | (refine And.intro (fun _ => ?_) (fun h => Bool.noConfusion h); conv => whnf) | (refine And.intro (fun h => Bool.noConfusion h) (fun _ => ?_); conv => whnf))
        refine ⟨_, _, c2, ?_⟩
        (conv => whnf); repeat (first | (refine And.intro rfl ?_; conv => whnf) | (refine And.intro (fun _ => ?_) (fun h => Bool.noConfusion h); conv => whnf) | (refine And.intro (fun h => Bool.noConfusion h) (fun _ => ?_); conv => whnf))
        repeat' (first | ((refine And.intro (fun h => ?_) (fun h => ?_)) <;> (try simp at h) <;> ((conv => whnf); repeat (first | (refine And.intro rfl ?_; conv => whnf) | (refine And.intro (fun _ => ?_) (fun h => Bool.noConfusion h); conv => whnf) | (refine And.intro (fun h => Bool.noConfusion h) (fun _ => ?_); conv => whnf)))) | (refine ⟨_, _, mdAwake, ?_⟩; ((conv => whnf); repeat (first | (refine And.intro rfl ?_; conv => whnf) | (refine And.intro (fun _ => ?_) (fun h => Bool.noConfusion h); conv => whnf) | (refine And.intro (fun h => Bool.noConfusion h) (fun _ => ?_); conv => whnf)))) | fail)
        all_goals (first | (exfalso; omega) | skip)
        all_goals (refine Exists.intro [] (And.intro List.nodup_nil ?_); ((conv => whnf); repeat (first | (refine And.intro rfl ?_; conv => whnf) | (refine And.intro (fun _ => ?_) (fun h => Bool.noConfusion h); conv => whnf) | (refine And.intro (fun h => Bool.noConfusion h) (fun _ => ?_); conv => whnf))))
        all_goals rfl
  · rw [decide_eq_false hL] at hlight
    refine fun_of_vc tabOk mixOk Try.func11 rfl (by rfl) (rs := [.tmp 2]) rfl rfl 104 ?_; rw [Try.ntmps11]
    (conv => whnf); repeat (first | (refine And.intro rfl ?_; conv => whnf) | (refine And.intro (fun _ => ?_) (fun h => Bool.noConfusion h); conv => whnf) | (refine And.intro (fun h => Bool.noConfusion h) (fun _ => ?_); conv => whnf))
    refine ⟨_, _, hlight, ?_⟩
    (conv => whnf); repeat (first | (refine And.intro rfl ?_; conv => whnf) | (refine And.intro (fun _ => ?_) (fun h => Bool.noConfusion h); conv => whnf) | (refine And.intro (fun h => Bool.noConfusion h) (fun _ => ?_); conv => whnf))
    refine ⟨_, _, mdAwake, ?_⟩
    (conv => whnf); repeat (first | (refine And.intro rfl ?_; conv => whnf) | (refine And.intro (fun _ => ?_) (fun h => Bool.noConfusion h); conv => whnf) | (refine And.intro (fun h => Bool.noConfusion h) (fun _ => ?_); conv => whnf))
    refine Exists.intro [] (And.intro List.nodup_nil ?_); ((conv => whnf); repeat (first | (refine And.intro rfl ?_; conv => whnf) | (refine And.intro (fun _ => ?_) (fun h => Bool.noConfusion h); conv => whnf) | (refine And.intro (fun h => Bool.noConfusion h) (fun _ => ?_); conv => whnf)))
    rfl
end Go.Proofs.Ytmooflgfcebmaaa.Ab
namespace Go.Proofs.Ytmooflgfcebmaaa
set_option linter.unusedVariables false
set_option linter.unusedSimpArgs false
open Ab
set_option maxRecDepth 100000 in
theorem modelCommutes.walk {H : Type} {enc : TypeId × Value → H} {W : World} {base : Nat} (v : Value) (d : DataW H) (p : List MemPlace) (hv : Value.okWide Try.prog W .any base 22 v)
    (h : DataW.Trod enc Try.prog W 0 (fun _ => true) true 22 v d p) (hw : ∀ n ∈ d.weights Try.prog 22, n ≤ 140737488351232)
    (W' : World) (hW : W' = W := by rfl) : Calls Try.prog 11 #[v] W' (True1 W') := by
  subst hW
  obtain ⟨es, _, q1, q2⟩ := open_sl tabOk 3 (t := 22) (by decide +kernel) rfl hv h
  obtain ⟨xs, rfl⟩ := ints_of (d := 2) es (fun r hr => (q1 r hr).2)
  have b3 := slice_bound tabOk (e := 3) rfl h hw (q2 (fun _ _ => undef) (fun _ => 0))
  rw [bytesOf_eq tabOk (fun h => TK.noConfusion h)] at b3
  have b3' : (wV xs).length * 8 ≤ 140737488351232 := b3
  exact law_of_fun (modelCommutesF xs (by simp [wV] at b3'; omega)) rfl (reps_get (vs := [_]) ⟨q2 _ _, trivial⟩)
end Go.Proofs.Ytmooflgfcebmaaa
