/- Victims: which is chosen, and how much could be given back. No condition. -/
import Derived.Test.YtijajfldpaadnaaVa
namespace Go.Proofs.Ytijajfldpaadnaa.Ab
set_option linter.unusedVariables false
set_option linter.unusedSimpArgs false
open Go.RowKit

def lvAt (x : Vs) (n : Int) : Int := match x.lv[n.toNat]? with
  | some l => l
  | none => 0
def chB (x : Vs) (i : Int) (st : Int × Bool) : Bool := vcan x i && (!st.2 || decide (lvAt x i < lvAt x st.1))
def chGo (x : Vs) : Nat → Int × Bool
  | 0 => (0, false)
  | i + 1 => if chB x i (chGo x i) = true then ((i : Int), true) else chGo x i
def ddGo (x : Vs) : Nat → Int
  | 0 => 0
  | i + 1 => if vcan x i = true then iwrap .i64 (iwrap .i64 (iwrap .i64 (ddGo x i + x.c.s) - 1) - lvAt x i) else ddGo x i
theorem vcan_in {x : Vs} {n : Int} (h : vcan x n = true) : ∃ k : Nat, n = k ∧ ∃ hk : k < x.lv.length, lvAt x n = x.lv[k] := by
  unfold vcan at h
  rw [Bool.and_eq_true] at h
  obtain ⟨h1, h2⟩ := h
  obtain ⟨h3, _⟩ := isData_nn h1
  obtain ⟨k, rfl⟩ : ∃ k : Nat, n = k := ⟨n.toNat, by omega⟩
  rw [Int.toNat_natCast] at h2
  split at h2
  · rename_i z l p e1 e2 e3
    have hk := (List.getElem?_eq_some_iff.1 e2).1
    refine ⟨k, rfl, hk, ?_⟩
    unfold lvAt
    rw [Int.toNat_natCast, List.getElem?_eq_getElem hk]
  · cases h2
theorem chGo_in (x : Vs) (i : Nat) : (chGo x i).2 = true → vcan x (chGo x i).1 = true := by
  induction i with
  | zero => intro h; cases h
  | succ i ih =>
    intro h
    rw [chGo] at h ⊢
    split
    · rename_i hb
      unfold chB at hb
      rw [Bool.and_eq_true] at hb
      exact hb.1
    · rename_i hb
      rw [if_neg hb] at h
      exact ih h
set_option maxRecDepth 100000 in
set_option maxHeartbeats 32000000 in
theorem cloCF (x : Vs) (i : Nat) (at_ : Int) (ok : Bool) (hz : x.zz.length ≤ 1000000) (hin : ok = true → vcan x at_ = true) :
    Fun Try.prog 69 [i64V i, .c (.pim (stI x)), .c (.pim [.sc (.bool ok)]), .c (.pim [.sc (.int .i64 at_)])] [] (ATbool (chB x i (at_, ok))) := by
  have hc := vcanF x i hz
  have hci := @vcan_in x (i : Int)
  unfold chB
  dsimp only
  have hl : ok = true → ∃ k : Nat, at_ = k ∧ ∃ hk : k < x.lv.length, lvAt x at_ = x.lv[k] := fun h => vcan_in (hin h)
  clear hin
  generalize vcan x (i : Int) = B at hc hci ⊢
  cases B with
  | false =>
    rw [Bool.false_and]
    refine fun_of_vc tabOk mixOk Try.func69 rfl (by rfl) (rs := [.tmp 5]) rfl rfl 32 ?_; rw [Try.ntmps69]
    (conv => whnf); repeat (first | (refine And.intro DrawOk.go ?_; conv => whnf) | (refine And.intro rfl ?_; conv => whnf) | (refine And.intro (fun _ => ?_) (fun h => Bool.noConfusion h); conv => whnf) | (refine And.intro (fun h => Bool.noConfusion h) (fun _ => ?_); conv => whnf))
    refine ⟨_, _, hc, ?_⟩
    (conv => whnf); repeat (first | (refine And.intro DrawOk.go ?_; conv => whnf) | (refine And.intro rfl ?_; conv => whnf) | (refine And.intro (fun _ => ?_) (fun h => Bool.noConfusion h); conv => whnf) | (refine And.intro (fun h => Bool.noConfusion h) (fun _ => ?_); conv => whnf))
    refine Exists.intro [] (And.intro List.nodup_nil ?_); ((conv => whnf); repeat (first | (refine And.intro DrawOk.go ?_; conv => whnf) | (refine And.intro rfl ?_; conv => whnf) | (refine And.intro (fun _ => ?_) (fun h => Bool.noConfusion h); conv => whnf) | (refine And.intro (fun h => Bool.noConfusion h) (fun _ => ?_); conv => whnf)))
    rfl
  | true =>
    cases ok with
    | false =>
      refine fun_of_vc tabOk mixOk Try.func69 rfl (by rfl) (rs := [.tmp 5]) rfl rfl 32 ?_; rw [Try.ntmps69]
      (conv => whnf); repeat (first | (refine And.intro DrawOk.go ?_; conv => whnf) | (refine And.intro rfl ?_; conv => whnf) | (refine And.intro (fun _ => ?_) (fun h => Bool.noConfusion h); conv => whnf) | (refine And.intro (fun h => Bool.noConfusion h) (fun _ => ?_); conv => whnf))
      refine ⟨_, _, hc, ?_⟩
      (conv => whnf); repeat (first | (refine And.intro DrawOk.go ?_; conv => whnf) | (refine And.intro rfl ?_; conv => whnf) | (refine And.intro (fun _ => ?_) (fun h => Bool.noConfusion h); conv => whnf) | (refine And.intro (fun h => Bool.noConfusion h) (fun _ => ?_); conv => whnf))
      refine Exists.intro [] (And.intro List.nodup_nil ?_); ((conv => whnf); repeat (first | (refine And.intro DrawOk.go ?_; conv => whnf) | (refine And.intro rfl ?_; conv => whnf) | (refine And.intro (fun _ => ?_) (fun h => Bool.noConfusion h); conv => whnf) | (refine And.intro (fun h => Bool.noConfusion h) (fun _ => ?_); conv => whnf)))
      rfl
    | true =>
      obtain ⟨k, e1, hk, e2⟩ := hl rfl
      obtain ⟨k', e1', hk', e2'⟩ := hci rfl
      obtain rfl : i = k' := by omega
      rw [e2, e2']
      subst e1
      have i1 := vItem hk
      have i2 := vItem hk'
      generalize x.lv[k] = u at i1 ⊢
      generalize x.lv[i] = v at i2 ⊢
      refine fun_of_vc tabOk mixOk Try.func69 rfl (by rfl) (rs := [.tmp 5]) rfl rfl 32 ?_; rw [Try.ntmps69]
      (conv => whnf); repeat (first | (refine And.intro DrawOk.go ?_; conv => whnf) | (refine And.intro rfl ?_; conv => whnf) | (refine And.intro (fun _ => ?_) (fun h => Bool.noConfusion h); conv => whnf) | (refine And.intro (fun h => Bool.noConfusion h) (fun _ => ?_); conv => whnf))
      refine ⟨_, _, hc, ?_⟩
      (conv => whnf); repeat (first | (refine And.intro DrawOk.go ?_; conv => whnf) | (refine And.intro rfl ?_; conv => whnf) | (refine And.intro (fun _ => ?_) (fun h => Bool.noConfusion h); conv => whnf) | (refine And.intro (fun h => Bool.noConfusion h) (fun _ => ?_); conv => whnf))
      refine ⟨Int.natCast_nonneg _, _, i2, rfl, ?_⟩
      (conv => whnf); repeat (first | (refine And.intro DrawOk.go ?_; conv => whnf) | (refine And.intro rfl ?_; conv => whnf) | (refine And.intro (fun _ => ?_) (fun h => Bool.noConfusion h); conv => whnf) | (refine And.intro (fun h => Bool.noConfusion h) (fun _ => ?_); conv => whnf))
      refine ⟨Int.natCast_nonneg _, _, i1, rfl, ?_⟩
      (conv => whnf); repeat (first | (refine And.intro DrawOk.go ?_; conv => whnf) | (refine And.intro rfl ?_; conv => whnf) | (refine And.intro (fun _ => ?_) (fun h => Bool.noConfusion h); conv => whnf) | (refine And.intro (fun h => Bool.noConfusion h) (fun _ => ?_); conv => whnf))
      refine Exists.intro [] (And.intro List.nodup_nil ?_); ((conv => whnf); repeat (first | (refine And.intro DrawOk.go ?_; conv => whnf) | (refine And.intro rfl ?_; conv => whnf) | (refine And.intro (fun _ => ?_) (fun h => Bool.noConfusion h); conv => whnf) | (refine And.intro (fun h => Bool.noConfusion h) (fun _ => ?_); conv => whnf)))
      rfl
set_option maxRecDepth 100000 in
set_option maxHeartbeats 32000000 in
theorem chooseF (x : Vs) (hz : x.zz.length ≤ 1000000) (hl : x.d.zs.length ≤ 1000000) : Fun Try.prog 18 [stA x] [] (.tup [i64V (chGo x x.d.zs.length).1, bV (chGo x x.d.zs.length).2]) := by
  have hc := fun (i : Nat) (st : Int × Bool) (h : chGo x i = st) => cloCF x i st.1 st.2 hz (by rw [← h]; exact chGo_in x i)
  have hsu : ∀ i : Nat, chGo x (i + 1) = if chB x i (chGo x i) = true then ((i : Int), true) else chGo x i := fun i => rfl
  have h0 : chGo x 0 = (0, false) := rfl
  have hB : ∀ i st, ∃ b, b = chB x i st := fun i st => ⟨_, rfl⟩
  generalize chGo x = G at hc hsu h0 ⊢
  have zl := zLen x.d.zs
  refine fun_of_vc tabOk mixOk Try.func18 rfl (by rfl) (rs := [.tmp 2, .tmp 3]) rfl rfl 27 ?_; rw [Try.ntmps18]
  (conv => whnf); repeat (first | (refine And.intro DrawOk.go ?_; conv => whnf) | (refine And.intro rfl ?_; conv => whnf) | (refine And.intro (fun _ => ?_) (fun h => Bool.noConfusion h); conv => whnf) | (refine And.intro (fun h => Bool.noConfusion h) (fun _ => ?_); conv => whnf))
  refine vc_loop [4, 5, 6, 12] [1] (X := Nat × Int × Bool) (fun y gs => [(13, ATint y.1)]) (fun y gs => [(4, .var 1 [.i (.sc (.int .i64 y.2.1))]), (5, .var 1 [.i (.sc (.bool y.2.2))])]) (fun y => y.1 ≤ x.d.zs.length ∧ G y.1 = y.2) (fun y => x.d.zs.length - y.1) _ (Ghost.refl _) (0, 0, false) ⟨Nat.zero_le _, h0⟩ ?_ ?_
  · (refine And.intro rfl (And.intro rfl ?_)); (repeat' (first | exact trivial | exact rfl | apply And.intro | (refine congrArg (Value.int .i64) (w64_nat ?_); omega)))
  intro gs y hy
  obtain ⟨i, a, ok⟩ := y
  have hi : i ≤ x.d.zs.length := hy.1
  have he : G i = (a, ok) := hy.2
  clear hy
  have hs := hsu i
  rw [he] at hs
  have hci := hc i _ he
  dsimp only at hci
  (conv => whnf); repeat (first | (refine And.intro DrawOk.go ?_; conv => whnf) | (refine And.intro rfl ?_; conv => whnf) | (refine And.intro (fun _ => ?_) (fun h => Bool.noConfusion h); conv => whnf) | (refine And.intro (fun h => Bool.noConfusion h) (fun _ => ?_); conv => whnf))
  refine And.intro (fun h => ?_) (fun h => ?_)
  · have hlt : i < x.d.zs.length := by have := of_decide_eq_true h; omega
    clear hc hsu
    generalize chB x (i : Int) (a, ok) = b at hs hci
    (conv => whnf); repeat (first | (refine And.intro DrawOk.go ?_; conv => whnf) | (refine And.intro rfl ?_; conv => whnf) | (refine And.intro (fun _ => ?_) (fun h => Bool.noConfusion h); conv => whnf) | (refine And.intro (fun h => Bool.noConfusion h) (fun _ => ?_); conv => whnf))
    refine Or.inl ?_
    (conv => whnf); repeat (first | (refine And.intro DrawOk.go ?_; conv => whnf) | (refine And.intro rfl ?_; conv => whnf) | (refine And.intro (fun _ => ?_) (fun h => Bool.noConfusion h); conv => whnf) | (refine And.intro (fun h => Bool.noConfusion h) (fun _ => ?_); conv => whnf))
    refine ⟨_, _, hci, ?_⟩
    (conv => whnf); repeat (first | (refine And.intro DrawOk.go ?_; conv => whnf) | (refine And.intro rfl ?_; conv => whnf) | (refine And.intro (fun _ => ?_) (fun h => Bool.noConfusion h); conv => whnf) | (refine And.intro (fun h => Bool.noConfusion h) (fun _ => ?_); conv => whnf))
    cases b with
    | true =>
      rw [if_pos rfl] at hs
      (conv => whnf); repeat (first | (refine And.intro DrawOk.go ?_; conv => whnf) | (refine And.intro rfl ?_; conv => whnf) | (refine And.intro (fun _ => ?_) (fun h => Bool.noConfusion h); conv => whnf) | (refine And.intro (fun h => Bool.noConfusion h) (fun _ => ?_); conv => whnf))
      refine again (i + 1, (i : Int), true) ⟨hlt, hs⟩ (by dsimp only; omega) ?_
      (refine And.intro rfl (And.intro rfl ?_)); (repeat' (first | exact trivial | exact rfl | apply And.intro | (refine congrArg (Value.int .i64) (w64_nat ?_); omega)))
    | false =>
      rw [if_neg (by decide)] at hs
      (conv => whnf); repeat (first | (refine And.intro DrawOk.go ?_; conv => whnf) | (refine And.intro rfl ?_; conv => whnf) | (refine And.intro (fun _ => ?_) (fun h => Bool.noConfusion h); conv => whnf) | (refine And.intro (fun h => Bool.noConfusion h) (fun _ => ?_); conv => whnf))
      refine again (i + 1, a, ok) ⟨hlt, hs⟩ (by dsimp only; omega) ?_
      (refine And.intro rfl (And.intro rfl ?_)); (repeat' (first | exact trivial | exact rfl | apply And.intro | (refine congrArg (Value.int .i64) (w64_nat ?_); omega)))
  · obtain rfl : i = x.d.zs.length := by have := of_decide_eq_false h; omega
    rw [he]
    (conv => whnf); repeat (first | (refine And.intro DrawOk.go ?_; conv => whnf) | (refine And.intro rfl ?_; conv => whnf) | (refine And.intro (fun _ => ?_) (fun h => Bool.noConfusion h); conv => whnf) | (refine And.intro (fun h => Bool.noConfusion h) (fun _ => ?_); conv => whnf))
    refine Exists.intro [] (And.intro List.nodup_nil ?_); ((conv => whnf); repeat (first | (refine And.intro DrawOk.go ?_; conv => whnf) | (refine And.intro rfl ?_; conv => whnf) | (refine And.intro (fun _ => ?_) (fun h => Bool.noConfusion h); conv => whnf) | (refine And.intro (fun h => Bool.noConfusion h) (fun _ => ?_); conv => whnf)))
    rfl
set_option maxRecDepth 100000 in
set_option maxHeartbeats 32000000 in
theorem chooseF' (x : Vs) (hz : x.zz.length ≤ 1000000) (hl : x.d.zs.length ≤ 1000000) : Fun Try.prog 71 [stA x] [] (.tup [i64V (chGo x x.d.zs.length).1, bV (chGo x x.d.zs.length).2]) := by
  have hc := fun (i : Nat) => vcanF' x i hz
  have hsu : ∀ i : Nat, chGo x (i + 1) = if chB x i (chGo x i) = true then ((i : Int), true) else chGo x i := fun i => rfl
  have h0 : chGo x 0 = (0, false) := rfl
  have hin := chGo_in x
  have hvi := fun (n : Int) => @vcan_in x n
  unfold chB at hsu
  generalize chGo x = G at hsu h0 hin ⊢
  have zl := zLen x.d.zs
  refine fun_of_vc tabOk mixOk Try.func71 rfl (by rfl) (rs := [.tmp 2, .tmp 3]) rfl rfl 44 ?_; rw [Try.ntmps71]
  (conv => whnf); repeat (first | (refine And.intro DrawOk.go ?_; conv => whnf) | (refine And.intro rfl ?_; conv => whnf) | (refine And.intro (fun _ => ?_) (fun h => Bool.noConfusion h); conv => whnf) | (refine And.intro (fun h => Bool.noConfusion h) (fun _ => ?_); conv => whnf))
  refine vc_loop [1] [1] (X := Nat × Int × Bool) (fun y gs => [(6, ATint y.1), (4, .v (i64V y.2.1)), (5, .v (bV y.2.2))]) (fun y gs => []) (fun y => y.1 ≤ x.d.zs.length ∧ G y.1 = y.2) (fun y => x.d.zs.length - y.1) _ (Ghost.refl _) (0, 0, false) ⟨Nat.zero_le _, h0⟩ ?_ ?_
  · (refine And.intro rfl (And.intro rfl ?_)); (repeat' (first | exact trivial | exact rfl | apply And.intro | (refine congrArg (Value.int .i64) (w64_nat ?_); omega)))
  intro gs y hy
  obtain ⟨i, a, ok⟩ := y
  have hi : i ≤ x.d.zs.length := hy.1
  have he : G i = (a, ok) := hy.2
  clear hy
  have hs := hsu i
  have hini := hin i
  rw [he] at hs hini
  dsimp only at hs hini
  have hci := hc i
  (conv => whnf); repeat (first | (refine And.intro DrawOk.go ?_; conv => whnf) | (refine And.intro rfl ?_; conv => whnf) | (refine And.intro (fun _ => ?_) (fun h => Bool.noConfusion h); conv => whnf) | (refine And.intro (fun h => Bool.noConfusion h) (fun _ => ?_); conv => whnf))
  refine And.intro (fun h => ?_) (fun h => ?_)
  · have hlt : i < x.d.zs.length := by have := of_decide_eq_true h; omega
    clear hc hsu
    have hv1 := hvi (i : Int)
    have hv2 := hvi a
    generalize vcan x (i : Int) = b at hs hci hv1
    cases b with
    | false =>
      rw [Bool.false_and, if_neg (by decide)] at hs
      (conv => whnf); repeat (first | (refine And.intro DrawOk.go ?_; conv => whnf) | (refine And.intro rfl ?_; conv => whnf) | (refine And.intro (fun _ => ?_) (fun h => Bool.noConfusion h); conv => whnf) | (refine And.intro (fun h => Bool.noConfusion h) (fun _ => ?_); conv => whnf))
      refine ⟨_, _, hci, ?_⟩
      (conv => whnf); repeat (first | (refine And.intro DrawOk.go ?_; conv => whnf) | (refine And.intro rfl ?_; conv => whnf) | (refine And.intro (fun _ => ?_) (fun h => Bool.noConfusion h); conv => whnf) | (refine And.intro (fun h => Bool.noConfusion h) (fun _ => ?_); conv => whnf))
      refine again (i + 1, a, ok) ⟨hlt, hs⟩ (by dsimp only; omega) ?_
      (refine And.intro rfl (And.intro rfl ?_)); (repeat' (first | exact trivial | exact rfl | apply And.intro | (refine congrArg (Value.int .i64) (w64_nat ?_); omega)))
    | true =>
      cases ok with
      | false =>
        rw [Bool.true_and, Bool.not_false, Bool.true_or, if_pos rfl] at hs
        (conv => whnf); repeat (first | (refine And.intro DrawOk.go ?_; conv => whnf) | (refine And.intro rfl ?_; conv => whnf) | (refine And.intro (fun _ => ?_) (fun h => Bool.noConfusion h); conv => whnf) | (refine And.intro (fun h => Bool.noConfusion h) (fun _ => ?_); conv => whnf))
        refine ⟨_, _, hci, ?_⟩
        (conv => whnf); repeat (first | (refine And.intro DrawOk.go ?_; conv => whnf) | (refine And.intro rfl ?_; conv => whnf) | (refine And.intro (fun _ => ?_) (fun h => Bool.noConfusion h); conv => whnf) | (refine And.intro (fun h => Bool.noConfusion h) (fun _ => ?_); conv => whnf))
        refine again (i + 1, (i : Int), true) ⟨hlt, hs⟩ (by dsimp only; omega) ?_
        (refine And.intro rfl (And.intro rfl ?_)); (repeat' (first | exact trivial | exact rfl | apply And.intro | (refine congrArg (Value.int .i64) (w64_nat ?_); omega)))
      | true =>
        rw [Bool.true_and, Bool.not_true, Bool.false_or] at hs
        obtain ⟨k, e1, hk, e2⟩ := hv2 (hini rfl)
        obtain ⟨k', e1', hk', e2'⟩ := hv1 rfl
        obtain rfl : i = k' := by omega
        rw [e2, e2'] at hs
        subst e1
        have i1 := vItem hk
        have i2 := vItem hk'
        clear hvi hv1 hv2 hin hini e1' e2 e2'
        generalize x.lv[k] = u at i1 hs
        generalize x.lv[i] = v at i2 hs
        (conv => whnf); repeat (first | (refine And.intro DrawOk.go ?_; conv => whnf) | (refine And.intro rfl ?_; conv => whnf) | (refine And.intro (fun _ => ?_) (fun h => Bool.noConfusion h); conv => whnf) | (refine And.intro (fun h => Bool.noConfusion h) (fun _ => ?_); conv => whnf))
        refine ⟨_, _, hci, ?_⟩
        (conv => whnf); repeat (first | (refine And.intro DrawOk.go ?_; conv => whnf) | (refine And.intro rfl ?_; conv => whnf) | (refine And.intro (fun _ => ?_) (fun h => Bool.noConfusion h); conv => whnf) | (refine And.intro (fun h => Bool.noConfusion h) (fun _ => ?_); conv => whnf))
        refine ⟨Int.natCast_nonneg _, _, i2, rfl, ?_⟩
        (conv => whnf); repeat (first | (refine And.intro DrawOk.go ?_; conv => whnf) | (refine And.intro rfl ?_; conv => whnf) | (refine And.intro (fun _ => ?_) (fun h => Bool.noConfusion h); conv => whnf) | (refine And.intro (fun h => Bool.noConfusion h) (fun _ => ?_); conv => whnf))
        refine ⟨Int.natCast_nonneg _, _, i1, rfl, ?_⟩
        (conv => whnf); repeat (first | (refine And.intro DrawOk.go ?_; conv => whnf) | (refine And.intro rfl ?_; conv => whnf) | (refine And.intro (fun _ => ?_) (fun h => Bool.noConfusion h); conv => whnf) | (refine And.intro (fun h => Bool.noConfusion h) (fun _ => ?_); conv => whnf))
        refine And.intro (fun h2 => ?_) (fun h2 => ?_)
        · rw [h2, if_pos rfl] at hs
          (conv => whnf); repeat (first | (refine And.intro DrawOk.go ?_; conv => whnf) | (refine And.intro rfl ?_; conv => whnf) | (refine And.intro (fun _ => ?_) (fun h => Bool.noConfusion h); conv => whnf) | (refine And.intro (fun h => Bool.noConfusion h) (fun _ => ?_); conv => whnf))
          refine again (i + 1, (i : Int), true) ⟨hlt, hs⟩ (by dsimp only; omega) ?_
          (refine And.intro rfl (And.intro rfl ?_)); (repeat' (first | exact trivial | exact rfl | apply And.intro | (refine congrArg (Value.int .i64) (w64_nat ?_); omega)))
        · rw [h2, if_neg (by decide)] at hs
          (conv => whnf); repeat (first | (refine And.intro DrawOk.go ?_; conv => whnf) | (refine And.intro rfl ?_; conv => whnf) | (refine And.intro (fun _ => ?_) (fun h => Bool.noConfusion h); conv => whnf) | (refine And.intro (fun h => Bool.noConfusion h) (fun _ => ?_); conv => whnf))
          refine again (i + 1, (k : Int), true) ⟨hlt, hs⟩ (by dsimp only; omega) ?_
          (refine And.intro rfl (And.intro rfl ?_)); (repeat' (first | exact trivial | exact rfl | apply And.intro | (refine congrArg (Value.int .i64) (w64_nat ?_); omega)))
  · obtain rfl : i = x.d.zs.length := by have := of_decide_eq_false h; omega
    rw [he]
    (conv => whnf); repeat (first | (refine And.intro DrawOk.go ?_; conv => whnf) | (refine And.intro rfl ?_; conv => whnf) | (refine And.intro (fun _ => ?_) (fun h => Bool.noConfusion h); conv => whnf) | (refine And.intro (fun h => Bool.noConfusion h) (fun _ => ?_); conv => whnf))
    refine Exists.intro [] (And.intro List.nodup_nil ?_); ((conv => whnf); repeat (first | (refine And.intro DrawOk.go ?_; conv => whnf) | (refine And.intro rfl ?_; conv => whnf) | (refine And.intro (fun _ => ?_) (fun h => Bool.noConfusion h); conv => whnf) | (refine And.intro (fun h => Bool.noConfusion h) (fun _ => ?_); conv => whnf)))
    rfl
set_option maxRecDepth 100000 in
set_option maxHeartbeats 32000000 in
theorem deadF (x : Vs) (hz : x.zz.length ≤ 1000000) (hl : x.d.zs.length ≤ 1000000) : Fun Try.prog 20 [stA x] [] (.v (i64V (ddGo x x.d.zs.length))) := by
  have hc := fun (i : Nat) => vcanF x i hz
  have hsu : ∀ i : Nat, ddGo x (i + 1) = if vcan x i = true then iwrap .i64 (iwrap .i64 (iwrap .i64 (ddGo x i + x.c.s) - 1) - lvAt x i) else ddGo x i := fun i => rfl
  have h0 : ddGo x 0 = 0 := rfl
  have hvi := fun (n : Int) => @vcan_in x n
  generalize ddGo x = G at hsu h0 ⊢
  have zl := zLen x.d.zs
  refine fun_of_vc tabOk mixOk Try.func20 rfl (by rfl) (rs := [.tmp 2]) rfl rfl 34 ?_; rw [Try.ntmps20]
  (conv => whnf); repeat (first | (refine And.intro DrawOk.go ?_; conv => whnf) | (refine And.intro rfl ?_; conv => whnf) | (refine And.intro (fun _ => ?_) (fun h => Bool.noConfusion h); conv => whnf) | (refine And.intro (fun h => Bool.noConfusion h) (fun _ => ?_); conv => whnf))
  refine vc_loop [1, 8] [1] (X := Nat × Int) (fun y gs => [(9, ATint y.1), (3, .v (i64V y.2))]) (fun y gs => []) (fun y => y.1 ≤ x.d.zs.length ∧ G y.1 = y.2) (fun y => x.d.zs.length - y.1) _ (Ghost.refl _) (0, 0) ⟨Nat.zero_le _, h0⟩ ?_ ?_
  · (refine And.intro rfl (And.intro rfl ?_)); (repeat' (first | exact trivial | exact rfl | apply And.intro | (refine congrArg (Value.int .i64) (w64_nat ?_); omega)))
  intro gs y hy
  obtain ⟨i, n⟩ := y
  have hi : i ≤ x.d.zs.length := hy.1
  have he : G i = n := hy.2
  clear hy
  have hs := hsu i
  rw [he] at hs
  have hci := hc i
  (conv => whnf); repeat (first | (refine And.intro DrawOk.go ?_; conv => whnf) | (refine And.intro rfl ?_; conv => whnf) | (refine And.intro (fun _ => ?_) (fun h => Bool.noConfusion h); conv => whnf) | (refine And.intro (fun h => Bool.noConfusion h) (fun _ => ?_); conv => whnf))
  refine And.intro (fun h => ?_) (fun h => ?_)
  · have hlt : i < x.d.zs.length := by have := of_decide_eq_true h; omega
    clear hc hsu
    have hv1 := hvi (i : Int)
    generalize vcan x (i : Int) = b at hs hci hv1
    (conv => whnf); repeat (first | (refine And.intro DrawOk.go ?_; conv => whnf) | (refine And.intro rfl ?_; conv => whnf) | (refine And.intro (fun _ => ?_) (fun h => Bool.noConfusion h); conv => whnf) | (refine And.intro (fun h => Bool.noConfusion h) (fun _ => ?_); conv => whnf))
    refine ⟨_, _, hci, ?_⟩
    cases b with
    | false =>
      rw [if_neg (by decide)] at hs
      (conv => whnf); repeat (first | (refine And.intro DrawOk.go ?_; conv => whnf) | (refine And.intro rfl ?_; conv => whnf) | (refine And.intro (fun _ => ?_) (fun h => Bool.noConfusion h); conv => whnf) | (refine And.intro (fun h => Bool.noConfusion h) (fun _ => ?_); conv => whnf))
      refine again (i + 1, n) ⟨hlt, hs⟩ (by dsimp only; omega) ?_
      (refine And.intro rfl (And.intro rfl ?_)); (repeat' (first | exact trivial | exact rfl | apply And.intro | (refine congrArg (Value.int .i64) (w64_nat ?_); omega)))
    | true =>
      rw [if_pos rfl] at hs
      obtain ⟨k', e1', hk', e2'⟩ := hv1 rfl
      obtain rfl : i = k' := by omega
      rw [e2'] at hs
      have i2 := vItem hk'
      generalize x.lv[i] = v at i2 hs
      (conv => whnf); repeat (first | (refine And.intro DrawOk.go ?_; conv => whnf) | (refine And.intro rfl ?_; conv => whnf) | (refine And.intro (fun _ => ?_) (fun h => Bool.noConfusion h); conv => whnf) | (refine And.intro (fun h => Bool.noConfusion h) (fun _ => ?_); conv => whnf))
      refine ⟨Int.natCast_nonneg _, _, i2, rfl, ?_⟩
      (conv => whnf); repeat (first | (refine And.intro DrawOk.go ?_; conv => whnf) | (refine And.intro rfl ?_; conv => whnf) | (refine And.intro (fun _ => ?_) (fun h => Bool.noConfusion h); conv => whnf) | (refine And.intro (fun h => Bool.noConfusion h) (fun _ => ?_); conv => whnf))
      refine again (i + 1, _) ⟨hlt, hs⟩ (by dsimp only; omega) ?_
      (refine And.intro rfl (And.intro rfl ?_)); (repeat' (first | exact trivial | exact rfl | apply And.intro | (refine congrArg (Value.int .i64) (w64_nat ?_); omega)))
  · obtain rfl : i = x.d.zs.length := by have := of_decide_eq_false h; omega
    rw [he]
    (conv => whnf); repeat (first | (refine And.intro DrawOk.go ?_; conv => whnf) | (refine And.intro rfl ?_; conv => whnf) | (refine And.intro (fun _ => ?_) (fun h => Bool.noConfusion h); conv => whnf) | (refine And.intro (fun h => Bool.noConfusion h) (fun _ => ?_); conv => whnf))
    refine Exists.intro [] (And.intro List.nodup_nil ?_); ((conv => whnf); repeat (first | (refine And.intro DrawOk.go ?_; conv => whnf) | (refine And.intro rfl ?_; conv => whnf) | (refine And.intro (fun _ => ?_) (fun h => Bool.noConfusion h); conv => whnf) | (refine And.intro (fun h => Bool.noConfusion h) (fun _ => ?_); conv => whnf)))
    rfl
set_option maxRecDepth 100000 in
set_option maxHeartbeats 32000000 in
theorem deadF' (x : Vs) (hz : x.zz.length ≤ 1000000) (hl : x.d.zs.length ≤ 1000000) : Fun Try.prog 75 [stA x] [] (.v (i64V (ddGo x x.d.zs.length))) := by
  have hc := fun (i : Nat) => vcanF' x i hz
  have hsu : ∀ i : Nat, ddGo x (i + 1) = if vcan x i = true then iwrap .i64 (iwrap .i64 (iwrap .i64 (ddGo x i + x.c.s) - 1) - lvAt x i) else ddGo x i := fun i => rfl
  have h0 : ddGo x 0 = 0 := rfl
  have hvi := fun (n : Int) => @vcan_in x n
  generalize ddGo x = G at hsu h0 ⊢
  have zl := zLen x.d.zs
  refine fun_of_vc tabOk mixOk Try.func75 rfl (by rfl) (rs := [.tmp 2]) rfl rfl 34 ?_; rw [Try.ntmps75]
  (conv => whnf); repeat (first | (refine And.intro DrawOk.go ?_; conv => whnf) | (refine And.intro rfl ?_; conv => whnf) | (refine And.intro (fun _ => ?_) (fun h => Bool.noConfusion h); conv => whnf) | (refine And.intro (fun h => Bool.noConfusion h) (fun _ => ?_); conv => whnf))
  refine vc_loop [1] [1] (X := Nat × Int) (fun y gs => [(4, ATint y.1), (3, .v (i64V y.2))]) (fun y gs => []) (fun y => y.1 ≤ x.d.zs.length ∧ G y.1 = y.2) (fun y => x.d.zs.length - y.1) _ (Ghost.refl _) (0, 0) ⟨Nat.zero_le _, h0⟩ ?_ ?_
  · (refine And.intro rfl (And.intro rfl ?_)); (repeat' (first | exact trivial | exact rfl | apply And.intro | (refine congrArg (Value.int .i64) (w64_nat ?_); omega)))
  intro gs y hy
  obtain ⟨i, n⟩ := y
  have hi : i ≤ x.d.zs.length := hy.1
  have he : G i = n := hy.2
  clear hy
  have hs := hsu i
  rw [he] at hs
  have hci := hc i
  (conv => whnf); repeat (first | (refine And.intro DrawOk.go ?_; conv => whnf) | (refine And.intro rfl ?_; conv => whnf) | (refine And.intro (fun _ => ?_) (fun h => Bool.noConfusion h); conv => whnf) | (refine And.intro (fun h => Bool.noConfusion h) (fun _ => ?_); conv => whnf))
  refine And.intro (fun h => ?_) (fun h => ?_)
  · have hlt : i < x.d.zs.length := by have := of_decide_eq_true h; omega
    clear hc hsu
    have hv1 := hvi (i : Int)
    generalize vcan x (i : Int) = b at hs hci hv1
    (conv => whnf); repeat (first | (refine And.intro DrawOk.go ?_; conv => whnf) | (refine And.intro rfl ?_; conv => whnf) | (refine And.intro (fun _ => ?_) (fun h => Bool.noConfusion h); conv => whnf) | (refine And.intro (fun h => Bool.noConfusion h) (fun _ => ?_); conv => whnf))
    refine ⟨_, _, hci, ?_⟩
    cases b with
    | false =>
      rw [if_neg (by decide)] at hs
      (conv => whnf); repeat (first | (refine And.intro DrawOk.go ?_; conv => whnf) | (refine And.intro rfl ?_; conv => whnf) | (refine And.intro (fun _ => ?_) (fun h => Bool.noConfusion h); conv => whnf) | (refine And.intro (fun h => Bool.noConfusion h) (fun _ => ?_); conv => whnf))
      refine again (i + 1, n) ⟨hlt, hs⟩ (by dsimp only; omega) ?_
      (refine And.intro rfl (And.intro rfl ?_)); (repeat' (first | exact trivial | exact rfl | apply And.intro | (refine congrArg (Value.int .i64) (w64_nat ?_); omega)))
    | true =>
      rw [if_pos rfl] at hs
      obtain ⟨k', e1', hk', e2'⟩ := hv1 rfl
      obtain rfl : i = k' := by omega
      rw [e2'] at hs
      have i2 := vItem hk'
      generalize x.lv[i] = v at i2 hs
      (conv => whnf); repeat (first | (refine And.intro DrawOk.go ?_; conv => whnf) | (refine And.intro rfl ?_; conv => whnf) | (refine And.intro (fun _ => ?_) (fun h => Bool.noConfusion h); conv => whnf) | (refine And.intro (fun h => Bool.noConfusion h) (fun _ => ?_); conv => whnf))
      refine ⟨Int.natCast_nonneg _, _, i2, rfl, ?_⟩
      (conv => whnf); repeat (first | (refine And.intro DrawOk.go ?_; conv => whnf) | (refine And.intro rfl ?_; conv => whnf) | (refine And.intro (fun _ => ?_) (fun h => Bool.noConfusion h); conv => whnf) | (refine And.intro (fun h => Bool.noConfusion h) (fun _ => ?_); conv => whnf))
      refine again (i + 1, _) ⟨hlt, hs⟩ (by dsimp only; omega) ?_
      (refine And.intro rfl (And.intro rfl ?_)); (repeat' (first | exact trivial | exact rfl | apply And.intro | (refine congrArg (Value.int .i64) (w64_nat ?_); omega)))
  · obtain rfl : i = x.d.zs.length := by have := of_decide_eq_false h; omega
    rw [he]
    (conv => whnf); repeat (first | (refine And.intro DrawOk.go ?_; conv => whnf) | (refine And.intro rfl ?_; conv => whnf) | (refine And.intro (fun _ => ?_) (fun h => Bool.noConfusion h); conv => whnf) | (refine And.intro (fun h => Bool.noConfusion h) (fun _ => ?_); conv => whnf))
    refine Exists.intro [] (And.intro List.nodup_nil ?_); ((conv => whnf); repeat (first | (refine And.intro DrawOk.go ?_; conv => whnf) | (refine And.intro rfl ?_; conv => whnf) | (refine And.intro (fun _ => ?_) (fun h => Bool.noConfusion h); conv => whnf) | (refine And.intro (fun h => Bool.noConfusion h) (fun _ => ?_); conv => whnf)))
    rfl
end Go.Proofs.Ytijajfldpaadnaa.Ab
