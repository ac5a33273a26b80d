/- Epochs: the iterator of the retired zones. -/
import Derived.Test.YtijajfldpaadnaaEg
import Derived.RangeFuncNested
import Derived.RangeFuncBound
import Derived.RangeFuncCalls
import Derived.RangeFuncLeaves
import Derived.RangeFuncBox
import Derived.Shelf.Abstract
import Derived.WalkKit
import Derived.OwnWalkIn
import Derived.TacticsInMore
import Derived.LoopNIn
import Derived.LoopIn
namespace Go.Proofs.Ytijajfldpaadnaa.Ab
set_option linter.unusedVariables false
set_option linter.unusedSimpArgs false
open Go.RowKit Go.Shelf

attribute [local go_sem] Oper.semAt_some

set_option maxHeartbeats 1000000 in
theorem retired_in (n : Nat) (g : Int) (pv zv : Value) (most : Int) (w : World) :
    CallsIn Fence.wide n Try.prog 97 #[.agg #[.int .i64 g, pv, zv], .int .i64 most] w fun e w' =>
      e = .returned (.func (.func 126) #[] #[.pointer (some ⟨w.heap.size, 0, none⟩), .pointer (some ⟨w.heap.size + 1, 0, none⟩)]) ∧ w' = (w.alloc (.cells #[.int .i64 g, pv, zv] 39)).alloc (.cells #[.int .i64 most] 3) := by
  refine callsIn_of_wp Try.func97 rfl trivial ?_ rfl
  simp only [Try.ntmps97, List.size_toArray, List.length_cons, List.length_nil, Nat.reduceAdd, Nat.reduceSub, Array.replicate_succ, Array.replicate_zero, List.push_toArray, List.append_toArray, List.nil_append, List.cons_append]
  gi_wp2
  go_ret
  exact ⟨rfl, rfl⟩

/-- What has come when k zones were looked at. -/
def comes (most : Int) (z : List (Int × Int)) (k : Nat) : List Int := ((z.take k).filter (rdy most)).map (·.1)
theorem comes_succ (most : Int) {z : List (Int × Int)} {k : Nat} (h : k < z.length) : comes most z (k + 1) = if rdy most z[k] = true then comes most z k ++ [z[k].1] else comes most z k := by
  unfold comes
  rw [List.take_succ_eq_append_getElem h, List.filter_append]
  by_cases hr : rdy most z[k] = true
  · rw [if_pos hr, List.filter_cons_of_pos hr, List.map_append]; rfl
  · rw [if_neg hr, List.filter_cons_of_neg hr]; simp
theorem comes_pre (most : Int) (z : List (Int × Int)) (k : Nat) : comes most z k <+: comes most z z.length := by
  unfold comes
  rw [List.take_length]
  exact ((List.take_prefix k z).filter _).map _
set_option maxRecDepth 100000 in
set_option maxHeartbeats 4000000 in
theorem retired1_in (n : Nat) (hn : 1 ≤ n) (l B1 B2 n₀ cap : Nat) (ad : Addr) (g most : Int) (pv : Value) (z : List (Int × Int)) (hz : z.length ≤ 1000000) (hb : ad.block < n₀) (h1 : B1 < n₀) (h2 : B2 < n₀) (J Jx : List Int → World → Prop)
    (hY : ∀ pre x W, J pre W → pre.length < z.length + 1 → YieldAt Fence.wide (n - 1) Try.prog l #[.int .i64 x] W fun e W' =>
      (e = .returned (.bool true) ∧ J (pre ++ [x]) W' ∧ Below n₀ W W') ∨ (e = .returned (.bool false) ∧ Jx (pre ++ [x]) W'))
    (W : World) (hJa : AbidesFrom W.heap.size J) (hn0 : n₀ ≤ W.heap.size) (hB0 : W.cell? ⟨B1, 0, none⟩ = some (.int .i64 g)) (hB1 : W.cell? ⟨B1, 1, none⟩ = some pv) (hB2 : W.cell? ⟨B1, 2, none⟩ = some (.slice (some ad) z.length cap)) (hB3 : W.cell? ⟨B2, 0, none⟩ = some (.int .i64 most))
    (hc : ∀ j x, z[j]? = some x → W.cell? (ad.add (j * 2)) = some (.int .i64 x.1) ∧ W.cell? ((ad.add (j * 2)).add 1) = some (.int .i64 x.2)) (h0 : J [] W) :
    CallsIn Fence.wide n Try.prog 126 #[.func (.yield l) #[] #[], .pointer (some ⟨B1, 0, none⟩), .pointer (some ⟨B2, 0, none⟩)] W fun e W' => (∃ v, e = .returned v) ∧
      ((∃ ys, ys = comes most z z.length ∧ J ys W') ∨ (∃ pre, pre <+: comes most z z.length ∧ Jx pre W')) := by
  refine callsIn_of_wp Try.func126 rfl trivial ?_ rfl
  simp only [Try.ntmps126, List.size_toArray, List.length_cons, List.length_nil, Nat.reduceAdd, Nat.reduceSub, Array.replicate_succ, Array.replicate_zero, List.push_toArray, List.append_toArray, List.nil_append, List.cons_append]
  gi_wp2
  gi_loopw [9] (fun i wr => ∃ k : Nat, k ≤ z.length ∧ i = .int .i64 k ∧ J (comes most z k) wr ∧ Below n₀ W wr)
    (fun i _ => z.length - (intOf i).toNat)
  case atStart => exact ⟨0, Nat.zero_le _, rfl, h0, Below.refl _ _⟩
  case round =>
    obtain ⟨k, hk, rfl, hJs, hnx⟩ := hrel
    by_cases hlt : k < z.length
    · obtain ⟨c1, c2⟩ := hc k z[k] (List.getElem?_eq_getElem hlt)
      have hcx1 := (hnx.cell (p := ad.add (k * 2)) (by rw [add_block]; exact hb)).trans c1
      have hcx2 := (hnx.cell (p := (ad.add (k * 2)).add 1) (by rw [add_block, add_block]; exact hb)).trans c2
      replace hcx2 : wr.cell? { block := (ad.add (k * 2)).block, off := (ad.add (k * 2)).off + 1 } = some (.int .i64 z[k].2) := hcx2
      have hm := (hnx.cell (p := ⟨B2, 0, none⟩) h2).trans hB3
      have hwr : W.heap.size ≤ wr.heap.size := hnx.size
      have hm2 : (wr.alloc (.cells #[.int .i64 z[k].1, .int .i64 z[k].2] 104)).cell? ⟨B2, 0, none⟩ = some (.int .i64 most) := cell_kept hm (World.grownBy_alloc wr _ none) (fun r e => by cases e)
      have hJ2 : J (comes most z k) (wr.alloc (.cells #[.int .i64 z[k].1, .int .i64 z[k].2] 104)) := hJa _ _ _ none hJs (World.grownBy_alloc wr _ none) (fun r e => by cases e)
      have hb2 : Below n₀ W (wr.alloc (.cells #[.int .i64 z[k].1, .int .i64 z[k].2] 104)) := hnx.alloc (Nat.le_trans hn0 hwr) _
      have hcs := comes_succ most hlt
      have hln : (comes most z k).length < z.length + 1 := by
        unfold comes
        have := List.length_filter_le (rdy most) (z.take k)
        rw [List.length_take] at this
        rw [List.length_map]; omega
      by_cases hmo : z[k].2 ≤ most
      · rw [if_pos (show rdy most z[k] = true from decide_eq_true hmo)] at hcs
        obtain ⟨fn, tmps, assign, body, hy, hR⟩ := hY _ z[k].1 _ hJ2 hln
        gi_wp2
        refine hR.mono ?_
        rintro e W3 (⟨rfl, hJ3, hk3⟩ | ⟨rfl, hJx3⟩)
        · gi_wp2
          go_roundw
          case rel => exact ⟨k + 1, by omega, by simp, by rw [hcs]; exact hJ3, hb2.trans hk3⟩
          case measure => simp [intOf]; omega
        · gi_wp2
          refine bodyPost_ret (results_none rfl _ _ _) rfl ?_
          exact ⟨⟨_, rfl⟩, .inr ⟨_, by rw [← hcs]; exact comes_pre most z (k + 1), hJx3⟩⟩
      · rw [if_neg (by rw [show rdy most z[k] = false from decide_eq_false hmo]; decide)] at hcs
        have hmo' : most < z[k].2 := by omega
        gi_wp2
        refine ⟨fun _ h => (by cases h), ?_⟩
        gi_wp2
        go_roundw
        case rel => exact ⟨k + 1, by omega, by simp, by rw [hcs]; exact hJ2, hb2⟩
        case measure => simp [intOf]; omega
    · obtain rfl : k = z.length := by omega
      gi_wp2
      go_end0
      exact ⟨⟨_, rfl⟩, .inl ⟨_, rfl, hJs⟩⟩
end Go.Proofs.Ytijajfldpaadnaa.Ab
