/- Blocks as clients see them: commands in order; the awake check. -/
import Derived.Test.YtmooflgfcebmaaaMc
namespace Go.Proofs.Ytmooflgfcebmaaa.Ab
set_option linter.unusedVariables false
set_option linter.unusedSimpArgs false
open Go.RowKit

def mst (x : List ByteArray × List (Int × ByteArray)) (c : Cmd) : List ByteArray × List (Int × ByteArray) := ((mres x.1 c.k c.b c.s).1, x.2 ++ [(mres x.1 c.k c.b c.s).2])
def mrun (ss : List ByteArray) (cs : List Cmd) : List ByteArray × List (Int × ByteArray) := cs.foldl mst (ss, [])
theorem mrun_step {cs : List Cmd} {ss : List ByteArray} {k : Nat} {x : List ByteArray × List (Int × ByteArray)} (hlt : k < cs.length) (h : x = (cs.take k).foldl mst (ss, [])) : mst x cs[k] = (cs.take (k + 1)).foldl mst (ss, []) := by
  rw [List.take_succ_eq_append_getElem hlt, List.foldl_append, ← h]; rfl
theorem mst_len (cs : List Cmd) : ∀ (x : List ByteArray × List (Int × ByteArray)), (cs.foldl mst x).1.length = x.1.length ∧ (cs.foldl mst x).2.length = x.2.length + cs.length := by
  induction cs with
  | nil => intro x; simp
  | cons c cs ih => intro x; simp only [List.foldl_cons, ih]; simp [mst, mres_len]; omega
def minv (ss : List ByteArray) (cs : List Cmd) (x : Nat × (List ByteArray × List (Int × ByteArray))) : Prop := x.1 ≤ cs.length ∧ x.2 = (cs.take x.1).foldl mst (ss, [])

set_option maxRecDepth 100000 in
set_option maxHeartbeats 16000000 in
theorem runM (ss : List ByteArray) (cs : List Cmd) (hl : ss.length ≤ 8796093022208) (hc : cs.length ≤ 1000000) : Fun Try.prog 34 [slV (sV ss), slV (cR cs)] [] (.tup [slV (sV (mrun ss cs).1), slV (rR (mrun ss cs).2)]) := by
  refine fun_of_vc tabOk mixOk Try.func34 rfl (by rfl) (rs := [.tmp 4, .tmp 5]) rfl rfl 36 ?_; rw [Try.ntmps34]
  (conv => whnf); repeat (first | (refine And.intro rfl ?_; conv => whnf) | (refine And.intro (fun _ => ?_) (fun h => Bool.noConfusion h); conv => whnf) | (refine And.intro (fun h => Bool.noConfusion h) (fun _ => ?_); conv => whnf))
  refine ⟨_, _, mcloneF ss hl, ?_⟩
  (conv => whnf); repeat (first | (refine And.intro rfl ?_; conv => whnf) | (refine And.intro (fun _ => ?_) (fun h => Bool.noConfusion h); conv => whnf) | (refine And.intro (fun h => Bool.noConfusion h) (fun _ => ?_); conv => whnf))
  refine vc_loop [4, 5, 13, 14] [] (X := Nat × (List ByteArray × List (Int × ByteArray))) (fun x gs => [(15, ATint x.1), (6, .v (slV (sV x.2.1))), (7, .v (.c (.own 28 (gs 28))))]) (fun x gs => [(28, .row (gs 28) 36 2 (rR x.2.2))]) (minv ss cs) (fun x => cs.length - x.1) _ (Ghost.ownNil 7 28 36 2 rfl (Nat.le_of_ble_eq_true rfl)) (0, (ss, [])) ⟨by omega, by simp⟩ ?_ ?_
  · (refine And.intro rfl (And.intro rfl ?_)); (repeat' (first | exact trivial | exact rfl | apply And.intro | (refine congrArg (Value.int .i64) (w64_nat ?_); omega)))
  rintro gs ⟨k, ⟨cur, rs⟩⟩ ⟨hk, he⟩
  dsimp only at hk he ⊢
  have hlen := mst_len (cs.take k) (ss, [])
  rw [← he] at hlen
  simp only [List.length_take, List.length_nil] at hlen
  obtain ⟨hl1, hl2⟩ := hlen
  (conv => whnf); repeat (first | (refine And.intro rfl ?_; conv => whnf) | (refine And.intro (fun _ => ?_) (fun h => Bool.noConfusion h); conv => whnf) | (refine And.intro (fun h => Bool.noConfusion h) (fun _ => ?_); conv => whnf))
  refine And.intro (fun h => ?_) (fun h => ?_)
  · have hlt : k < cs.length := by have := of_decide_eq_true h; rw [mcLen] at this; omega
    (conv => whnf); repeat (first | (refine And.intro rfl ?_; conv => whnf) | (refine And.intro (fun _ => ?_) (fun h => Bool.noConfusion h); conv => whnf) | (refine And.intro (fun h => Bool.noConfusion h) (fun _ => ?_); conv => whnf))
    refine ⟨by omega, _, mcItem hlt, rfl, ?_⟩
    (conv => whnf); repeat (first | (refine And.intro rfl ?_; conv => whnf) | (refine And.intro (fun _ => ?_) (fun h => Bool.noConfusion h); conv => whnf) | (refine And.intro (fun h => Bool.noConfusion h) (fun _ => ?_); conv => whnf))
    refine ⟨_, _, applyM cur cs[k].k cs[k].b cs[k].s (by omega), ?_⟩
    (conv => whnf); repeat (first | (refine And.intro rfl ?_; conv => whnf) | (refine And.intro (fun _ => ?_) (fun h => Bool.noConfusion h); conv => whnf) | (refine And.intro (fun h => Bool.noConfusion h) (fun _ => ?_); conv => whnf))
    refine ⟨rSz [(_, _)], ?_⟩
    (conv => whnf); repeat (first | (refine And.intro rfl ?_; conv => whnf) | (refine And.intro (fun _ => ?_) (fun h => Bool.noConfusion h); conv => whnf) | (refine And.intro (fun h => Bool.noConfusion h) (fun _ => ?_); conv => whnf))
    refine ⟨bytes_le (by decide) (by simp [rR]; omega), ?_⟩
    (conv => whnf); repeat (first | (refine And.intro rfl ?_; conv => whnf) | (refine And.intro (fun _ => ?_) (fun h => Bool.noConfusion h); conv => whnf) | (refine And.intro (fun h => Bool.noConfusion h) (fun _ => ?_); conv => whnf))
    refine again (k + 1, mst (cur, rs) cs[k]) ⟨hlt, mrun_step hlt he⟩ (by dsimp only; omega) ?_
    (refine And.intro rfl (And.intro rfl ?_)); (repeat' (first | exact trivial | exact rfl | apply And.intro | (refine congrArg (Value.int .i64) (w64_nat ?_); omega)))
    all_goals exact congrArg (Blk.row _ _ _) (rSnoc rs _ _)
  · have hge : cs.length ≤ k := by have := of_decide_eq_false h; rw [mcLen] at this; omega
    have e : (cur, rs) = mrun ss cs := by rw [he, List.take_of_length_le hge]; rfl
    rw [← e]
    (conv => whnf); repeat (first | (refine And.intro rfl ?_; conv => whnf) | (refine And.intro (fun _ => ?_) (fun h => Bool.noConfusion h); conv => whnf) | (refine And.intro (fun h => Bool.noConfusion h) (fun _ => ?_); conv => whnf))
    refine Exists.intro [] (And.intro List.nodup_nil ?_); ((conv => whnf); repeat (first | (refine And.intro rfl ?_; conv => whnf) | (refine And.intro (fun _ => ?_) (fun h => Bool.noConfusion h); conv => whnf) | (refine And.intro (fun h => Bool.noConfusion h) (fun _ => ?_); conv => whnf)))
    rfl

set_option maxRecDepth 100000 in
set_option maxHeartbeats 16000000 in
theorem runR (ss : List ByteArray) (cs : List Cmd) (hl : ss.length ≤ 8796093022208) (hc : cs.length ≤ 1000000) : Fun Try.prog 35 [slV (sV ss), slV (cR cs)] [] (.tup [slV (sV (mrun ss cs).1), slV (rR (mrun ss cs).2)]) := by
  refine fun_of_vc tabOk mixOk Try.func35 rfl (by rfl) (rs := [.tmp 4, .tmp 5]) rfl rfl 36 ?_; rw [Try.ntmps35]
  (conv => whnf); repeat (first | (refine And.intro rfl ?_; conv => whnf) | (refine And.intro (fun _ => ?_) (fun h => Bool.noConfusion h); conv => whnf) | (refine And.intro (fun h => Bool.noConfusion h) (fun _ => ?_); conv => whnf))
  refine vc_loop [1, 4, 5] [] (X := Nat × (List ByteArray × List (Int × ByteArray))) (fun x gs => [(7, ATint x.1), (0, .v (slV (sV x.2.1))), (6, .v (.c (.own 29 (gs 29))))]) (fun x gs => [(29, .row (gs 29) 36 2 (rR x.2.2))]) (minv ss cs) (fun x => cs.length - x.1) _ (Ghost.ownNil 6 29 36 2 rfl (Nat.le_of_ble_eq_true rfl)) (0, (ss, [])) ⟨by omega, by simp⟩ ?_ ?_
  · (refine And.intro rfl (And.intro rfl ?_)); (repeat' (first | exact trivial | exact rfl | apply And.intro | (refine congrArg (Value.int .i64) (w64_nat ?_); omega)))
  rintro gs ⟨k, ⟨cur, rs⟩⟩ ⟨hk, he⟩
  dsimp only at hk he ⊢
  have hlen := mst_len (cs.take k) (ss, [])
  rw [← he] at hlen
  simp only [List.length_take, List.length_nil] at hlen
  obtain ⟨hl1, hl2⟩ := hlen
  (conv => whnf); repeat (first | (refine And.intro rfl ?_; conv => whnf) | (refine And.intro (fun _ => ?_) (fun h => Bool.noConfusion h); conv => whnf) | (refine And.intro (fun h => Bool.noConfusion h) (fun _ => ?_); conv => whnf))
  refine And.intro (fun h => ?_) (fun h => ?_)
  · have hlt : k < cs.length := by have := of_decide_eq_true h; rw [mcLen] at this; omega
    (conv => whnf); repeat (first | (refine And.intro rfl ?_; conv => whnf) | (refine And.intro (fun _ => ?_) (fun h => Bool.noConfusion h); conv => whnf) | (refine And.intro (fun h => Bool.noConfusion h) (fun _ => ?_); conv => whnf))
    refine ⟨by omega, _, mcItem hlt, rfl, ?_⟩
    (conv => whnf); repeat (first | (refine And.intro rfl ?_; conv => whnf) | (refine And.intro (fun _ => ?_) (fun h => Bool.noConfusion h); conv => whnf) | (refine And.intro (fun h => Bool.noConfusion h) (fun _ => ?_); conv => whnf))
    refine ⟨_, _, applyR cur cs[k].k cs[k].b cs[k].s (by omega), ?_⟩
    (conv => whnf); repeat (first | (refine And.intro rfl ?_; conv => whnf) | (refine And.intro (fun _ => ?_) (fun h => Bool.noConfusion h); conv => whnf) | (refine And.intro (fun h => Bool.noConfusion h) (fun _ => ?_); conv => whnf))
    refine ⟨rSz [(_, _)], ?_⟩
    (conv => whnf); repeat (first | (refine And.intro rfl ?_; conv => whnf) | (refine And.intro (fun _ => ?_) (fun h => Bool.noConfusion h); conv => whnf) | (refine And.intro (fun h => Bool.noConfusion h) (fun _ => ?_); conv => whnf))
    refine ⟨bytes_le (by decide) (by simp [rR]; omega), ?_⟩
    (conv => whnf); repeat (first | (refine And.intro rfl ?_; conv => whnf) | (refine And.intro (fun _ => ?_) (fun h => Bool.noConfusion h); conv => whnf) | (refine And.intro (fun h => Bool.noConfusion h) (fun _ => ?_); conv => whnf))
    refine again (k + 1, mst (cur, rs) cs[k]) ⟨hlt, mrun_step hlt he⟩ (by dsimp only; omega) ?_
    (refine And.intro rfl (And.intro rfl ?_)); (repeat' (first | exact trivial | exact rfl | apply And.intro | (refine congrArg (Value.int .i64) (w64_nat ?_); omega)))
    all_goals exact congrArg (Blk.row _ _ _) (rSnoc rs _ _)
  · have hge : cs.length ≤ k := by have := of_decide_eq_false h; rw [mcLen] at this; omega
    have e : (cur, rs) = mrun ss cs := by rw [he, List.take_of_length_le hge]; rfl
    rw [← e]
    (conv => whnf); repeat (first | (refine And.intro rfl ?_; conv => whnf) | (refine And.intro (fun _ => ?_) (fun h => Bool.noConfusion h); conv => whnf) | (refine And.intro (fun h => Bool.noConfusion h) (fun _ => ?_); conv => whnf))
    refine Exists.intro [] (And.intro List.nodup_nil ?_); ((conv => whnf); repeat (first | (refine And.intro rfl ?_; conv => whnf) | (refine And.intro (fun _ => ?_) (fun h => Bool.noConfusion h); conv => whnf) | (refine And.intro (fun h => Bool.noConfusion h) (fun _ => ?_); conv => whnf)))
    rfl

theorem mrun3 (v : ByteArray) (hv : v.size = 16) : mrun (mnew 2) [⟨2, 1, v⟩, ⟨1, 1, ByteArray.empty⟩, ⟨1, 2, ByteArray.empty⟩] = ([zeroS, v], [(0, ByteArray.empty), (0, v), (1, ByteArray.empty)]) := by
  have e0 : mnew 2 = [zeroS, zeroS] := by rfl
  have e1 : mres [zeroS, zeroS] 2 1 v = ([zeroS, v], (0, ByteArray.empty)) := by
    unfold mres
    rw [if_neg (by simp [chk, hv])]
    rfl
  have e2 : mres [zeroS, v] 1 1 ByteArray.empty = ([zeroS, v], (0, v)) := by
    unfold mres
    rw [if_neg (by simp [chk])]
    rfl
  have e3 : mres [zeroS, v] 1 2 ByteArray.empty = ([zeroS, v], (1, ByteArray.empty)) := by
    have h : chk ([zeroS, v] : List ByteArray).length 1 2 ByteArray.empty.size = 1 := by simp [chk]
    unfold mres
    rw [h]
    rfl
  rw [e0]
  simp only [mrun, List.foldl_cons, List.foldl_nil, mst, e1, e2, e3]
  rfl
set_option maxRecDepth 100000 in
set_option maxHeartbeats 16000000 in
theorem mdAwake : Fun Try.prog 31 [] [] (ATbool true) := by
  have hv := vval_size 3
  have h3 := mrun3 (vval 3) hv
  have hr := runM (mnew 2) [⟨2, 1, vval 3⟩, ⟨1, 1, ByteArray.empty⟩, ⟨1, 2, ByteArray.empty⟩] (Nat.le_trans mnew_len (by decide)) (by decide)
  rw [h3] at hr
  have hval := valF 3
  generalize vval 3 = v at *
  refine fun_of_vc tabOk mixOk Try.func31 rfl (by rfl) (rs := [.tmp 0]) rfl rfl 50 ?_; rw [Try.ntmps31]
  (conv => whnf); repeat (first | (refine And.intro rfl ?_; conv => whnf) | (refine And.intro (fun _ => ?_) (fun h => Bool.noConfusion h); conv => whnf) | (refine And.intro (fun h => Bool.noConfusion h) (fun _ => ?_); conv => whnf))
  refine ⟨_, _, newFzeroF 2, ?_⟩
  (conv => whnf); repeat (first | (refine And.intro rfl ?_; conv => whnf) | (refine And.intro (fun _ => ?_) (fun h => Bool.noConfusion h); conv => whnf) | (refine And.intro (fun h => Bool.noConfusion h) (fun _ => ?_); conv => whnf))
  refine ⟨_, _, hval, ?_⟩
  (conv => whnf); repeat (first | (refine And.intro rfl ?_; conv => whnf) | (refine And.intro (fun _ => ?_) (fun h => Bool.noConfusion h); conv => whnf) | (refine And.intro (fun h => Bool.noConfusion h) (fun _ => ?_); conv => whnf))
  refine ⟨_, _, hr, ?_⟩
  (conv => whnf); repeat (first | (refine And.intro rfl ?_; conv => whnf) | (refine And.intro (fun _ => ?_) (fun h => Bool.noConfusion h); conv => whnf) | (refine And.intro (fun h => Bool.noConfusion h) (fun _ => ?_); conv => whnf))
  refine ⟨by decide, _, rfl, rfl, ?_⟩
  (conv => whnf); repeat (first | (refine And.intro rfl ?_; conv => whnf) | (refine And.intro (fun _ => ?_) (fun h => Bool.noConfusion h); conv => whnf) | (refine And.intro (fun h => Bool.noConfusion h) (fun _ => ?_); conv => whnf))
  refine And.intro (fun _ => ?_) (fun h => by simp at h)
  (conv => whnf); repeat (first | (refine And.intro rfl ?_; conv => whnf) | (refine And.intro (fun _ => ?_) (fun h => Bool.noConfusion h); conv => whnf) | (refine And.intro (fun h => Bool.noConfusion h) (fun _ => ?_); conv => whnf))
  refine ⟨by decide, _, rfl, rfl, ?_⟩
  (conv => whnf); repeat (first | (refine And.intro rfl ?_; conv => whnf) | (refine And.intro (fun _ => ?_) (fun h => Bool.noConfusion h); conv => whnf) | (refine And.intro (fun h => Bool.noConfusion h) (fun _ => ?_); conv => whnf))
  refine And.intro (fun _ => ?_) (fun h => by simp at h)
  (conv => whnf); repeat (first | (refine And.intro rfl ?_; conv => whnf) | (refine And.intro (fun _ => ?_) (fun h => Bool.noConfusion h); conv => whnf) | (refine And.intro (fun h => Bool.noConfusion h) (fun _ => ?_); conv => whnf))
  refine ⟨by decide, _, rfl, rfl, ?_⟩
  (conv => whnf); repeat (first | (refine And.intro rfl ?_; conv => whnf) | (refine And.intro (fun _ => ?_) (fun h => Bool.noConfusion h); conv => whnf) | (refine And.intro (fun h => Bool.noConfusion h) (fun _ => ?_); conv => whnf))
  refine Exists.intro [] (And.intro List.nodup_nil ?_); ((conv => whnf); repeat (first | (refine And.intro rfl ?_; conv => whnf) | (refine And.intro (fun _ => ?_) (fun h => Bool.noConfusion h); conv => whnf) | (refine And.intro (fun h => Bool.noConfusion h) (fun _ => ?_); conv => whnf)))
  rfl

set_option maxRecDepth 100000 in
set_option maxHeartbeats 16000000 in
theorem mlightF (ss : List ByteArray) (hl : ss.length ≤ 8796093022208) : ∃ b : Bool, Fun Try.prog 30 [slV (sV ss)] [] (ATbool b) := by
  let st : Int → ByteArray → Int := fun n s => iwrap .i64 (iwrap .i64 (n + 4) + s.size)
  refine ⟨decide (ss.foldl st 0 ≤ 4000), ?_⟩
  refine fun_of_vc tabOk mixOk Try.func30 rfl (by rfl) (rs := [.tmp 2]) rfl rfl 25 ?_; rw [Try.ntmps30]
  (conv => whnf); repeat (first | (refine And.intro rfl ?_; conv => whnf) | (refine And.intro (fun _ => ?_) (fun h => Bool.noConfusion h); conv => whnf) | (refine And.intro (fun h => Bool.noConfusion h) (fun _ => ?_); conv => whnf))
  refine vc_loop [0, 2] [] (X := Nat × Int) (fun x gs => [(4, ATint x.1), (3, .v (i64V x.2))]) (fun _ _ => []) (fun x => x.1 ≤ ss.length ∧ x.2 = (ss.take x.1).foldl st 0) (fun x => ss.length - x.1) _ (Ghost.refl _) (0, 0) ⟨by omega, by simp⟩ ?_ ?_
  · (refine And.intro rfl (And.intro rfl ?_)); (repeat' (first | exact trivial | exact rfl | apply And.intro | (refine congrArg (Value.int .i64) (w64_nat ?_); omega)))
  rintro gs ⟨k, n⟩ ⟨hk, he⟩
  dsimp only at hk he ⊢
  (conv => whnf); repeat (first | (refine And.intro rfl ?_; conv => whnf) | (refine And.intro (fun _ => ?_) (fun h => Bool.noConfusion h); conv => whnf) | (refine And.intro (fun h => Bool.noConfusion h) (fun _ => ?_); conv => whnf))
  refine And.intro (fun h => ?_) (fun h => ?_)
  · have hlt : k < ss.length := by have := of_decide_eq_true h; rw [sLen] at this; omega
    (conv => whnf); repeat (first | (refine And.intro rfl ?_; conv => whnf) | (refine And.intro (fun _ => ?_) (fun h => Bool.noConfusion h); conv => whnf) | (refine And.intro (fun h => Bool.noConfusion h) (fun _ => ?_); conv => whnf))
    refine ⟨by omega, _, sItem hlt, rfl, ?_⟩
    (conv => whnf); repeat (first | (refine And.intro rfl ?_; conv => whnf) | (refine And.intro (fun _ => ?_) (fun h => Bool.noConfusion h); conv => whnf) | (refine And.intro (fun h => Bool.noConfusion h) (fun _ => ?_); conv => whnf))
    refine again (k + 1, st n ss[k]) ⟨hlt, by dsimp only; rw [List.take_succ_eq_append_getElem hlt, List.foldl_append, ← he]; rfl⟩ (by dsimp only; omega) ?_
    (refine And.intro rfl (And.intro rfl ?_)); (repeat' (first | exact trivial | exact rfl | apply And.intro | (refine congrArg (Value.int .i64) (w64_nat ?_); omega)))
  · have hge : ss.length ≤ k := by have := of_decide_eq_false h; rw [sLen] at this; omega
    (conv => whnf); repeat (first | (refine And.intro rfl ?_; conv => whnf) | (refine And.intro (fun _ => ?_) (fun h => Bool.noConfusion h); conv => whnf) | (refine And.intro (fun h => Bool.noConfusion h) (fun _ => ?_); conv => whnf))
    refine Exists.intro [] (And.intro List.nodup_nil ?_); ((conv => whnf); repeat (first | (refine And.intro rfl ?_; conv => whnf) | (refine And.intro (fun _ => ?_) (fun h => Bool.noConfusion h); conv => whnf) | (refine And.intro (fun h => Bool.noConfusion h) (fun _ => ?_); conv => whnf)))
    rw [he, List.take_of_length_le hge]
    rfl
end Go.Proofs.Ytmooflgfcebmaaa.Ab
