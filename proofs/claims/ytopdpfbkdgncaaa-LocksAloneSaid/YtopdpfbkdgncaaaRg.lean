/- The submission queues: all functions of the program's text. -/
import Derived.Test.YtopdpfbkdgncaaaRv
namespace Go.Proofs.Ytopdpfbkdgncaaa.Ab
set_option linter.unusedVariables false
set_option linter.unusedSimpArgs false
open Go.RowKit

def slV (es : List (List IV)) : AV := .c (.i (.sl es))
def rqV (r : Rq) : AV := .agg (r.cs.map .i)
def rq0 : Rq := ⟨0, 0, 0, ⟨#[]⟩⟩
def i64V (n : Int) : AV := .c (.i (.sc (.int .i64 n)))
def bV (b : Bool) : AV := .c (.i (.sc (.bool b)))

theorem bytes_le {l b : Nat} (hb : b ≤ 1000) (hl : l ≤ 2000000) : l * b ≤ 140737488355328 := Nat.le_trans (Nat.mul_le_mul hl hb) (by decide)

set_option maxRecDepth 100000 in
set_option maxHeartbeats 4000000 in
theorem cloneRq (es : List (List IV)) (h4 : ∀ e ∈ es, e.length = 4) (hl : es.length ≤ 1000000) : Fun Try.prog 60 [slV es] [] (.v (slV es)) := by
  cases es with
  | nil =>
    refine fun_of_vc tabOk mixOk Try.func60 rfl (by rfl) (rs := [.tmp 2]) rfl rfl 12 ?_; rw [Try.ntmps60]
    (conv => whnf); repeat (first | (refine And.intro rfl ?_; conv => whnf) | (refine And.intro (fun _ => ?_) (fun h => Bool.noConfusion h); conv => whnf) | (refine And.intro (fun h => Bool.noConfusion h) (fun _ => ?_); conv => whnf))
    refine ⟨?_, ?_⟩
    · (conv => whnf); repeat (first | (refine And.intro rfl ?_; conv => whnf) | (refine And.intro (fun _ => ?_) (fun h => Bool.noConfusion h); conv => whnf) | (refine And.intro (fun h => Bool.noConfusion h) (fun _ => ?_); conv => whnf))
      refine Exists.intro [] (And.intro List.nodup_nil ?_); ((conv => whnf); repeat (first | (refine And.intro rfl ?_; conv => whnf) | (refine And.intro (fun _ => ?_) (fun h => Bool.noConfusion h); conv => whnf) | (refine And.intro (fun h => Bool.noConfusion h) (fun _ => ?_); conv => whnf)))
      rfl
    · (conv => whnf); repeat (first | (refine And.intro rfl ?_; conv => whnf) | (refine And.intro (fun _ => ?_) (fun h => Bool.noConfusion h); conv => whnf) | (refine And.intro (fun h => Bool.noConfusion h) (fun _ => ?_); conv => whnf))
      refine ⟨h4, ?_⟩
      (conv => whnf); repeat (first | (refine And.intro rfl ?_; conv => whnf) | (refine And.intro (fun _ => ?_) (fun h => Bool.noConfusion h); conv => whnf) | (refine And.intro (fun h => Bool.noConfusion h) (fun _ => ?_); conv => whnf))
      refine ⟨bytes_le (by decide) (by simp), ?_⟩
      (conv => whnf); repeat (first | (refine And.intro rfl ?_; conv => whnf) | (refine And.intro (fun _ => ?_) (fun h => Bool.noConfusion h); conv => whnf) | (refine And.intro (fun h => Bool.noConfusion h) (fun _ => ?_); conv => whnf))
      refine Exists.intro [] (And.intro List.nodup_nil ?_); ((conv => whnf); repeat (first | (refine And.intro rfl ?_; conv => whnf) | (refine And.intro (fun _ => ?_) (fun h => Bool.noConfusion h); conv => whnf) | (refine And.intro (fun h => Bool.noConfusion h) (fun _ => ?_); conv => whnf)))
      rfl
  | cons e es =>
    refine fun_of_vc tabOk mixOk Try.func60 rfl (by rfl) (rs := [.tmp 2]) rfl rfl 12 ?_; rw [Try.ntmps60]
    (conv => whnf); repeat (first | (refine And.intro rfl ?_; conv => whnf) | (refine And.intro (fun _ => ?_) (fun h => Bool.noConfusion h); conv => whnf) | (refine And.intro (fun h => Bool.noConfusion h) (fun _ => ?_); conv => whnf))
    refine ⟨h4, ?_⟩
    (conv => whnf); repeat (first | (refine And.intro rfl ?_; conv => whnf) | (refine And.intro (fun _ => ?_) (fun h => Bool.noConfusion h); conv => whnf) | (refine And.intro (fun h => Bool.noConfusion h) (fun _ => ?_); conv => whnf))
    refine ⟨bytes_le (by decide) (by simp at hl ⊢; omega), ?_⟩
    (conv => whnf); repeat (first | (refine And.intro rfl ?_; conv => whnf) | (refine And.intro (fun _ => ?_) (fun h => Bool.noConfusion h); conv => whnf) | (refine And.intro (fun h => Bool.noConfusion h) (fun _ => ?_); conv => whnf))
    refine Exists.intro [] (And.intro List.nodup_nil ?_); ((conv => whnf); repeat (first | (refine And.intro rfl ?_; conv => whnf) | (refine And.intro (fun _ => ?_) (fun h => Bool.noConfusion h); conv => whnf) | (refine And.intro (fun h => Bool.noConfusion h) (fun _ => ?_); conv => whnf)))
    rfl
theorem rq4 (xs : List Rq) : ∀ e ∈ xs.map Rq.cs, e.length = 4 := by
  intro e he
  obtain ⟨r, _, rfl⟩ := List.mem_map.1 he
  rfl

set_option maxRecDepth 100000 in
set_option maxHeartbeats 4000000 in
theorem rclone (d : Int) (xs : List Rq) (hl : xs.length ≤ 1000000) : Fun Try.prog 50 [ringV d xs] [] (.v (ringV d xs)) := by
  refine fun_of_vc tabOk mixOk Try.func50 rfl (by rfl) (rs := [.cell 2 46]) rfl rfl 13 ?_; rw [Try.ntmps50]
  (conv => whnf); repeat (first | (refine And.intro rfl ?_; conv => whnf) | (refine And.intro (fun _ => ?_) (fun h => Bool.noConfusion h); conv => whnf) | (refine And.intro (fun h => Bool.noConfusion h) (fun _ => ?_); conv => whnf))
  refine ⟨_, _, cloneRq (xs.map Rq.cs) (rq4 xs) (by simpa using hl), ?_⟩
  (conv => whnf); repeat (first | (refine And.intro rfl ?_; conv => whnf) | (refine And.intro (fun _ => ?_) (fun h => Bool.noConfusion h); conv => whnf) | (refine And.intro (fun h => Bool.noConfusion h) (fun _ => ?_); conv => whnf))
  refine Exists.intro [] (And.intro List.nodup_nil ?_); ((conv => whnf); repeat (first | (refine And.intro rfl ?_; conv => whnf) | (refine And.intro (fun _ => ?_) (fun h => Bool.noConfusion h); conv => whnf) | (refine And.intro (fun h => Bool.noConfusion h) (fun _ => ?_); conv => whnf)))
  rfl


theorem rvalid_nil (d : Int) : rvalid d [] = decide (1 ≤ d ∧ d ≤ 8) := by
  unfold rvalid
  simp only [asc, Bool.and_true, List.length_nil]
  by_cases h : 1 ≤ d ∧ d ≤ 8
  · rw [decide_eq_true h, decide_eq_true (by omega)]
  · rw [decide_eq_false h, decide_eq_false (by omega)]

set_option maxRecDepth 100000 in
set_option maxHeartbeats 4000000 in
theorem rnew (d : Int) : Fun Try.prog 27 [i64V d] [] (.tup (if 1 ≤ d ∧ d ≤ 8 then [ringV d [], i64V 0] else [ringV 0 [], i64V 1])) := by
  refine fun_of_vc tabOk mixOk Try.func27 rfl (by rfl) (rs := [.cell 2 46, .tmp 3]) rfl rfl 16 ?_; rw [Try.ntmps27]
  (conv => whnf); repeat (first | (refine And.intro rfl ?_; conv => whnf) | (refine And.intro (fun _ => ?_) (fun h => Bool.noConfusion h); conv => whnf) | (refine And.intro (fun h => Bool.noConfusion h) (fun _ => ?_); conv => whnf))
  refine ⟨_, _, ringvalid d [] (by simp), ?_⟩
  (conv => whnf); repeat (first | (refine And.intro rfl ?_; conv => whnf) | (refine And.intro (fun _ => ?_) (fun h => Bool.noConfusion h); conv => whnf) | (refine And.intro (fun h => Bool.noConfusion h) (fun _ => ?_); conv => whnf))
  refine And.intro (fun h1 => ?_) (fun h1 => ?_)
  · have h : ¬ (1 ≤ d ∧ d ≤ 8) := by rw [rvalid_nil] at h1; simp at h1; omega
    (conv => whnf); repeat (first | (refine And.intro rfl ?_; conv => whnf) | (refine And.intro (fun _ => ?_) (fun h => Bool.noConfusion h); conv => whnf) | (refine And.intro (fun h => Bool.noConfusion h) (fun _ => ?_); conv => whnf))
    refine Exists.intro [] (And.intro List.nodup_nil ?_); ((conv => whnf); repeat (first | (refine And.intro rfl ?_; conv => whnf) | (refine And.intro (fun _ => ?_) (fun h => Bool.noConfusion h); conv => whnf) | (refine And.intro (fun h => Bool.noConfusion h) (fun _ => ?_); conv => whnf)))
    rw [if_neg h]; rfl
  · have h : 1 ≤ d ∧ d ≤ 8 := by rw [rvalid_nil] at h1; simpa using h1
    (conv => whnf); repeat (first | (refine And.intro rfl ?_; conv => whnf) | (refine And.intro (fun _ => ?_) (fun h => Bool.noConfusion h); conv => whnf) | (refine And.intro (fun h => Bool.noConfusion h) (fun _ => ?_); conv => whnf))
    refine Exists.intro [] (And.intro List.nodup_nil ?_); ((conv => whnf); repeat (first | (refine And.intro rfl ?_; conv => whnf) | (refine And.intro (fun _ => ?_) (fun h => Bool.noConfusion h); conv => whnf) | (refine And.intro (fun h => Bool.noConfusion h) (fun _ => ?_); conv => whnf)))
    rw [if_pos h]; rfl

theorem subfin (xs : List Rq) (x : Rq) : List.drop (Int.toNat 0) (List.take ((xs.map Rq.cs).length : Int).toNat (xs.map Rq.cs)) ++ [x.cs] = (xs ++ [x]).map Rq.cs := by
  simp only [Int.toNat_natCast, Int.toNat_zero, List.drop_zero, List.take_length, List.map_append, List.map_cons, List.map_nil]

/-- What submitting answers. -/
def lastS (xs : List Rq) : Int := (xs.getLast?.map Rq.serial).getD 0
def rsub (d : Int) (xs : List Rq) (x : Rq) : List Rq × Int :=
  if rvalid d xs = false then (xs, 6) else if (xs.length : Int) = d then (xs, 13) else if x.serial < 0 ∨ (0 < xs.length ∧ x.serial ≤ lastS xs) then (xs, 17) else (xs ++ [x], 0)

set_option maxRecDepth 100000 in
set_option maxHeartbeats 4000000 in
theorem rsubmit (d : Int) (xs : List Rq) (x : Rq) (hl : xs.length ≤ 1000000) : Fun Try.prog 32 [ringV d xs, rqV x] [] (.tup [ringV d (rsub d xs x).1, i64V (rsub d xs x).2]) := by
  refine fun_of_vc tabOk mixOk Try.func32 rfl (by rfl) (rs := [.cell 4 46, .tmp 5]) rfl rfl 65 ?_; rw [Try.ntmps32]
  (conv => whnf); repeat (first | (refine And.intro rfl ?_; conv => whnf) | (refine And.intro (fun _ => ?_) (fun h => Bool.noConfusion h); conv => whnf) | (refine And.intro (fun h => Bool.noConfusion h) (fun _ => ?_); conv => whnf))
  refine ⟨_, _, rclone d xs hl, ?_⟩
  (conv => whnf); repeat (first | (refine And.intro rfl ?_; conv => whnf) | (refine And.intro (fun _ => ?_) (fun h => Bool.noConfusion h); conv => whnf) | (refine And.intro (fun h => Bool.noConfusion h) (fun _ => ?_); conv => whnf))
  refine ⟨_, _, ringvalid d xs hl, ?_⟩
  (conv => whnf); repeat (first | (refine And.intro rfl ?_; conv => whnf) | (refine And.intro (fun _ => ?_) (fun h => Bool.noConfusion h); conv => whnf) | (refine And.intro (fun h => Bool.noConfusion h) (fun _ => ?_); conv => whnf))
  refine And.intro (fun h1 => ?_) (fun h1 => ?_)
  · have : rsub d xs x = (xs, 6) := by unfold rsub; simp at h1; simp [h1]
    (conv => whnf); repeat (first | (refine And.intro rfl ?_; conv => whnf) | (refine And.intro (fun _ => ?_) (fun h => Bool.noConfusion h); conv => whnf) | (refine And.intro (fun h => Bool.noConfusion h) (fun _ => ?_); conv => whnf))
    refine Exists.intro [] (And.intro List.nodup_nil ?_); ((conv => whnf); repeat (first | (refine And.intro rfl ?_; conv => whnf) | (refine And.intro (fun _ => ?_) (fun h => Bool.noConfusion h); conv => whnf) | (refine And.intro (fun h => Bool.noConfusion h) (fun _ => ?_); conv => whnf)))
    rw [this]; rfl
  (conv => whnf); repeat (first | (refine And.intro rfl ?_; conv => whnf) | (refine And.intro (fun _ => ?_) (fun h => Bool.noConfusion h); conv => whnf) | (refine And.intro (fun h => Bool.noConfusion h) (fun _ => ?_); conv => whnf))
  refine And.intro (fun h2 => ?_) (fun h2 => ?_)
  · have : rsub d xs x = (xs, 13) := by unfold rsub; simp at h1 h2; simp [h1, h2]
    (conv => whnf); repeat (first | (refine And.intro rfl ?_; conv => whnf) | (refine And.intro (fun _ => ?_) (fun h => Bool.noConfusion h); conv => whnf) | (refine And.intro (fun h => Bool.noConfusion h) (fun _ => ?_); conv => whnf))
    refine Exists.intro [] (And.intro List.nodup_nil ?_); ((conv => whnf); repeat (first | (refine And.intro rfl ?_; conv => whnf) | (refine And.intro (fun _ => ?_) (fun h => Bool.noConfusion h); conv => whnf) | (refine And.intro (fun h => Bool.noConfusion h) (fun _ => ?_); conv => whnf)))
    rw [this]; rfl
  (conv => whnf); repeat (first | (refine And.intro rfl ?_; conv => whnf) | (refine And.intro (fun _ => ?_) (fun h => Bool.noConfusion h); conv => whnf) | (refine And.intro (fun h => Bool.noConfusion h) (fun _ => ?_); conv => whnf))
  refine And.intro (fun h3 => ?_) (fun h3 => ?_)
  · have : rsub d xs x = (xs, 17) := by unfold rsub; simp at h1 h2 h3; simp [h1, h2, h3]
    (conv => whnf); repeat (first | (refine And.intro rfl ?_; conv => whnf) | (refine And.intro (fun _ => ?_) (fun h => Bool.noConfusion h); conv => whnf) | (refine And.intro (fun h => Bool.noConfusion h) (fun _ => ?_); conv => whnf))
    refine Exists.intro [] (And.intro List.nodup_nil ?_); ((conv => whnf); repeat (first | (refine And.intro rfl ?_; conv => whnf) | (refine And.intro (fun _ => ?_) (fun h => Bool.noConfusion h); conv => whnf) | (refine And.intro (fun h => Bool.noConfusion h) (fun _ => ?_); conv => whnf)))
    rw [this]; rfl
  (conv => whnf); repeat (first | (refine And.intro rfl ?_; conv => whnf) | (refine And.intro (fun _ => ?_) (fun h => Bool.noConfusion h); conv => whnf) | (refine And.intro (fun h => Bool.noConfusion h) (fun _ => ?_); conv => whnf))
  refine And.intro (fun h4 => ?_) (fun h4 => ?_)
  · have h5 : 0 < xs.length := by simp at h4; omega
    (conv => whnf); repeat (first | (refine And.intro rfl ?_; conv => whnf) | (refine And.intro (fun _ => ?_) (fun h => Bool.noConfusion h); conv => whnf) | (refine And.intro (fun h => Bool.noConfusion h) (fun _ => ?_); conv => whnf))
    have hw : iwrap .i64 (((xs.map Rq.cs).length : Int) - 1) = ((xs.length - 1 : Nat) : Int) := by
      show w64 _ = _
      rw [w64_in (by simp; omega)]; simp; omega
    rw [hw]
    refine ⟨by omega, (xs[xs.length - 1]'(by omega)).cs, by simp [show xs.length - 1 < xs.length by omega], rfl, ?_⟩
    (conv => whnf); repeat (first | (refine And.intro rfl ?_; conv => whnf) | (refine And.intro (fun _ => ?_) (fun h => Bool.noConfusion h); conv => whnf) | (refine And.intro (fun h => Bool.noConfusion h) (fun _ => ?_); conv => whnf))
    have hlast : lastS xs = (xs[xs.length - 1]'(by omega)).serial := by
      unfold lastS
      rw [List.getLast?_eq_getElem?, List.getElem?_eq_getElem (by omega)]; rfl
    refine And.intro (fun h6 => ?_) (fun h6 => ?_)
    · have : rsub d xs x = (xs, 17) := by unfold rsub; rw [hlast]; simp at h1 h2 h3 h6; simp [h1, h2, h3, h5, h6]
      (conv => whnf); repeat (first | (refine And.intro rfl ?_; conv => whnf) | (refine And.intro (fun _ => ?_) (fun h => Bool.noConfusion h); conv => whnf) | (refine And.intro (fun h => Bool.noConfusion h) (fun _ => ?_); conv => whnf))
      refine Exists.intro [] (And.intro List.nodup_nil ?_); ((conv => whnf); repeat (first | (refine And.intro rfl ?_; conv => whnf) | (refine And.intro (fun _ => ?_) (fun h => Bool.noConfusion h); conv => whnf) | (refine And.intro (fun h => Bool.noConfusion h) (fun _ => ?_); conv => whnf)))
      rw [this]; rfl
    · have : rsub d xs x = (xs ++ [x], 0) := by unfold rsub; rw [hlast]; simp at h1 h2 h3 h6; rw [if_neg (by simp [h1]), if_neg h2, if_neg (by omega)]
      (conv => whnf); repeat (first | (refine And.intro rfl ?_; conv => whnf) | (refine And.intro (fun _ => ?_) (fun h => Bool.noConfusion h); conv => whnf) | (refine And.intro (fun h => Bool.noConfusion h) (fun _ => ?_); conv => whnf))
      refine ⟨rq4 xs, ?_⟩
      (conv => whnf); repeat (first | (refine And.intro rfl ?_; conv => whnf) | (refine And.intro (fun _ => ?_) (fun h => Bool.noConfusion h); conv => whnf) | (refine And.intro (fun h => Bool.noConfusion h) (fun _ => ?_); conv => whnf))
      refine ⟨by omega, by omega, rfl, by simp, ?_⟩
      (conv => whnf); repeat (first | (refine And.intro rfl ?_; conv => whnf) | (refine And.intro (fun _ => ?_) (fun h => Bool.noConfusion h); conv => whnf) | (refine And.intro (fun h => Bool.noConfusion h) (fun _ => ?_); conv => whnf))
      refine ⟨fun z hz => ?_, ?_⟩
      · obtain rfl := List.mem_singleton.1 hz; rfl
      (conv => whnf); repeat (first | (refine And.intro rfl ?_; conv => whnf) | (refine And.intro (fun _ => ?_) (fun h => Bool.noConfusion h); conv => whnf) | (refine And.intro (fun h => Bool.noConfusion h) (fun _ => ?_); conv => whnf))
      refine ⟨Nat.succ_pos _, fun z hz => rq4 xs z (List.mem_of_mem_take (List.mem_of_mem_drop hz)), bytes_le (by decide) (by simp; omega), ?_⟩
      (conv => whnf); repeat (first | (refine And.intro rfl ?_; conv => whnf) | (refine And.intro (fun _ => ?_) (fun h => Bool.noConfusion h); conv => whnf) | (refine And.intro (fun h => Bool.noConfusion h) (fun _ => ?_); conv => whnf))
      refine Exists.intro [] (And.intro List.nodup_nil ?_); ((conv => whnf); repeat (first | (refine And.intro rfl ?_; conv => whnf) | (refine And.intro (fun _ => ?_) (fun h => Bool.noConfusion h); conv => whnf) | (refine And.intro (fun h => Bool.noConfusion h) (fun _ => ?_); conv => whnf)))
      rw [this]; exact congrArg (fun l => AT.tup [.agg [.i (.sc (.int .i64 d)), .i (.sl l)], i64V 0]) (subfin xs x)
  · have h5 : xs.length = 0 := by have := of_decide_eq_false h4; rw [List.length_map] at this; omega
    have : rsub d xs x = (xs ++ [x], 0) := by unfold rsub; simp at h1 h2 h3; rw [if_neg (by simp [h1]), if_neg h2, if_neg (by omega)]
    (conv => whnf); repeat (first | (refine And.intro rfl ?_; conv => whnf) | (refine And.intro (fun _ => ?_) (fun h => Bool.noConfusion h); conv => whnf) | (refine And.intro (fun h => Bool.noConfusion h) (fun _ => ?_); conv => whnf))
    refine ⟨rq4 xs, ?_⟩
    (conv => whnf); repeat (first | (refine And.intro rfl ?_; conv => whnf) | (refine And.intro (fun _ => ?_) (fun h => Bool.noConfusion h); conv => whnf) | (refine And.intro (fun h => Bool.noConfusion h) (fun _ => ?_); conv => whnf))
    refine ⟨by omega, by omega, rfl, by simp, ?_⟩
    (conv => whnf); repeat (first | (refine And.intro rfl ?_; conv => whnf) | (refine And.intro (fun _ => ?_) (fun h => Bool.noConfusion h); conv => whnf) | (refine And.intro (fun h => Bool.noConfusion h) (fun _ => ?_); conv => whnf))
    refine ⟨fun z hz => ?_, ?_⟩
    · obtain rfl := List.mem_singleton.1 hz; rfl
    (conv => whnf); repeat (first | (refine And.intro rfl ?_; conv => whnf) | (refine And.intro (fun _ => ?_) (fun h => Bool.noConfusion h); conv => whnf) | (refine And.intro (fun h => Bool.noConfusion h) (fun _ => ?_); conv => whnf))
    refine ⟨Nat.succ_pos _, fun z hz => rq4 xs z (List.mem_of_mem_take (List.mem_of_mem_drop hz)), bytes_le (by decide) (by simp; omega), ?_⟩
    (conv => whnf); repeat (first | (refine And.intro rfl ?_; conv => whnf) | (refine And.intro (fun _ => ?_) (fun h => Bool.noConfusion h); conv => whnf) | (refine And.intro (fun h => Bool.noConfusion h) (fun _ => ?_); conv => whnf))
    refine Exists.intro [] (And.intro List.nodup_nil ?_); ((conv => whnf); repeat (first | (refine And.intro rfl ?_; conv => whnf) | (refine And.intro (fun _ => ?_) (fun h => Bool.noConfusion h); conv => whnf) | (refine And.intro (fun h => Bool.noConfusion h) (fun _ => ?_); conv => whnf)))
    rw [this]; exact congrArg (fun l => AT.tup [.agg [.i (.sc (.int .i64 d)), .i (.sl l)], i64V 0]) (subfin xs x)
theorem takefin (x : Rq) (xs : List Rq) : List.drop (Int.toNat 1) (List.take (((x :: xs).map Rq.cs).length : Int).toNat ((x :: xs).map Rq.cs)) = xs.map Rq.cs := by
  rw [Int.toNat_natCast, List.take_length]; rfl

/-- What taking answers. -/
def rtk (d : Int) (xs : List Rq) : AT :=
  match rvalid d xs, xs with
  | true, x :: xs => .tup [ringV d xs, rqV x, bV true]
  | _, _ => .tup [ringV d xs, rqV rq0, bV false]

set_option maxRecDepth 100000 in
set_option maxHeartbeats 4000000 in
theorem rtake (d : Int) (xs : List Rq) (hl : xs.length ≤ 1000000) : Fun Try.prog 31 [ringV d xs] [] (rtk d xs) := by
  refine fun_of_vc tabOk mixOk Try.func31 rfl (by rfl) (rs := [.cell 2 46, .cell 3 50, .tmp 4]) rfl rfl 32 ?_; rw [Try.ntmps31]
  (conv => whnf); repeat (first | (refine And.intro rfl ?_; conv => whnf) | (refine And.intro (fun _ => ?_) (fun h => Bool.noConfusion h); conv => whnf) | (refine And.intro (fun h => Bool.noConfusion h) (fun _ => ?_); conv => whnf))
  refine ⟨_, _, rclone d xs hl, ?_⟩
  (conv => whnf); repeat (first | (refine And.intro rfl ?_; conv => whnf) | (refine And.intro (fun _ => ?_) (fun h => Bool.noConfusion h); conv => whnf) | (refine And.intro (fun h => Bool.noConfusion h) (fun _ => ?_); conv => whnf))
  refine ⟨_, _, ringvalid d xs hl, ?_⟩
  (conv => whnf); repeat (first | (refine And.intro rfl ?_; conv => whnf) | (refine And.intro (fun _ => ?_) (fun h => Bool.noConfusion h); conv => whnf) | (refine And.intro (fun h => Bool.noConfusion h) (fun _ => ?_); conv => whnf))
  refine And.intro (fun h1 => ?_) (fun h1 => ?_)
  · have : rtk d xs = .tup [ringV d xs, rqV rq0, bV false] := by unfold rtk; simp at h1; rw [h1]
    (conv => whnf); repeat (first | (refine And.intro rfl ?_; conv => whnf) | (refine And.intro (fun _ => ?_) (fun h => Bool.noConfusion h); conv => whnf) | (refine And.intro (fun h => Bool.noConfusion h) (fun _ => ?_); conv => whnf))
    refine Exists.intro [] (And.intro List.nodup_nil ?_); ((conv => whnf); repeat (first | (refine And.intro rfl ?_; conv => whnf) | (refine And.intro (fun _ => ?_) (fun h => Bool.noConfusion h); conv => whnf) | (refine And.intro (fun h => Bool.noConfusion h) (fun _ => ?_); conv => whnf)))
    rw [this]; rfl
  (conv => whnf); repeat (first | (refine And.intro rfl ?_; conv => whnf) | (refine And.intro (fun _ => ?_) (fun h => Bool.noConfusion h); conv => whnf) | (refine And.intro (fun h => Bool.noConfusion h) (fun _ => ?_); conv => whnf))
  refine And.intro (fun h2 => ?_) (fun h2 => ?_)
  · have : rtk d xs = .tup [ringV d xs, rqV rq0, bV false] := by
      unfold rtk; simp at h1 h2; rw [h1, h2]
    (conv => whnf); repeat (first | (refine And.intro rfl ?_; conv => whnf) | (refine And.intro (fun _ => ?_) (fun h => Bool.noConfusion h); conv => whnf) | (refine And.intro (fun h => Bool.noConfusion h) (fun _ => ?_); conv => whnf))
    refine Exists.intro [] (And.intro List.nodup_nil ?_); ((conv => whnf); repeat (first | (refine And.intro rfl ?_; conv => whnf) | (refine And.intro (fun _ => ?_) (fun h => Bool.noConfusion h); conv => whnf) | (refine And.intro (fun h => Bool.noConfusion h) (fun _ => ?_); conv => whnf)))
    rw [this]; rfl
  (conv => whnf); repeat (first | (refine And.intro rfl ?_; conv => whnf) | (refine And.intro (fun _ => ?_) (fun h => Bool.noConfusion h); conv => whnf) | (refine And.intro (fun h => Bool.noConfusion h) (fun _ => ?_); conv => whnf))
  refine ⟨rq4 xs, ?_⟩
  (conv => whnf); repeat (first | (refine And.intro rfl ?_; conv => whnf) | (refine And.intro (fun _ => ?_) (fun h => Bool.noConfusion h); conv => whnf) | (refine And.intro (fun h => Bool.noConfusion h) (fun _ => ?_); conv => whnf))
  cases xs with
  | nil => simp at h2
  | cons x xs =>
    have : rtk d (x :: xs) = .tup [ringV d xs, rqV x, bV true] := by unfold rtk; simp at h1; rw [h1]
    refine ⟨by omega, by simp; omega, Int.le_refl _, ?_⟩
    (conv => whnf); repeat (first | (refine And.intro rfl ?_; conv => whnf) | (refine And.intro (fun _ => ?_) (fun h => Bool.noConfusion h); conv => whnf) | (refine And.intro (fun h => Bool.noConfusion h) (fun _ => ?_); conv => whnf))
    refine ⟨by omega, x.cs, rfl, rfl, ?_⟩
    (conv => whnf); repeat (first | (refine And.intro rfl ?_; conv => whnf) | (refine And.intro (fun _ => ?_) (fun h => Bool.noConfusion h); conv => whnf) | (refine And.intro (fun h => Bool.noConfusion h) (fun _ => ?_); conv => whnf))
    refine Exists.intro [] (And.intro List.nodup_nil ?_); ((conv => whnf); repeat (first | (refine And.intro rfl ?_; conv => whnf) | (refine And.intro (fun _ => ?_) (fun h => Bool.noConfusion h); conv => whnf) | (refine And.intro (fun h => Bool.noConfusion h) (fun _ => ?_); conv => whnf)))
    rw [this]; exact congrArg (fun l => AT.tup [.agg [.i (.sc (.int .i64 d)), .i (.sl l)], rqV x, bV true]) (takefin x xs)
end Go.Proofs.Ytopdpfbkdgncaaa.Ab
