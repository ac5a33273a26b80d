/- Histories: events as data; which results fit; the first index; the document's functions. -/
import Derived.Test.YtmooflgfcebmaaaGb
import Derived.Test.YtmooflgfcebmaaaFu
namespace Go.Proofs.Ytmooflgfcebmaaa.Ab
set_option linter.unusedVariables false
set_option linter.unusedSimpArgs false
open Go.RowKit

structure Ev where
  r : Bool
  q : Int
  s : Int
  k : Int
  b : Int
  d : ByteArray
  e : Int
  o : ByteArray
def vRow (x : Ev) : List IV := [.sc (.bool x.r), .sc (.int .i64 x.q), .sc (.int .i64 x.s), .sc (.int .i64 x.k), .sc (.int .i64 x.b), .sc (.string x.d), .sc (.int .i64 x.e), .sc (.string x.o)]
def vA (r : Bool) (q s k b : Int) (d : ByteArray) (e : Int) (o : ByteArray) : AV := .agg [.i (.sc (.bool r)), .i (.sc (.int .i64 q)), .i (.sc (.int .i64 s)), .i (.sc (.int .i64 k)), .i (.sc (.int .i64 b)), .i (.sc (.string d)), .i (.sc (.int .i64 e)), .i (.sc (.string o))]
def vV (x : Ev) : AV := vA x.r x.q x.s x.k x.b x.d x.e x.o
def vR (l : List Ev) : List (List IV) := l.map vRow
theorem vItem {l : List Ev} {k : Nat} (h : k < l.length) : (vR l)[((k : Int)).toNat]? = some (vRow l[k]) := by simp [vR, h]
theorem vLen (l : List Ev) : (vR l).length = l.length := by simp [vR]
theorem vSz (l : List Ev) : ∀ z ∈ vR l, z.length = (tab 38).size := by
  intro z hz
  obtain ⟨x, _, rfl⟩ := List.mem_map.1 hz
  rfl
theorem vSz8 (l : List Ev) : ∀ z ∈ vR l, z.length = 8 := by
  intro z hz
  obtain ⟨x, _, rfl⟩ := List.mem_map.1 hz
  rfl
theorem vset (l : List Ev) (k : Nat) (e : Ev) : (vR l).set ((k : Int)).toNat (vRow e) = vR (l.set k e) := by simp [vR, List.map_set]
theorem vTake (l : List Ev) (k : Nat) : (vR l).take k = vR (l.take k) := by simp [vR, List.map_take]
theorem vDrop (l : List Ev) (k : Nat) : (vR l).drop k = vR (l.drop k) := by simp [vR, List.map_drop]
theorem vSnoc (a : List Ev) (e : Ev) : vR a ++ [vRow e] = vR (a ++ [e]) := by simp [vR]
theorem vApp (a b : List Ev) : vR a ++ vR b = vR (a ++ b) := by simp [vR]
def cmQ (k b : Int) (d : ByteArray) : AV := .agg [.i (.sc (.int .i64 k)), .i (.sc (.int .i64 b)), .i (.sc (.string d))]
def rsQ (e : Int) (o : ByteArray) : AV := .agg [.i (.sc (.int .i64 e)), .i (.sc (.string o))]

def fitB (k e : Int) (o : ByteArray) : Bool :=
  if e = 0 then (if k = 1 then decide (o.size = 16) else decide (o.size = 0)) else if e = 7 ∨ e = 1 ∨ e = 2 ∨ e = 3 ∨ e = 12 then decide (o.size = 0) else false
theorem empty_eq (s : ByteArray) : (s.toList == (ByteArray.mk #[]).toList) = decide (s.size = 0) := by
  rw [← beq_toListBytes, Bool.eq_iff_iff, MapKept.bytes_beq, decide_eq_true_eq]
  constructor
  · rintro rfl; rfl
  · intro h
    have : s = ByteArray.empty := by simpa using h
    rw [this]; rfl
theorem int16 (n : Nat) : ((n : Int) == 16) = decide (n = 16) := by
  rw [Bool.eq_iff_iff, beq_iff_eq, decide_eq_true_eq]; omega
set_option maxRecDepth 100000 in
set_option maxHeartbeats 4000000 in
theorem fitF (k b : Int) (d : ByteArray) (e : Int) (o : ByteArray) : Fun Try.prog 45 [cmQ k b d, rsQ e o] [] (ATbool (fitB k e o)) := by
  refine fun_of_vc tabOk mixOk Try.func45 rfl (by rfl) (rs := [.tmp 4]) rfl rfl 29 ?_; rw [Try.ntmps45]
  (conv => whnf); repeat (first | (refine And.intro rfl ?_; conv => whnf) | (refine And.intro (fun _ => ?_) (fun h => Bool.noConfusion h); conv => whnf) | (refine And.intro (fun h => Bool.noConfusion h) (fun _ => ?_); conv => whnf))
  repeat' (first | ((refine And.intro (fun h => ?_) (fun h => ?_)) <;> (try simp at h) <;> ((conv => whnf); repeat (first | (refine And.intro rfl ?_; conv => whnf) | (refine And.intro (fun _ => ?_) (fun h => Bool.noConfusion h); conv => whnf) | (refine And.intro (fun h => Bool.noConfusion h) (fun _ => ?_); conv => whnf)))) | fail)
  all_goals (refine Exists.intro [] (And.intro List.nodup_nil ?_); ((conv => whnf); repeat (first | (refine And.intro rfl ?_; conv => whnf) | (refine And.intro (fun _ => ?_) (fun h => Bool.noConfusion h); conv => whnf) | (refine And.intro (fun h => Bool.noConfusion h) (fun _ => ?_); conv => whnf))))
  all_goals (try rw [empty_eq])
  all_goals (try rw [int16])
  all_goals (refine congrArg ATbool ?_)
  all_goals first
    | (exfalso; first | contradiction | omega)
    | (unfold fitB; (repeat' split) <;> first | rfl | (exfalso; omega) | (simp_all; done) | (simp_all; omega))
set_option maxRecDepth 100000 in
set_option maxHeartbeats 4000000 in
theorem fitF' (k b : Int) (d : ByteArray) (e : Int) (o : ByteArray) : Fun Try.prog 61 [cmQ k b d, rsQ e o] [] (ATbool (fitB k e o)) := by
  refine fun_of_vc tabOk mixOk Try.func61 rfl (by rfl) (rs := [.tmp 4]) rfl rfl 41 ?_; rw [Try.ntmps61]
  (conv => whnf); repeat (first | (refine And.intro rfl ?_; conv => whnf) | (refine And.intro (fun _ => ?_) (fun h => Bool.noConfusion h); conv => whnf) | (refine And.intro (fun h => Bool.noConfusion h) (fun _ => ?_); conv => whnf))
  repeat' (first | ((refine And.intro (fun h => ?_) (fun h => ?_)) <;> (try simp at h) <;> ((conv => whnf); repeat (first | (refine And.intro rfl ?_; conv => whnf) | (refine And.intro (fun _ => ?_) (fun h => Bool.noConfusion h); conv => whnf) | (refine And.intro (fun h => Bool.noConfusion h) (fun _ => ?_); conv => whnf)))) | fail)
  all_goals (refine Exists.intro [] (And.intro List.nodup_nil ?_); ((conv => whnf); repeat (first | (refine And.intro rfl ?_; conv => whnf) | (refine And.intro (fun _ => ?_) (fun h => Bool.noConfusion h); conv => whnf) | (refine And.intro (fun h => Bool.noConfusion h) (fun _ => ?_); conv => whnf))))
  all_goals (try rw [empty_eq])
  all_goals (try rw [int16])
  all_goals (refine congrArg ATbool ?_)
  all_goals first
    | (exfalso; first | contradiction | omega)
    | (unfold fitB; (repeat' split) <;> first | rfl | (exfalso; omega) | (simp_all; done) | (simp_all; omega))

/-- The first index at which p holds, counted from n. -/
def fFrom (p : Ev → Bool) : Nat → List Ev → Int
  | _, [] => -1
  | n, x :: l => if p x = true then n else fFrom p (n + 1) l
def fI (s : Int) (x : Ev) : Bool := !x.r && (x.s == s)
def fR (s : Int) (x : Ev) : Bool := x.r && (x.s == s)
theorem fFrom_cons {p : Ev → Bool} {l : List Ev} {k : Nat} (h : k < l.length) : fFrom p k (l.drop k) = if p l[k] = true then (k : Int) else fFrom p (k + 1) (l.drop (k + 1)) := by
  rw [List.drop_eq_getElem_cons h, fFrom]
set_option maxRecDepth 100000 in
set_option maxHeartbeats 4000000 in
theorem invokedF (l : List Ev) (s : Int) (hl : l.length ≤ 1000000) : Fun Try.prog 60 [slV (vR l), i64V s] [] (.v (i64V (fFrom (fI s) 0 l))) := by
  refine fun_of_vc tabOk mixOk Try.func60 rfl (by rfl) (rs := [.tmp 4]) rfl rfl 32 ?_; rw [Try.ntmps60]
  (conv => whnf); repeat (first | (refine And.intro rfl ?_; conv => whnf) | (refine And.intro (fun _ => ?_) (fun h => Bool.noConfusion h); conv => whnf) | (refine And.intro (fun h => Bool.noConfusion h) (fun _ => ?_); conv => whnf))
  refine vc_loop [0, 1] [] (X := Nat) (fun k gs => [(5, ATint k)]) (fun _ _ => []) (fun k => k ≤ l.length ∧ fFrom (fI s) 0 l = fFrom (fI s) k (l.drop k)) (fun k => l.length - k) _ (Ghost.refl _) 0 ⟨by omega, rfl⟩ ?_ ?_
  · (refine And.intro rfl (And.intro rfl ?_)); (repeat' (first | exact trivial | exact rfl | apply And.intro | (refine congrArg (Value.int .i64) (w64_nat ?_); omega)))
  rintro gs k ⟨hk, hF⟩
  (conv => whnf); repeat (first | (refine And.intro rfl ?_; conv => whnf) | (refine And.intro (fun _ => ?_) (fun h => Bool.noConfusion h); conv => whnf) | (refine And.intro (fun h => Bool.noConfusion h) (fun _ => ?_); conv => whnf))
  refine And.intro (fun h1 => ?_) (fun h1 => ?_)
  · have hlt : k < l.length := by have := of_decide_eq_true h1; rw [vLen] at this; omega
    rw [fFrom_cons hlt] at hF
    (conv => whnf); repeat (first | (refine And.intro rfl ?_; conv => whnf) | (refine And.intro (fun _ => ?_) (fun h => Bool.noConfusion h); conv => whnf) | (refine And.intro (fun h => Bool.noConfusion h) (fun _ => ?_); conv => whnf))
    refine ⟨by omega, _, vItem hlt, rfl, ?_⟩
    (conv => whnf); repeat (first | (refine And.intro rfl ?_; conv => whnf) | (refine And.intro (fun _ => ?_) (fun h => Bool.noConfusion h); conv => whnf) | (refine And.intro (fun h => Bool.noConfusion h) (fun _ => ?_); conv => whnf))
    repeat' (first | ((refine And.intro (fun h => ?_) (fun h => ?_)) <;> (try simp at h) <;> ((conv => whnf); repeat (first | (refine And.intro rfl ?_; conv => whnf) | (refine And.intro (fun _ => ?_) (fun h => Bool.noConfusion h); conv => whnf) | (refine And.intro (fun h => Bool.noConfusion h) (fun _ => ?_); conv => whnf)))) | (refine ⟨by omega, _, vItem hlt, rfl, ?_⟩; ((conv => whnf); repeat (first | (refine And.intro rfl ?_; conv => whnf) | (refine And.intro (fun _ => ?_) (fun h => Bool.noConfusion h); conv => whnf) | (refine And.intro (fun h => Bool.noConfusion h) (fun _ => ?_); conv => whnf)))) | fail)
    all_goals first
      | (refine Exists.intro [] (And.intro List.nodup_nil ?_); ((conv => whnf); repeat (first | (refine And.intro rfl ?_; conv => whnf) | (refine And.intro (fun _ => ?_) (fun h => Bool.noConfusion h); conv => whnf) | (refine And.intro (fun h => Bool.noConfusion h) (fun _ => ?_); conv => whnf)))
         rw [hF, if_pos (by simp [fI, *])]
         rfl)
      | (refine again (k + 1) ⟨hlt, ?_⟩ (by omega) ?_
         · rw [hF, if_neg (by simp [fI, *])]
         · (refine And.intro rfl (And.intro rfl ?_)); (repeat' (first | exact trivial | exact rfl | apply And.intro | (refine congrArg (Value.int .i64) (w64_nat ?_); omega))))
  · have hge : ¬ k < l.length := by have := of_decide_eq_false h1; rw [vLen] at this; omega
    (conv => whnf); repeat (first | (refine And.intro rfl ?_; conv => whnf) | (refine And.intro (fun _ => ?_) (fun h => Bool.noConfusion h); conv => whnf) | (refine And.intro (fun h => Bool.noConfusion h) (fun _ => ?_); conv => whnf))
    refine Exists.intro [] (And.intro List.nodup_nil ?_); ((conv => whnf); repeat (first | (refine And.intro rfl ?_; conv => whnf) | (refine And.intro (fun _ => ?_) (fun h => Bool.noConfusion h); conv => whnf) | (refine And.intro (fun h => Bool.noConfusion h) (fun _ => ?_); conv => whnf)))
    rw [hF, List.drop_of_length_le (by omega)]
    rfl
set_option maxRecDepth 100000 in
set_option maxHeartbeats 4000000 in
theorem returnedF (l : List Ev) (s : Int) (hl : l.length ≤ 1000000) : Fun Try.prog 59 [slV (vR l), i64V s] [] (.v (i64V (fFrom (fR s) 0 l))) := by
  refine fun_of_vc tabOk mixOk Try.func59 rfl (by rfl) (rs := [.tmp 4]) rfl rfl 31 ?_; rw [Try.ntmps59]
  (conv => whnf); repeat (first | (refine And.intro rfl ?_; conv => whnf) | (refine And.intro (fun _ => ?_) (fun h => Bool.noConfusion h); conv => whnf) | (refine And.intro (fun h => Bool.noConfusion h) (fun _ => ?_); conv => whnf))
  refine vc_loop [0, 1] [] (X := Nat) (fun k gs => [(5, ATint k)]) (fun _ _ => []) (fun k => k ≤ l.length ∧ fFrom (fR s) 0 l = fFrom (fR s) k (l.drop k)) (fun k => l.length - k) _ (Ghost.refl _) 0 ⟨by omega, rfl⟩ ?_ ?_
  · (refine And.intro rfl (And.intro rfl ?_)); (repeat' (first | exact trivial | exact rfl | apply And.intro | (refine congrArg (Value.int .i64) (w64_nat ?_); omega)))
  rintro gs k ⟨hk, hF⟩
  (conv => whnf); repeat (first | (refine And.intro rfl ?_; conv => whnf) | (refine And.intro (fun _ => ?_) (fun h => Bool.noConfusion h); conv => whnf) | (refine And.intro (fun h => Bool.noConfusion h) (fun _ => ?_); conv => whnf))
  refine And.intro (fun h1 => ?_) (fun h1 => ?_)
  · have hlt : k < l.length := by have := of_decide_eq_true h1; rw [vLen] at this; omega
    rw [fFrom_cons hlt] at hF
    (conv => whnf); repeat (first | (refine And.intro rfl ?_; conv => whnf) | (refine And.intro (fun _ => ?_) (fun h => Bool.noConfusion h); conv => whnf) | (refine And.intro (fun h => Bool.noConfusion h) (fun _ => ?_); conv => whnf))
    refine ⟨by omega, _, vItem hlt, rfl, ?_⟩
    (conv => whnf); repeat (first | (refine And.intro rfl ?_; conv => whnf) | (refine And.intro (fun _ => ?_) (fun h => Bool.noConfusion h); conv => whnf) | (refine And.intro (fun h => Bool.noConfusion h) (fun _ => ?_); conv => whnf))
    repeat' (first | ((refine And.intro (fun h => ?_) (fun h => ?_)) <;> (try simp at h) <;> ((conv => whnf); repeat (first | (refine And.intro rfl ?_; conv => whnf) | (refine And.intro (fun _ => ?_) (fun h => Bool.noConfusion h); conv => whnf) | (refine And.intro (fun h => Bool.noConfusion h) (fun _ => ?_); conv => whnf)))) | (refine ⟨by omega, _, vItem hlt, rfl, ?_⟩; ((conv => whnf); repeat (first | (refine And.intro rfl ?_; conv => whnf) | (refine And.intro (fun _ => ?_) (fun h => Bool.noConfusion h); conv => whnf) | (refine And.intro (fun h => Bool.noConfusion h) (fun _ => ?_); conv => whnf)))) | fail)
    all_goals first
      | (refine Exists.intro [] (And.intro List.nodup_nil ?_); ((conv => whnf); repeat (first | (refine And.intro rfl ?_; conv => whnf) | (refine And.intro (fun _ => ?_) (fun h => Bool.noConfusion h); conv => whnf) | (refine And.intro (fun h => Bool.noConfusion h) (fun _ => ?_); conv => whnf)))
         rw [hF, if_pos (by simp [fR, *])]
         rfl)
      | (refine again (k + 1) ⟨hlt, ?_⟩ (by omega) ?_
         · rw [hF, if_neg (by simp [fR, *])]
         · (refine And.intro rfl (And.intro rfl ?_)); (repeat' (first | exact trivial | exact rfl | apply And.intro | (refine congrArg (Value.int .i64) (w64_nat ?_); omega))))
  · have hge : ¬ k < l.length := by have := of_decide_eq_false h1; rw [vLen] at this; omega
    (conv => whnf); repeat (first | (refine And.intro rfl ?_; conv => whnf) | (refine And.intro (fun _ => ?_) (fun h => Bool.noConfusion h); conv => whnf) | (refine And.intro (fun h => Bool.noConfusion h) (fun _ => ?_); conv => whnf))
    refine Exists.intro [] (And.intro List.nodup_nil ?_); ((conv => whnf); repeat (first | (refine And.intro rfl ?_; conv => whnf) | (refine And.intro (fun _ => ?_) (fun h => Bool.noConfusion h); conv => whnf) | (refine And.intro (fun h => Bool.noConfusion h) (fun _ => ?_); conv => whnf)))
    rw [hF, List.drop_of_length_le (by omega)]
    rfl
end Go.Proofs.Ytmooflgfcebmaaa.Ab
