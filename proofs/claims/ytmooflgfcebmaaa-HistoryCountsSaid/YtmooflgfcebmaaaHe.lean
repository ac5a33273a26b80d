/- Histories: the part of one block, by slices.DeleteFunc. -/
import Derived.Test.YtmooflgfcebmaaaHd
namespace Go.Proofs.Ytmooflgfcebmaaa.Ab
set_option linter.unusedVariables false
set_option linter.unusedSimpArgs false
open Go.RowKit

/-- Is an event none of this block? -/
def outE (b : Int) (x : Ev) : Bool := decide (x.k < 1) || (decide (x.k > 3) || !(x.b == b))
def pimV (b : Int) : AV := .c (.pim [.sc (.int .i64 b)])
def cloR (b : Int) : AV := .c (.clo 55 [.pim [.sc (.int .i64 b)]])
set_option maxRecDepth 100000 in
set_option maxHeartbeats 16000000 in
theorem outEF (r : Bool) (q s k b : Int) (d : ByteArray) (e : Int) (o : ByteArray) (blk : Int) : Fun Try.prog 55 [vA r q s k b d e o, pimV blk] [] (ATbool (outE blk ⟨r, q, s, k, b, d, e, o⟩)) := by
  refine fun_of_vc tabOk mixOk Try.func55 rfl (by rfl) (rs := [.tmp 3]) rfl rfl 25 ?_; rw [Try.ntmps55]
  (conv => whnf); repeat (first | (refine And.intro rfl ?_; conv => whnf) | (refine And.intro (fun _ => ?_) (fun h => Bool.noConfusion h); conv => whnf) | (refine And.intro (fun h => Bool.noConfusion h) (fun _ => ?_); conv => whnf))
  repeat' (first | ((refine And.intro (fun h => ?_) (fun h => ?_)) <;> (try simp at h) <;> ((conv => whnf); repeat (first | (refine And.intro rfl ?_; conv => whnf) | (refine And.intro (fun _ => ?_) (fun h => Bool.noConfusion h); conv => whnf) | (refine And.intro (fun h => Bool.noConfusion h) (fun _ => ?_); conv => whnf)))) | fail)
  all_goals (refine Exists.intro [] (And.intro List.nodup_nil ?_); ((conv => whnf); repeat (first | (refine And.intro rfl ?_; conv => whnf) | (refine And.intro (fun _ => ?_) (fun h => Bool.noConfusion h); conv => whnf) | (refine And.intro (fun h => Bool.noConfusion h) (fun _ => ?_); conv => whnf))))
  all_goals (refine congrArg ATbool ?_; unfold outE)
  all_goals first
    | (simp [*]; done)
    | (rw [decide_eq_false (by omega : ¬ k < 1), decide_eq_false (by omega : ¬ k > 3)]; rfl)
set_option maxRecDepth 100000 in
set_option maxHeartbeats 16000000 in
theorem idxFuncF (L : List Ev) (b : Int) (hl : L.length ≤ 1000000) : Fun Try.prog 62 [slV (vR L), cloR b] [] (.v (i64V (fFrom (outE b) 0 L))) := by
  refine fun_of_vc tabOk mixOk Try.func62 rfl (by rfl) (rs := [.tmp 4]) rfl rfl 23 ?_; rw [Try.ntmps62]
  (conv => whnf); repeat (first | (refine And.intro rfl ?_; conv => whnf) | (refine And.intro (fun _ => ?_) (fun h => Bool.noConfusion h); conv => whnf) | (refine And.intro (fun h => Bool.noConfusion h) (fun _ => ?_); conv => whnf))
  refine vc_loop [0, 1, 7] [] (X := Nat) (fun k gs => [(8, ATint k)]) (fun _ _ => []) (fun k => k ≤ L.length ∧ fFrom (outE b) 0 L = fFrom (outE b) k (L.drop k)) (fun k => L.length - k) _ (Ghost.refl _) 0 ⟨by omega, rfl⟩ ?_ ?_
  · (refine And.intro rfl (And.intro rfl ?_)); (repeat' (first | exact trivial | exact rfl | apply And.intro | (refine congrArg (Value.int .i64) (w64_nat ?_); omega)))
  rintro gs k ⟨hk, hF⟩
  (conv => whnf); repeat (first | (refine And.intro rfl ?_; conv => whnf) | (refine And.intro (fun _ => ?_) (fun h => Bool.noConfusion h); conv => whnf) | (refine And.intro (fun h => Bool.noConfusion h) (fun _ => ?_); conv => whnf))
  refine And.intro (fun h1 => ?_) (fun h1 => ?_)
  · have hlt : k < L.length := by have := of_decide_eq_true h1; rw [vLen] at this; omega
    rw [fFrom_cons hlt] at hF
    (conv => whnf); repeat (first | (refine And.intro rfl ?_; conv => whnf) | (refine And.intro (fun _ => ?_) (fun h => Bool.noConfusion h); conv => whnf) | (refine And.intro (fun h => Bool.noConfusion h) (fun _ => ?_); conv => whnf))
    refine ⟨by omega, _, vItem hlt, rfl, ?_⟩
    (conv => whnf); repeat (first | (refine And.intro rfl ?_; conv => whnf) | (refine And.intro (fun _ => ?_) (fun h => Bool.noConfusion h); conv => whnf) | (refine And.intro (fun h => Bool.noConfusion h) (fun _ => ?_); conv => whnf))
    refine ⟨_, _, outEF L[k].r L[k].q L[k].s L[k].k L[k].b L[k].d L[k].e L[k].o b, ?_⟩
    (conv => whnf); repeat (first | (refine And.intro rfl ?_; conv => whnf) | (refine And.intro (fun _ => ?_) (fun h => Bool.noConfusion h); conv => whnf) | (refine And.intro (fun h => Bool.noConfusion h) (fun _ => ?_); conv => whnf))
    refine And.intro (fun h2 => ?_) (fun h2 => ?_)
    · (conv => whnf); repeat (first | (refine And.intro rfl ?_; conv => whnf) | (refine And.intro (fun _ => ?_) (fun h => Bool.noConfusion h); conv => whnf) | (refine And.intro (fun h => Bool.noConfusion h) (fun _ => ?_); conv => whnf))
      refine Exists.intro [] (And.intro List.nodup_nil ?_); ((conv => whnf); repeat (first | (refine And.intro rfl ?_; conv => whnf) | (refine And.intro (fun _ => ?_) (fun h => Bool.noConfusion h); conv => whnf) | (refine And.intro (fun h => Bool.noConfusion h) (fun _ => ?_); conv => whnf)))
      rw [hF, if_pos h2]; rfl
    · (conv => whnf); repeat (first | (refine And.intro rfl ?_; conv => whnf) | (refine And.intro (fun _ => ?_) (fun h => Bool.noConfusion h); conv => whnf) | (refine And.intro (fun h => Bool.noConfusion h) (fun _ => ?_); conv => whnf))
      refine again (k + 1) ⟨hlt, ?_⟩ (by omega) ?_
      · rw [hF, if_neg]
        rw [show outE b L[k] = false from h2]; simp
      · (refine And.intro rfl (And.intro rfl ?_)); (repeat' (first | exact trivial | exact rfl | apply And.intro | (refine congrArg (Value.int .i64) (w64_nat ?_); omega)))
  · have hge : ¬ k < L.length := by have := of_decide_eq_false h1; rw [vLen] at this; omega
    (conv => whnf); repeat (first | (refine And.intro rfl ?_; conv => whnf) | (refine And.intro (fun _ => ?_) (fun h => Bool.noConfusion h); conv => whnf) | (refine And.intro (fun h => Bool.noConfusion h) (fun _ => ?_); conv => whnf))
    refine Exists.intro [] (And.intro List.nodup_nil ?_); ((conv => whnf); repeat (first | (refine And.intro rfl ?_; conv => whnf) | (refine And.intro (fun _ => ?_) (fun h => Bool.noConfusion h); conv => whnf) | (refine And.intro (fun h => Bool.noConfusion h) (fun _ => ?_); conv => whnf)))
    rw [hF, List.drop_of_length_le (by omega)]; rfl

def keepE (b : Int) (x : Ev) : Bool := !outE b x
def dInv (b : Int) (L : List Ev) (x : Nat × Nat × List Ev) : Prop := x.2.2.length = L.length ∧ x.1 < x.2.1 ∧ x.2.1 ≤ L.length ∧ x.2.2.take x.1 = (L.take x.2.1).filter (keepE b) ∧ x.2.2.drop x.2.1 = L.drop x.2.1
theorem fFrom_no_filter (b : Int) (L : List Ev) (h : fFrom (outE b) 0 L = -1) : L.filter (keepE b) = L := by
  rcases fFrom_spec (outE b) L 0 with ⟨_, _, h3⟩ | ⟨m, hm, h2, _⟩
  · rw [List.filter_eq_self]
    intro x hx
    have := List.any_eq_false.1 h3 x hx
    simp [keepE]
    simpa using this
  · rw [h] at h2; omega
theorem fFrom_take (p : Ev → Bool) (L : List Ev) : ∀ n, ∀ m, fFrom p n L = ((n + m : Nat) : Int) → ∀ x ∈ L.take m, p x = false := by
  induction L with
  | nil => intro n m h x hx; simp at hx
  | cons y L ih =>
    intro n m h x hx
    by_cases hy : p y = true
    · rw [fFrom_yes hy] at h
      have : m = 0 := by omega
      subst this
      simp at hx
    · rw [fFrom_no hy] at h
      cases m with
      | zero =>
        rcases fFrom_lt p L (n + 1) with h2 | h2 <;> omega
      | succ m =>
        rw [List.take_succ_cons] at hx
        rcases List.mem_cons.1 hx with rfl | hx
        · simpa using hy
        · exact ih (n + 1) m (by rw [h]; congr 1; omega) x hx
theorem dInv_start {b : Int} {L : List Ev} {m : Nat} (h : fFrom (outE b) 0 L = (m : Int)) : dInv b L (m, m + 1, L) := by
  rcases fFrom_spec (outE b) L 0 with ⟨h2, _⟩ | ⟨m', hm, h2, _, _, h4⟩
  · rw [h2] at h; omega
  · have : m' = m := by rw [h2] at h; omega
    subst this
    refine ⟨rfl, by dsimp only; omega, hm, ?_, rfl⟩
    dsimp only
    rw [List.take_succ_eq_append_getElem hm, List.filter_append]
    have h5 : (L.take m').filter (keepE b) = L.take m' := by
      rw [List.filter_eq_self]
      intro x hx
      simp [keepE, fFrom_take _ L 0 m' (by rw [Nat.zero_add]; exact h) x hx]
    rw [h5]
    simp [keepE, h4]
theorem dInv_get {b : Int} {L xs : List Ev} {i j : Nat} (h : dInv b L (i, j, xs)) (hlt : j < L.length) : ∃ hx : j < xs.length, xs[j] = L[j] := by
  obtain ⟨h1, h2, h3, h4, h5⟩ := h
  dsimp only at h1 h2 h3 h4 h5
  refine ⟨by omega, ?_⟩
  have := congrArg (fun l : List Ev => l[0]?) h5
  simp only [List.getElem?_drop, Nat.add_zero] at this
  rw [List.getElem?_eq_getElem (by omega), List.getElem?_eq_getElem hlt] at this
  injection this
theorem dInv_keep {b : Int} {L xs : List Ev} {i j : Nat} (h : dInv b L (i, j, xs)) (hlt : j < L.length) (hb : outE b L[j] = false) : dInv b L (i + 1, j + 1, xs.set i L[j]) := by
  obtain ⟨h1, h2, h3, h4, h5⟩ := h
  dsimp only at h1 h2 h3 h4 h5
  refine ⟨by simpa using h1, by dsimp only; omega, hlt, ?_, ?_⟩
  · dsimp only
    rw [List.take_succ_eq_append_getElem hlt, List.filter_append, ← h4, List.take_succ_eq_append_getElem (by rw [List.length_set]; omega), List.take_set, List.set_eq_of_length_le (by rw [List.length_take]; omega)]
    simp [keepE, hb]
  · dsimp only
    rw [List.drop_set_of_lt (by omega)]
    have := congrArg (List.drop 1) h5
    rwa [List.drop_drop, List.drop_drop] at this
theorem dInv_out {b : Int} {L xs : List Ev} {i j : Nat} (h : dInv b L (i, j, xs)) (hlt : j < L.length) (hb : outE b L[j] = true) : dInv b L (i, j + 1, xs) := by
  obtain ⟨h1, h2, h3, h4, h5⟩ := h
  dsimp only at h1 h2 h3 h4 h5
  refine ⟨h1, by dsimp only; omega, hlt, ?_, ?_⟩
  · dsimp only
    rw [List.take_succ_eq_append_getElem hlt, List.filter_append, ← h4]
    simp [keepE, hb]
  · dsimp only
    have := congrArg (List.drop 1) h5
    rwa [List.drop_drop, List.drop_drop] at this

set_option maxRecDepth 100000 in
set_option maxHeartbeats 16000000 in
theorem delFuncA (L : List Ev) (b : Int) (hl : L.length ≤ 1000000) : FunA Try.prog 54 38 8 (vR L) [cloR b] (vR (L.filter (keepE b))) := by
  refine funA_of_vc tabOk mixOk Try.func54 rfl (by rfl) (rs := [.tmp 4]) rfl rfl 46 ?_; rw [Try.ntmps54]
  (conv => whnf); repeat (first | (refine And.intro rfl ?_; conv => whnf) | (refine And.intro (fun _ => ?_) (fun h => Bool.noConfusion h); conv => whnf) | (refine And.intro (fun h => Bool.noConfusion h) (fun _ => ?_); conv => whnf))
  refine ⟨_, _, idxFuncF L b hl, ?_⟩
  (conv => whnf); repeat (first | (refine And.intro rfl ?_; conv => whnf) | (refine And.intro (fun _ => ?_) (fun h => Bool.noConfusion h); conv => whnf) | (refine And.intro (fun h => Bool.noConfusion h) (fun _ => ?_); conv => whnf))
  refine And.intro (fun h1 => ?_) (fun h1 => ?_)
  · have h1' : fFrom (outE b) 0 L = -1 := by simpa using h1
    (conv => whnf); repeat (first | (refine And.intro rfl ?_; conv => whnf) | (refine And.intro (fun _ => ?_) (fun h => Bool.noConfusion h); conv => whnf) | (refine And.intro (fun h => Bool.noConfusion h) (fun _ => ?_); conv => whnf))
    rw [fFrom_no_filter b L h1']
  have h1' : fFrom (outE b) 0 L ≠ -1 := by simpa using h1
  rcases fFrom_spec (outE b) L 0 with ⟨h2, _⟩ | ⟨m, hm, h2, _⟩
  · exact absurd h2 h1'
  rw [Nat.zero_add] at h2
  have hst := dInv_start h2
  rw [h2]
  have hw : iwrap .i64 ((m : Int) + 1) = ((m + 1 : Nat) : Int) := (w64_in (by omega)).trans (by omega)
  (conv => whnf); repeat (first | (refine And.intro rfl ?_; conv => whnf) | (refine And.intro (fun _ => ?_) (fun h => Bool.noConfusion h); conv => whnf) | (refine And.intro (fun h => Bool.noConfusion h) (fun _ => ?_); conv => whnf))
  refine vc_loop [1] [] (X := Nat × Nat × List Ev) (fun x gs => [(5, ATint x.1), (6, ATint x.2.1), (0, .v (.c (.own 0 (gs 0))))]) (fun x gs => [(0, .row (gs 0) 38 8 (vR x.2.2))]) (dInv b L) (fun x => L.length - x.2.1) _ (Ghost.refl _) (m, m + 1, L) hst ?_ ?_
  · (refine And.intro rfl (And.intro rfl ?_)); (repeat' (first | exact trivial | exact rfl | apply And.intro | (refine congrArg (Value.int .i64) (w64_nat ?_); omega)))
    all_goals exact congrArg (Value.int .i64) hw
  rintro gs ⟨i, j, xs⟩ hI
  have i1 := hI.1
  have i2 := hI.2.1
  have i3 := hI.2.2.1
  dsimp only at i1 i2 i3 ⊢
  (conv => whnf); repeat (first | (refine And.intro rfl ?_; conv => whnf) | (refine And.intro (fun _ => ?_) (fun h => Bool.noConfusion h); conv => whnf) | (refine And.intro (fun h => Bool.noConfusion h) (fun _ => ?_); conv => whnf))
  refine And.intro (fun h3 => ?_) (fun h3 => ?_)
  · have hlt : j < L.length := by have := of_decide_eq_true h3; rw [vLen] at this; omega
    obtain ⟨hx, hget⟩ := dInv_get hI hlt
    have hit := vItem hx
    rw [hget] at hit
    (conv => whnf); repeat (first | (refine And.intro rfl ?_; conv => whnf) | (refine And.intro (fun _ => ?_) (fun h => Bool.noConfusion h); conv => whnf) | (refine And.intro (fun h => Bool.noConfusion h) (fun _ => ?_); conv => whnf))
    refine ⟨by omega, by rw [Int.toNat_natCast, vLen]; exact hx, ?_⟩
    (conv => whnf); repeat (first | (refine And.intro rfl ?_; conv => whnf) | (refine And.intro (fun _ => ?_) (fun h => Bool.noConfusion h); conv => whnf) | (refine And.intro (fun h => Bool.noConfusion h) (fun _ => ?_); conv => whnf))
    refine ⟨_, hit, ?_⟩
    (conv => whnf); repeat (first | (refine And.intro rfl ?_; conv => whnf) | (refine And.intro (fun _ => ?_) (fun h => Bool.noConfusion h); conv => whnf) | (refine And.intro (fun h => Bool.noConfusion h) (fun _ => ?_); conv => whnf))
    refine ⟨_, _, outEF L[j].r L[j].q L[j].s L[j].k L[j].b L[j].d L[j].e L[j].o b, ?_⟩
    (conv => whnf); repeat (first | (refine And.intro rfl ?_; conv => whnf) | (refine And.intro (fun _ => ?_) (fun h => Bool.noConfusion h); conv => whnf) | (refine And.intro (fun h => Bool.noConfusion h) (fun _ => ?_); conv => whnf))
    refine And.intro (fun h4 => ?_) (fun h4 => ?_)
    · have hb : outE b L[j] = false := by simpa using h4
      (conv => whnf); repeat (first | (refine And.intro rfl ?_; conv => whnf) | (refine And.intro (fun _ => ?_) (fun h => Bool.noConfusion h); conv => whnf) | (refine And.intro (fun h => Bool.noConfusion h) (fun _ => ?_); conv => whnf))
      refine ⟨by omega, by rw [Int.toNat_natCast, vLen]; omega, ?_⟩
      (conv => whnf); repeat (first | (refine And.intro rfl ?_; conv => whnf) | (refine And.intro (fun _ => ?_) (fun h => Bool.noConfusion h); conv => whnf) | (refine And.intro (fun h => Bool.noConfusion h) (fun _ => ?_); conv => whnf))
      refine ⟨_, vItem (show i < xs.length by omega), ?_⟩
      (conv => whnf); repeat (first | (refine And.intro rfl ?_; conv => whnf) | (refine And.intro (fun _ => ?_) (fun h => Bool.noConfusion h); conv => whnf) | (refine And.intro (fun h => Bool.noConfusion h) (fun _ => ?_); conv => whnf))
      refine again (i + 1, j + 1, xs.set i L[j]) (dInv_keep hI hlt hb) (by dsimp only; omega) ?_
      (refine And.intro rfl (And.intro rfl ?_)); (repeat' (first | exact trivial | exact rfl | apply And.intro | (refine congrArg (Value.int .i64) (w64_nat ?_); omega)))
      all_goals exact congrArg (Blk.row _ _ _) (vset xs i L[j])
    · have hb : outE b L[j] = true := by simpa using h4
      (conv => whnf); repeat (first | (refine And.intro rfl ?_; conv => whnf) | (refine And.intro (fun _ => ?_) (fun h => Bool.noConfusion h); conv => whnf) | (refine And.intro (fun h => Bool.noConfusion h) (fun _ => ?_); conv => whnf))
      refine again (i, j + 1, xs) (dInv_out hI hlt hb) (by dsimp only; omega) ?_
      (refine And.intro rfl (And.intro rfl ?_)); (repeat' (first | exact trivial | exact rfl | apply And.intro | (refine congrArg (Value.int .i64) (w64_nat ?_); omega)))
  · have hge : ¬ j < L.length := by have := of_decide_eq_false h3; rw [vLen] at this; omega
    have hj : j = L.length := by omega
    have hfin : xs.take i = L.filter (keepE b) := by
      have := hI.2.2.2.1
      dsimp only at this
      rw [this, hj, List.take_length]
    have hcut : ∀ z : List (List IV), z.length = (vR xs).length - i → (splice (vR xs) i z).take i = vR (L.filter (keepE b)) := by
      intro z hz
      rw [splice_eq _ _ _ (by rw [hz, vLen]; omega), List.append_assoc, List.take_append_of_le_length (by rw [List.length_take, vLen]; omega), List.take_take, Nat.min_self, vTake, hfin]
    (conv => whnf); repeat (first | (refine And.intro rfl ?_; conv => whnf) | (refine And.intro (fun _ => ?_) (fun h => Bool.noConfusion h); conv => whnf) | (refine And.intro (fun h => Bool.noConfusion h) (fun _ => ?_); conv => whnf))
    refine ⟨by omega, by rw [vLen]; omega, by omega, ?_⟩
    (conv => whnf); repeat (first | (refine And.intro rfl ?_; conv => whnf) | (refine And.intro (fun _ => ?_) (fun h => Bool.noConfusion h); conv => whnf) | (refine And.intro (fun h => Bool.noConfusion h) (fun _ => ?_); conv => whnf))
    refine ⟨by omega, by omega, ?_, ?_⟩
    · rw [splice_length _ _ _ (by rw [List.length_replicate, vLen]; omega), vLen]; omega
    (conv => whnf); repeat (first | (refine And.intro rfl ?_; conv => whnf) | (refine And.intro (fun _ => ?_) (fun h => Bool.noConfusion h); conv => whnf) | (refine And.intro (fun h => Bool.noConfusion h) (fun _ => ?_); conv => whnf))
    refine ⟨by decide, ?_⟩
    rw [Nat.zero_add, Int.toNat_natCast]
    refine hcut _ ?_
    rw [List.length_replicate]
    omega

set_option maxRecDepth 100000 in
set_option maxHeartbeats 16000000 in
theorem vCloneF (L : List Ev) (hl : L.length ≤ 1000000) : Fun Try.prog 53 [slV (vR L)] [.row 0 38 8 (vR L)] (.v (.c (.own 0 0))) := by
  cases L with
  | nil =>
    refine fun_of_vc_g tabOk mixOk Try.func53 rfl (by rfl) (rs := [.tmp 2]) rfl rfl 12 ?_; rw [Try.ntmps53]
    (conv => whnf); repeat (first | (refine And.intro rfl ?_; conv => whnf) | (refine And.intro (fun _ => ?_) (fun h => Bool.noConfusion h); conv => whnf) | (refine And.intro (fun h => Bool.noConfusion h) (fun _ => ?_); conv => whnf))
    refine ⟨?_, ?_⟩
    · (conv => whnf); repeat (first | (refine And.intro rfl ?_; conv => whnf) | (refine And.intro (fun _ => ?_) (fun h => Bool.noConfusion h); conv => whnf) | (refine And.intro (fun h => Bool.noConfusion h) (fun _ => ?_); conv => whnf))
      refine ⟨_, Ghost.ownNil 2 5 38 8 rfl (Nat.le_of_ble_eq_true rfl), [5], by simp, ?_⟩
      (conv => whnf); repeat (first | (refine And.intro rfl ?_; conv => whnf) | (refine And.intro (fun _ => ?_) (fun h => Bool.noConfusion h); conv => whnf) | (refine And.intro (fun h => Bool.noConfusion h) (fun _ => ?_); conv => whnf))
      rfl
    · (conv => whnf); repeat (first | (refine And.intro rfl ?_; conv => whnf) | (refine And.intro (fun _ => ?_) (fun h => Bool.noConfusion h); conv => whnf) | (refine And.intro (fun h => Bool.noConfusion h) (fun _ => ?_); conv => whnf))
      refine ⟨vSz [], ?_⟩
      (conv => whnf); repeat (first | (refine And.intro rfl ?_; conv => whnf) | (refine And.intro (fun _ => ?_) (fun h => Bool.noConfusion h); conv => whnf) | (refine And.intro (fun h => Bool.noConfusion h) (fun _ => ?_); conv => whnf))
      refine ⟨bytes_le (by decide) (by simp [vR]), ?_⟩
      (conv => whnf); repeat (first | (refine And.intro rfl ?_; conv => whnf) | (refine And.intro (fun _ => ?_) (fun h => Bool.noConfusion h); conv => whnf) | (refine And.intro (fun h => Bool.noConfusion h) (fun _ => ?_); conv => whnf))
      refine ⟨_, Ghost.refl _, [5], by simp, ?_⟩
      (conv => whnf); repeat (first | (refine And.intro rfl ?_; conv => whnf) | (refine And.intro (fun _ => ?_) (fun h => Bool.noConfusion h); conv => whnf) | (refine And.intro (fun h => Bool.noConfusion h) (fun _ => ?_); conv => whnf))
      rfl
  | cons x L =>
    refine fun_of_vc tabOk mixOk Try.func53 rfl (by rfl) (rs := [.tmp 2]) rfl rfl 12 ?_; rw [Try.ntmps53]
    (conv => whnf); repeat (first | (refine And.intro rfl ?_; conv => whnf) | (refine And.intro (fun _ => ?_) (fun h => Bool.noConfusion h); conv => whnf) | (refine And.intro (fun h => Bool.noConfusion h) (fun _ => ?_); conv => whnf))
    refine ⟨vSz (x :: L), ?_⟩
    (conv => whnf); repeat (first | (refine And.intro rfl ?_; conv => whnf) | (refine And.intro (fun _ => ?_) (fun h => Bool.noConfusion h); conv => whnf) | (refine And.intro (fun h => Bool.noConfusion h) (fun _ => ?_); conv => whnf))
    refine ⟨bytes_le (by decide) (by simp [vR] at hl ⊢; omega), ?_⟩
    (conv => whnf); repeat (first | (refine And.intro rfl ?_; conv => whnf) | (refine And.intro (fun _ => ?_) (fun h => Bool.noConfusion h); conv => whnf) | (refine And.intro (fun h => Bool.noConfusion h) (fun _ => ?_); conv => whnf))
    refine ⟨[5], by simp, ?_⟩
    (conv => whnf); repeat (first | (refine And.intro rfl ?_; conv => whnf) | (refine And.intro (fun _ => ?_) (fun h => Bool.noConfusion h); conv => whnf) | (refine And.intro (fun h => Bool.noConfusion h) (fun _ => ?_); conv => whnf))
    rfl
theorem scRows (l : List Ev) : ∀ e ∈ vR l, ∀ y ∈ e, isScI y = true := by
  intro e he y hy
  obtain ⟨x, _, rfl⟩ := List.mem_map.1 he
  simp [vRow] at hy
  rcases hy with h | h | h | h | h | h | h | h <;> subst h <;> rfl
set_option maxRecDepth 100000 in
set_option maxHeartbeats 16000000 in
theorem restrictF (L : List Ev) (b : Int) (hl : L.length ≤ 1000000) : Fun Try.prog 22 [slV (vR L), i64V b] [] (.v (slV (vR (L.filter (keepE b))))) := by
  refine fun_of_vc (tabXOk [2000054]) mixOk Try.func22 rfl (by rfl) (rs := [.tmp 4]) rfl rfl 15 ?_; rw [Try.ntmps22]
  (conv => whnf); repeat (first | (refine And.intro rfl ?_; conv => whnf) | (refine And.intro (fun _ => ?_) (fun h => Bool.noConfusion h); conv => whnf) | (refine And.intro (fun h => Bool.noConfusion h) (fun _ => ?_); conv => whnf))
  refine ⟨_, _, vCloneF L hl, ?_⟩
  (conv => whnf); repeat (first | (refine And.intro rfl ?_; conv => whnf) | (refine And.intro (fun _ => ?_) (fun h => Bool.noConfusion h); conv => whnf) | (refine And.intro (fun h => Bool.noConfusion h) (fun _ => ?_); conv => whnf))
  refine ⟨_, delFuncA L b hl, scRows _, ?_⟩
  (conv => whnf); repeat (first | (refine And.intro rfl ?_; conv => whnf) | (refine And.intro (fun _ => ?_) (fun h => Bool.noConfusion h); conv => whnf) | (refine And.intro (fun h => Bool.noConfusion h) (fun _ => ?_); conv => whnf))
  refine Exists.intro [] (And.intro List.nodup_nil ?_); ((conv => whnf); repeat (first | (refine And.intro rfl ?_; conv => whnf) | (refine And.intro (fun _ => ?_) (fun h => Bool.noConfusion h); conv => whnf) | (refine And.intro (fun h => Bool.noConfusion h) (fun _ => ?_); conv => whnf)))
  rfl
end Go.Proofs.Ytmooflgfcebmaaa.Ab
