/- Histories: places, the first invocations, what is pending, operations, Before. -/
import Derived.Test.YtmooflgfcebmaaaHc
namespace Go.Proofs.Ytmooflgfcebmaaa.Ab
set_option linter.unusedVariables false
set_option linter.unusedSimpArgs false
open Go.RowKit

def fP (ret : Bool) (s : Int) (x : Ev) : Bool := match ret with
  | true => fR s x
  | false => fI s x
def plF (ret : Bool) (pre : List Ev) (v : Value) : Option (List IV) := match v with
  | .int .i64 s => if fFrom (fP ret s) 0 pre = -1 then none else some [.sc (.int .i64 (fFrom (fP ret s) 0 pre))]
  | _ => none
theorem plF_nil (ret : Bool) : plF ret [] = fun _ => none := by funext v; unfold plF; split <;> simp [fFrom]
theorem fFrom_yes {p : Ev → Bool} {n : Nat} {y : Ev} {a : List Ev} (h : p y = true) : fFrom p n (y :: a) = n := by rw [fFrom, if_pos h]
theorem fFrom_no {p : Ev → Bool} {n : Nat} {y : Ev} {a : List Ev} (h : ¬ p y = true) : fFrom p n (y :: a) = fFrom p (n + 1) a := by rw [fFrom, if_neg h]
theorem fFrom_app (p : Ev → Bool) (b : List Ev) : ∀ (a : List Ev) n, fFrom p n (a ++ b) = if fFrom p n a = -1 then fFrom p (n + a.length) b else fFrom p n a := by
  intro a
  induction a with
  | nil => intro n; simp [fFrom]
  | cons y a ih =>
    intro n
    rw [List.cons_append]
    by_cases h : p y = true
    · rw [fFrom_yes h, fFrom_yes h, if_neg (by omega)]
    · rw [fFrom_no h, fFrom_no h, ih, List.length_cons, show n + 1 + a.length = n + (a.length + 1) by omega]
theorem fFrom_snoc (p : Ev → Bool) (x : Ev) (a : List Ev) (n : Nat) : fFrom p n (a ++ [x]) = if fFrom p n a = -1 then (if p x = true then ((n + a.length : Nat) : Int) else -1) else fFrom p n a := by
  rw [fFrom_app]
  by_cases h : p x = true
  · rw [fFrom_yes h, if_pos h]
  · rw [fFrom_no h, if_neg h]; rfl
theorem plF_put {ret : Bool} {pre : List Ev} {x : Ev} (h1 : x.r = ret) (h2 : fFrom (fP ret x.s) 0 pre = -1) : mput (plF ret pre) (.int .i64 x.s) [.sc (.int .i64 (pre.length : Nat))] = plF ret (pre ++ [x]) := by
  funext v
  rw [mput_i64]
  split
  · rename_i m
    simp only [plF, fFrom_snoc]
    by_cases hm : m = x.s
    · subst hm
      have : fP ret x.s x = true := by subst h1; unfold fP; split <;> simp [fR, fI, *]
      rw [if_pos rfl, h2, if_pos rfl, if_pos this, if_neg (by omega), Nat.zero_add]
    · have : fP ret m x = false := by unfold fP; split <;> simp [fR, fI] <;> omega
      rw [if_neg hm]
      by_cases h3 : fFrom (fP ret m) 0 pre = -1
      · rw [h3]; simp [this]
      · simp [h3]
  · rename_i hne
    unfold plF
    split
    · rename_i s; exact absurd rfl (hne s)
    · rfl
theorem plF_same {ret : Bool} {pre : List Ev} {x : Ev} (h : x.r ≠ ret ∨ fFrom (fP ret x.s) 0 pre ≠ -1) : plF ret pre = plF ret (pre ++ [x]) := by
  funext v
  unfold plF
  split
  · rename_i m
    simp only [fFrom_snoc]
    by_cases h3 : fFrom (fP ret m) 0 pre = -1
    · have : fP ret m x = false := by
        rcases h with h | h
        · cases ret <;> cases hx : x.r <;> simp_all [fP, fR, fI]
        · cases hh : fP ret m x with
          | false => rfl
          | true =>
            have : x.s = m := by revert hh; unfold fP; split <;> simp [fR, fI]
            rw [this] at h
            exact absurd h3 h
      rw [h3]; simp [this]
    · simp [h3]
  · rfl
theorem plF_none {ret : Bool} {pre : List Ev} {s : Int} (h : fFrom (fP ret s) 0 pre = -1) : plF ret pre (.int .i64 s) = none := by simp [plF, h]
theorem plF_some {ret : Bool} {pre : List Ev} {s : Int} (h : fFrom (fP ret s) 0 pre ≠ -1) : plF ret pre (.int .i64 s) = some [.sc (.int .i64 (fFrom (fP ret s) 0 pre))] := by simp [plF, h]

set_option maxRecDepth 100000 in
set_option maxHeartbeats 16000000 in
theorem placesF (l : List Ev) (ret : Bool) (hl : l.length ≤ 1000000) : Fun Try.prog 44 [slV (vR l), bV ret] [.mp 0 (.int .i64) false (plF ret l)] (.v (.c (.own 0 0))) := by
  refine fun_of_vc tabOk mixOk Try.func44 rfl (by rfl) (rs := [.tmp 4]) rfl rfl 43 ?_; rw [Try.ntmps44]
  (conv => whnf); repeat (first | (refine And.intro rfl ?_; conv => whnf) | (refine And.intro (fun _ => ?_) (fun h => Bool.noConfusion h); conv => whnf) | (refine And.intro (fun h => Bool.noConfusion h) (fun _ => ?_); conv => whnf))
  refine vc_loop [1, 4, 11, 12] [] (X := Nat) (fun k gs => [(13, ATint k), (5, .v (.c (.own 10 (gs 10))))]) (fun k gs => [(10, .mp (gs 10) (.int .i64) false (plF ret (l.take k)))]) (fun k => k ≤ l.length) (fun k => l.length - k) _ (Ghost.refl _) 0 (by omega) ?_ ?_
  · (refine And.intro rfl (And.intro rfl ?_)); (repeat' (first | exact trivial | exact rfl | apply And.intro | (refine congrArg (Value.int .i64) (w64_nat ?_); omega)))
    exact congrArg (Blk.mp _ _ _) (plF_nil ret).symm
  rintro gs k hk
  (conv => whnf); repeat (first | (refine And.intro rfl ?_; conv => whnf) | (refine And.intro (fun _ => ?_) (fun h => Bool.noConfusion h); conv => whnf) | (refine And.intro (fun h => Bool.noConfusion h) (fun _ => ?_); conv => whnf))
  refine And.intro (fun h1 => ?_) (fun h1 => ?_)
  · have hlt : k < l.length := by have := of_decide_eq_true h1; rw [vLen] at this; omega
    have e1 : l.take (k + 1) = l.take k ++ [l[k]] := List.take_succ_eq_append_getElem hlt
    have p1 := @plF_put ret (l.take k) l[k]
    have p2 := @plF_same ret (l.take k) l[k]
    rw [← e1] at p1 p2
    rw [List.length_take, Nat.min_eq_left (by omega)] at p1
    (conv => whnf); repeat (first | (refine And.intro rfl ?_; conv => whnf) | (refine And.intro (fun _ => ?_) (fun h => Bool.noConfusion h); conv => whnf) | (refine And.intro (fun h => Bool.noConfusion h) (fun _ => ?_); conv => whnf))
    refine ⟨by omega, _, vItem hlt, rfl, ?_⟩
    (conv => whnf); repeat (first | (refine And.intro rfl ?_; conv => whnf) | (refine And.intro (fun _ => ?_) (fun h => Bool.noConfusion h); conv => whnf) | (refine And.intro (fun h => Bool.noConfusion h) (fun _ => ?_); conv => whnf))
    by_cases ha : fFrom (fP ret l[k].s) 0 (l.take k) = -1
    · refine ⟨_, plF_none ha, ?_⟩
      (conv => whnf); repeat (first | (refine And.intro rfl ?_; conv => whnf) | (refine And.intro (fun _ => ?_) (fun h => Bool.noConfusion h); conv => whnf) | (refine And.intro (fun h => Bool.noConfusion h) (fun _ => ?_); conv => whnf))
      repeat' (first | ((refine And.intro (fun h => ?_) (fun h => ?_)) <;> (try simp at h) <;> ((conv => whnf); repeat (first | (refine And.intro rfl ?_; conv => whnf) | (refine And.intro (fun _ => ?_) (fun h => Bool.noConfusion h); conv => whnf) | (refine And.intro (fun h => Bool.noConfusion h) (fun _ => ?_); conv => whnf)))) | fail)
      all_goals first
        | (refine again (k + 1) hlt (by omega) ?_
           (refine And.intro rfl (And.intro rfl ?_)); (repeat' (first | exact trivial | exact rfl | apply And.intro | (refine congrArg (Value.int .i64) (w64_nat ?_); omega)))
           first
             | exact congrArg (Blk.mp _ _ _) (p1 (by simp_all) ha)
             | exact congrArg (Blk.mp _ _ _) (p2 (Or.inl (by simp_all))))
    · refine ⟨_, plF_some ha, ?_⟩
      (conv => whnf); repeat (first | (refine And.intro rfl ?_; conv => whnf) | (refine And.intro (fun _ => ?_) (fun h => Bool.noConfusion h); conv => whnf) | (refine And.intro (fun h => Bool.noConfusion h) (fun _ => ?_); conv => whnf))
      refine again (k + 1) hlt (by omega) ?_
      (refine And.intro rfl (And.intro rfl ?_)); (repeat' (first | exact trivial | exact rfl | apply And.intro | (refine congrArg (Value.int .i64) (w64_nat ?_); omega)))
      exact congrArg (Blk.mp _ _ _) (p2 (Or.inr ha))
  · have hge : ¬ k < l.length := by have := of_decide_eq_false h1; rw [vLen] at this; omega
    (conv => whnf); repeat (first | (refine And.intro rfl ?_; conv => whnf) | (refine And.intro (fun _ => ?_) (fun h => Bool.noConfusion h); conv => whnf) | (refine And.intro (fun h => Bool.noConfusion h) (fun _ => ?_); conv => whnf))
    refine ⟨[10], by simp, ?_⟩
    (conv => whnf); repeat (first | (refine And.intro rfl ?_; conv => whnf) | (refine And.intro (fun _ => ?_) (fun h => Bool.noConfusion h); conv => whnf) | (refine And.intro (fun h => Bool.noConfusion h) (fun _ => ?_); conv => whnf))
    rw [List.take_of_length_le (by omega)]
    exact ⟨rfl, rfl⟩

/-- The first invocations. -/
def isB (pre : List Ev) (x : Ev) : Bool := !x.r && (fFrom (fI x.s) 0 pre == -1)
def bgo : List Ev → List Ev → List Ev
  | _, [] => []
  | pre, x :: r => (match isB pre x with | true => [x] | false => []) ++ bgo (pre ++ [x]) r
theorem fFrom_lt (p : Ev → Bool) : ∀ (a : List Ev) n, fFrom p n a = -1 ∨ ((n : Int) ≤ fFrom p n a ∧ fFrom p n a < n + a.length) := by
  intro a
  induction a with
  | nil => intro n; exact Or.inl rfl
  | cons y a ih =>
    intro n
    by_cases h : p y = true
    · rw [fFrom_yes h]; right; simp; omega
    · rw [fFrom_no h]
      rcases ih (n + 1) with h2 | h2
      · exact Or.inl h2
      · right; simp only [List.length_cons]; omega
theorem isB_at {l : List Ev} {k : Nat} (h : k < l.length) (hr : l[k].r = false) : isB (l.take k) l[k] = decide (fFrom (fI l[k].s) 0 l = (k : Int)) ∧ fFrom (fI l[k].s) 0 l ≠ -1 := by
  have e := fFrom_app (fI l[k].s) (l.drop k) (l.take k) 0
  have hl : (l.take k).length = k := by rw [List.length_take]; omega
  have hp : fI l[k].s l[k] = true := by simp [fI, hr]
  rw [List.take_append_drop, hl, Nat.zero_add, List.drop_eq_getElem_cons h, fFrom, if_pos hp] at e
  have h2 := fFrom_lt (fI l[k].s) (l.take k) 0
  rw [hl] at h2
  unfold isB
  rw [hr, Bool.not_false, Bool.true_and, e]
  by_cases h3 : fFrom (fI l[k].s) 0 (l.take k) = -1
  · rw [h3]; simp
  · rw [if_neg h3]
    refine ⟨?_, h3⟩
    rw [Bool.eq_iff_iff, beq_iff_eq, decide_eq_true_eq]
    omega

theorem bgo_step {l : List Ev} {k : Nat} (h : k < l.length) : bgo (l.take k) (l.drop k) = (match isB (l.take k) l[k] with | true => [l[k]] | false => []) ++ bgo (l.take (k + 1)) (l.drop (k + 1)) := by
  rw [List.drop_eq_getElem_cons h, bgo, List.take_succ_eq_append_getElem h]
theorem bgo_len : ∀ (r pre : List Ev), (bgo pre r).length ≤ r.length := by
  intro r
  induction r with
  | nil => intro pre; exact Nat.le_refl _
  | cons x r ih =>
    intro pre
    have := ih (pre ++ [x])
    simp only [bgo, List.length_append, List.length_cons]
    split <;> simp <;> omega
def bInv (l : List Ev) (x : Nat × List Ev) : Prop := x.1 ≤ l.length ∧ x.2.length ≤ x.1 ∧ bgo [] l = x.2 ++ bgo (l.take x.1) (l.drop x.1)
theorem bInv_in {l a : List Ev} {k : Nat} (h : bInv l (k, a)) (hlt : k < l.length) (hb : isB (l.take k) l[k] = true) : bInv l (k + 1, a ++ [l[k]]) := by
  obtain ⟨h1, h2, h3⟩ := h
  dsimp only at h1 h2 h3
  rw [bgo_step hlt, hb] at h3
  exact ⟨hlt, by simp; omega, by rw [h3]; simp⟩
theorem bInv_out {l a : List Ev} {k : Nat} (h : bInv l (k, a)) (hlt : k < l.length) (hb : isB (l.take k) l[k] = false) : bInv l (k + 1, a) := by
  obtain ⟨h1, h2, h3⟩ := h
  dsimp only at h1 h2 h3
  rw [bgo_step hlt, hb] at h3
  exact ⟨hlt, by dsimp only; omega, by rw [h3]; simp⟩
theorem bInv_end {l a : List Ev} {k : Nat} (h : bInv l (k, a)) (hge : ¬ k < l.length) : bgo [] l = a := by
  obtain ⟨h1, h2, h3⟩ := h
  dsimp only at h1 h2 h3
  rw [List.drop_of_length_le (by omega)] at h3
  rw [h3]; simp [bgo]

set_option maxRecDepth 100000 in
set_option maxHeartbeats 16000000 in
theorem begunF (l : List Ev) (hl : l.length ≤ 1000000) : Fun Try.prog 52 [slV (vR l)] [.row 0 38 8 (vR (bgo [] l))] (.v (.c (.own 0 0))) := by
  refine fun_of_vc tabOk mixOk Try.func52 rfl (by rfl) (rs := [.tmp 2]) rfl rfl 37 ?_; rw [Try.ntmps52]
  (conv => whnf); repeat (first | (refine And.intro rfl ?_; conv => whnf) | (refine And.intro (fun _ => ?_) (fun h => Bool.noConfusion h); conv => whnf) | (refine And.intro (fun h => Bool.noConfusion h) (fun _ => ?_); conv => whnf))
  refine ⟨_, _, placesF l false hl, ?_⟩
  (conv => whnf); repeat (first | (refine And.intro rfl ?_; conv => whnf) | (refine And.intro (fun _ => ?_) (fun h => Bool.noConfusion h); conv => whnf) | (refine And.intro (fun h => Bool.noConfusion h) (fun _ => ?_); conv => whnf))
  refine vc_loop [2, 9, 10] [] (X := Nat × List Ev) (fun x gs => [(11, ATint x.1), (3, .v (.c (.own 30 (gs 30)))), (4, .v (.c (.own 8 (gs 8))))]) (fun x gs => [(30, .row (gs 30) 38 8 (vR x.2)), (8, .mp (gs 8) (.int .i64) false (plF false l))]) (bInv l) (fun x => l.length - x.1) _ (Ghost.ownNil 3 30 38 8 rfl (Nat.le_of_ble_eq_true rfl)) (0, []) ⟨by omega, by simp, rfl⟩ ?_ ?_
  · (refine And.intro rfl (And.intro rfl ?_)); (repeat' (first | exact trivial | exact rfl | apply And.intro | (refine congrArg (Value.int .i64) (w64_nat ?_); omega)))
  rintro gs ⟨k, a⟩ hI
  have hk := hI.1
  have ha := hI.2.1
  dsimp only at hk ha ⊢
  (conv => whnf); repeat (first | (refine And.intro rfl ?_; conv => whnf) | (refine And.intro (fun _ => ?_) (fun h => Bool.noConfusion h); conv => whnf) | (refine And.intro (fun h => Bool.noConfusion h) (fun _ => ?_); conv => whnf))
  refine And.intro (fun h1 => ?_) (fun h1 => ?_)
  · have hlt : k < l.length := by have := of_decide_eq_true h1; rw [vLen] at this; omega
    (conv => whnf); repeat (first | (refine And.intro rfl ?_; conv => whnf) | (refine And.intro (fun _ => ?_) (fun h => Bool.noConfusion h); conv => whnf) | (refine And.intro (fun h => Bool.noConfusion h) (fun _ => ?_); conv => whnf))
    refine ⟨by omega, _, vItem hlt, rfl, ?_⟩
    (conv => whnf); repeat (first | (refine And.intro rfl ?_; conv => whnf) | (refine And.intro (fun _ => ?_) (fun h => Bool.noConfusion h); conv => whnf) | (refine And.intro (fun h => Bool.noConfusion h) (fun _ => ?_); conv => whnf))
    by_cases hr : l[k].r = true
    · have hb : isB (l.take k) l[k] = false := by simp [isB, hr]
      repeat' (first | ((refine And.intro (fun h => ?_) (fun h => ?_)) <;> (try simp at h) <;> ((conv => whnf); repeat (first | (refine And.intro rfl ?_; conv => whnf) | (refine And.intro (fun _ => ?_) (fun h => Bool.noConfusion h); conv => whnf) | (refine And.intro (fun h => Bool.noConfusion h) (fun _ => ?_); conv => whnf)))) | fail)
      all_goals first
        | (exfalso; simp_all; done)
        | (refine again (k + 1, a) (bInv_out hI hlt hb) (by dsimp only; omega) ?_
           (refine And.intro rfl (And.intro rfl ?_)); (repeat' (first | exact trivial | exact rfl | apply And.intro | (refine congrArg (Value.int .i64) (w64_nat ?_); omega))))
    · have hr' : l[k].r = false := by simpa using hr
      obtain ⟨b1, b2⟩ := isB_at hlt hr'
      have hlk := plF_some (ret := false) (show fFrom (fP false l[k].s) 0 l ≠ -1 from b2)
      repeat' (first | ((refine And.intro (fun h => ?_) (fun h => ?_)) <;> (try simp at h) <;> ((conv => whnf); repeat (first | (refine And.intro rfl ?_; conv => whnf) | (refine And.intro (fun _ => ?_) (fun h => Bool.noConfusion h); conv => whnf) | (refine And.intro (fun h => Bool.noConfusion h) (fun _ => ?_); conv => whnf)))) | (refine ⟨_, hlk, ?_⟩; ((conv => whnf); repeat (first | (refine And.intro rfl ?_; conv => whnf) | (refine And.intro (fun _ => ?_) (fun h => Bool.noConfusion h); conv => whnf) | (refine And.intro (fun h => Bool.noConfusion h) (fun _ => ?_); conv => whnf)))) | fail)
      all_goals first
        | (exfalso; simp_all; done)
        | (have hb : isB (l.take k) l[k] = true := by rw [b1]; exact decide_eq_true (show fFrom (fI l[k].s) 0 l = (k : Int) from h)
           refine ⟨vSz [l[k]], ?_⟩
           (conv => whnf); repeat (first | (refine And.intro rfl ?_; conv => whnf) | (refine And.intro (fun _ => ?_) (fun h => Bool.noConfusion h); conv => whnf) | (refine And.intro (fun h => Bool.noConfusion h) (fun _ => ?_); conv => whnf))
           refine ⟨bytes_le (by decide) (by simp [vR]; omega), ?_⟩
           (conv => whnf); repeat (first | (refine And.intro rfl ?_; conv => whnf) | (refine And.intro (fun _ => ?_) (fun h => Bool.noConfusion h); conv => whnf) | (refine And.intro (fun h => Bool.noConfusion h) (fun _ => ?_); conv => whnf))
           refine again (k + 1, a ++ [l[k]]) (bInv_in hI hlt hb) (by dsimp only; omega) ?_
           (refine And.intro rfl (And.intro rfl ?_)); (repeat' (first | exact trivial | exact rfl | apply And.intro | (refine congrArg (Value.int .i64) (w64_nat ?_); omega)))
           all_goals exact congrArg (Blk.row _ _ _) (vSnoc a l[k]))
        | (have hb : isB (l.take k) l[k] = false := by rw [b1]; exact decide_eq_false (show ¬ fFrom (fI l[k].s) 0 l = (k : Int) from h)
           refine again (k + 1, a) (bInv_out hI hlt hb) (by dsimp only; omega) ?_
           (refine And.intro rfl (And.intro rfl ?_)); (repeat' (first | exact trivial | exact rfl | apply And.intro | (refine congrArg (Value.int .i64) (w64_nat ?_); omega))))
  · have hge : ¬ k < l.length := by have := of_decide_eq_false h1; rw [vLen] at this; omega
    (conv => whnf); repeat (first | (refine And.intro rfl ?_; conv => whnf) | (refine And.intro (fun _ => ?_) (fun h => Bool.noConfusion h); conv => whnf) | (refine And.intro (fun h => Bool.noConfusion h) (fun _ => ?_); conv => whnf))
    refine ⟨[30], by simp, ?_⟩
    (conv => whnf); repeat (first | (refine And.intro rfl ?_; conv => whnf) | (refine And.intro (fun _ => ?_) (fun h => Bool.noConfusion h); conv => whnf) | (refine And.intro (fun h => Bool.noConfusion h) (fun _ => ?_); conv => whnf))
    rw [bInv_end hI hge]
    all_goals exact ⟨rfl, rfl⟩
/-- What was not answered. -/
def pnd (l : List Ev) (x : Ev) : Bool := (fFrom (fR x.s) 0 l == -1)
def pndL (l : List Ev) : List Int := ((bgo [] l).filter (pnd l)).map (·.s)
theorem filt_step {q : Ev → Bool} {L : List Ev} {k : Nat} (h : k < L.length) : ((L.take (k + 1)).filter q) = (L.take k).filter q ++ (match q L[k] with | true => [L[k]] | false => []) := by
  rw [List.take_succ_eq_append_getElem h, List.filter_append]
  congr 1
theorem wSnoc (a : List Int) (e : Int) : wV a ++ [[.sc (.int .i64 e)]] = wV (a ++ [e]) := by simp [wV]
set_option maxRecDepth 100000 in
set_option maxHeartbeats 16000000 in
theorem pendingF (l : List Ev) (hl : l.length ≤ 1000000) : Fun Try.prog 21 [slV (vR l)] [] (.v (slV (wV (pndL l)))) := by
  have hbl := bgo_len l []
  have hbg := begunF l hl
  unfold pndL
  generalize bgo [] l = L at hbl hbg
  refine fun_of_vc tabOk mixOk Try.func21 rfl (by rfl) (rs := [.tmp 2]) rfl rfl 38 ?_; rw [Try.ntmps21]
  (conv => whnf); repeat (first | (refine And.intro rfl ?_; conv => whnf) | (refine And.intro (fun _ => ?_) (fun h => Bool.noConfusion h); conv => whnf) | (refine And.intro (fun h => Bool.noConfusion h) (fun _ => ?_); conv => whnf))
  refine ⟨_, _, placesF l true hl, ?_⟩
  (conv => whnf); repeat (first | (refine And.intro rfl ?_; conv => whnf) | (refine And.intro (fun _ => ?_) (fun h => Bool.noConfusion h); conv => whnf) | (refine And.intro (fun h => Bool.noConfusion h) (fun _ => ?_); conv => whnf))
  refine ⟨_, _, hbg, ?_⟩
  (conv => whnf); repeat (first | (refine And.intro rfl ?_; conv => whnf) | (refine And.intro (fun _ => ?_) (fun h => Bool.noConfusion h); conv => whnf) | (refine And.intro (fun h => Bool.noConfusion h) (fun _ => ?_); conv => whnf))
  refine vc_loop [2, 13] [] (X := Nat) (fun k gs => [(14, ATint k), (3, .v (.c (.own 31 (gs 31)))), (4, .v (.c (.own 10 (gs 10)))), (12, .v (.c (.own 12 (gs 12))))]) (fun k gs => [(31, .row (gs 31) 3 1 (wV (((L.take k).filter (pnd l)).map (·.s)))), (10, .mp (gs 10) (.int .i64) false (plF true l)), (12, .row (gs 12) 38 8 (vR L))]) (fun k => k ≤ L.length) (fun k => L.length - k) _ (Ghost.ownNil 3 31 3 1 rfl (Nat.le_of_ble_eq_true rfl)) 0 (by omega) ?_ ?_
  · (refine And.intro rfl (And.intro rfl ?_)); (repeat' (first | exact trivial | exact rfl | apply And.intro | (refine congrArg (Value.int .i64) (w64_nat ?_); omega)))
  rintro gs k hk
  have hlen : ((L.take k).filter (pnd l)).length ≤ k := by
    have := List.length_filter_le (pnd l) (L.take k)
    rw [List.length_take] at this
    omega
  (conv => whnf); repeat (first | (refine And.intro rfl ?_; conv => whnf) | (refine And.intro (fun _ => ?_) (fun h => Bool.noConfusion h); conv => whnf) | (refine And.intro (fun h => Bool.noConfusion h) (fun _ => ?_); conv => whnf))
  refine And.intro (fun h1 => ?_) (fun h1 => ?_)
  · have hlt : k < L.length := by have := of_decide_eq_true h1; rw [vLen] at this; omega
    have hst := filt_step (q := pnd l) hlt
    (conv => whnf); repeat (first | (refine And.intro rfl ?_; conv => whnf) | (refine And.intro (fun _ => ?_) (fun h => Bool.noConfusion h); conv => whnf) | (refine And.intro (fun h => Bool.noConfusion h) (fun _ => ?_); conv => whnf))
    refine ⟨by omega, by rw [Int.toNat_natCast, vLen]; exact hlt, ?_⟩
    (conv => whnf); repeat (first | (refine And.intro rfl ?_; conv => whnf) | (refine And.intro (fun _ => ?_) (fun h => Bool.noConfusion h); conv => whnf) | (refine And.intro (fun h => Bool.noConfusion h) (fun _ => ?_); conv => whnf))
    refine ⟨_, vItem hlt, ?_⟩
    (conv => whnf); repeat (first | (refine And.intro rfl ?_; conv => whnf) | (refine And.intro (fun _ => ?_) (fun h => Bool.noConfusion h); conv => whnf) | (refine And.intro (fun h => Bool.noConfusion h) (fun _ => ?_); conv => whnf))
    by_cases hp : fFrom (fP true L[k].s) 0 l = -1
    · have hq : pnd l L[k] = true := beq_iff_eq.2 hp
      rw [hq] at hst
      refine ⟨_, plF_none hp, ?_⟩
      (conv => whnf); repeat (first | (refine And.intro rfl ?_; conv => whnf) | (refine And.intro (fun _ => ?_) (fun h => Bool.noConfusion h); conv => whnf) | (refine And.intro (fun h => Bool.noConfusion h) (fun _ => ?_); conv => whnf))
      refine ⟨wSz [L[k].s], ?_⟩
      (conv => whnf); repeat (first | (refine And.intro rfl ?_; conv => whnf) | (refine And.intro (fun _ => ?_) (fun h => Bool.noConfusion h); conv => whnf) | (refine And.intro (fun h => Bool.noConfusion h) (fun _ => ?_); conv => whnf))
      refine ⟨bytes_le (by decide) (by simp [wV]; omega), ?_⟩
      (conv => whnf); repeat (first | (refine And.intro rfl ?_; conv => whnf) | (refine And.intro (fun _ => ?_) (fun h => Bool.noConfusion h); conv => whnf) | (refine And.intro (fun h => Bool.noConfusion h) (fun _ => ?_); conv => whnf))
      refine again (k + 1) hlt (by omega) ?_
      (refine And.intro rfl (And.intro rfl ?_)); (repeat' (first | exact trivial | exact rfl | apply And.intro | (refine congrArg (Value.int .i64) (w64_nat ?_); omega)))
      all_goals (rw [hst, List.map_append]; exact congrArg (Blk.row _ _ _) (wSnoc _ _))
    · have hq : pnd l L[k] = false := by
        cases hh : pnd l L[k] with
        | false => rfl
        | true => exact absurd (beq_iff_eq.1 hh) hp
      rw [hq, List.append_nil] at hst
      refine ⟨_, plF_some hp, ?_⟩
      (conv => whnf); repeat (first | (refine And.intro rfl ?_; conv => whnf) | (refine And.intro (fun _ => ?_) (fun h => Bool.noConfusion h); conv => whnf) | (refine And.intro (fun h => Bool.noConfusion h) (fun _ => ?_); conv => whnf))
      refine again (k + 1) hlt (by omega) ?_
      (refine And.intro rfl (And.intro rfl ?_)); (repeat' (first | exact trivial | exact rfl | apply And.intro | (refine congrArg (Value.int .i64) (w64_nat ?_); omega)))
      all_goals exact congrArg (Blk.row _ _ _) (congrArg (fun z : List Ev => wV (z.map (·.s))) hst.symm)
  · have hge : ¬ k < L.length := by have := of_decide_eq_false h1; rw [vLen] at this; omega
    (conv => whnf); repeat (first | (refine And.intro rfl ?_; conv => whnf) | (refine And.intro (fun _ => ?_) (fun h => Bool.noConfusion h); conv => whnf) | (refine And.intro (fun h => Bool.noConfusion h) (fun _ => ?_); conv => whnf))
    refine Exists.intro [] (And.intro List.nodup_nil ?_); ((conv => whnf); repeat (first | (refine And.intro rfl ?_; conv => whnf) | (refine And.intro (fun _ => ?_) (fun h => Bool.noConfusion h); conv => whnf) | (refine And.intro (fun h => Bool.noConfusion h) (fun _ => ?_); conv => whnf)))
    rw [List.take_of_length_le (by omega)]; rfl

/-- Was one answered before another was invoked? -/
def bef (l : List Ev) (a b : Int) : Bool := decide (fFrom (fR a) 0 l ≠ -1) && (decide (fFrom (fI b) 0 l ≠ -1) && decide (fFrom (fR a) 0 l < fFrom (fI b) 0 l))
set_option maxRecDepth 100000 in
set_option maxHeartbeats 16000000 in
theorem beforeF (l : List Ev) (a b : Int) (hl : l.length ≤ 1000000) : Fun Try.prog 15 [slV (vR l), i64V a, i64V b] [] (ATbool (bef l a b)) := by
  have c1 : ∃ r : Option (List IV), plF true l (.int .i64 a) = r ∧ ((fFrom (fR a) 0 l = -1 ∧ r = none) ∨ (fFrom (fR a) 0 l ≠ -1 ∧ r = some [.sc (.int .i64 (fFrom (fR a) 0 l))])) := by
    by_cases h : fFrom (fP true a) 0 l = -1
    · exact ⟨_, plF_none h, Or.inl ⟨h, rfl⟩⟩
    · exact ⟨_, plF_some h, Or.inr ⟨h, rfl⟩⟩
  have c2 : ∃ r : Option (List IV), plF false l (.int .i64 b) = r ∧ ((fFrom (fI b) 0 l = -1 ∧ r = none) ∨ (fFrom (fI b) 0 l ≠ -1 ∧ r = some [.sc (.int .i64 (fFrom (fI b) 0 l))])) := by
    by_cases h : fFrom (fP false b) 0 l = -1
    · exact ⟨_, plF_none h, Or.inl ⟨h, rfl⟩⟩
    · exact ⟨_, plF_some h, Or.inr ⟨h, rfl⟩⟩
  unfold bef
  obtain ⟨r1, q1, d1⟩ := c1
  obtain ⟨r2, q2, d2⟩ := c2
  rcases d1 with ⟨d1, rfl⟩ | ⟨d1, rfl⟩ <;> rcases d2 with ⟨d2, rfl⟩ | ⟨d2, rfl⟩
  all_goals
    refine fun_of_vc tabOk mixOk Try.func15 rfl (by rfl) (rs := [.tmp 6]) rfl rfl 38 ?_; rw [Try.ntmps15]
    (conv => whnf); repeat (first | (refine And.intro rfl ?_; conv => whnf) | (refine And.intro (fun _ => ?_) (fun h => Bool.noConfusion h); conv => whnf) | (refine And.intro (fun h => Bool.noConfusion h) (fun _ => ?_); conv => whnf))
    refine ⟨_, _, placesF l true hl, ?_⟩
    (conv => whnf); repeat (first | (refine And.intro rfl ?_; conv => whnf) | (refine And.intro (fun _ => ?_) (fun h => Bool.noConfusion h); conv => whnf) | (refine And.intro (fun h => Bool.noConfusion h) (fun _ => ?_); conv => whnf))
    refine ⟨_, q1, ?_⟩
    (conv => whnf); repeat (first | (refine And.intro rfl ?_; conv => whnf) | (refine And.intro (fun _ => ?_) (fun h => Bool.noConfusion h); conv => whnf) | (refine And.intro (fun h => Bool.noConfusion h) (fun _ => ?_); conv => whnf))
    refine ⟨_, _, placesF l false hl, ?_⟩
    (conv => whnf); repeat (first | (refine And.intro rfl ?_; conv => whnf) | (refine And.intro (fun _ => ?_) (fun h => Bool.noConfusion h); conv => whnf) | (refine And.intro (fun h => Bool.noConfusion h) (fun _ => ?_); conv => whnf))
    refine ⟨_, q2, ?_⟩
    (conv => whnf); repeat (first | (refine And.intro rfl ?_; conv => whnf) | (refine And.intro (fun _ => ?_) (fun h => Bool.noConfusion h); conv => whnf) | (refine And.intro (fun h => Bool.noConfusion h) (fun _ => ?_); conv => whnf))
    repeat' (first | ((refine And.intro (fun h => ?_) (fun h => ?_)) <;> (try simp at h) <;> ((conv => whnf); repeat (first | (refine And.intro rfl ?_; conv => whnf) | (refine And.intro (fun _ => ?_) (fun h => Bool.noConfusion h); conv => whnf) | (refine And.intro (fun h => Bool.noConfusion h) (fun _ => ?_); conv => whnf)))) | fail)
    all_goals (refine Exists.intro [] (And.intro List.nodup_nil ?_); ((conv => whnf); repeat (first | (refine And.intro rfl ?_; conv => whnf) | (refine And.intro (fun _ => ?_) (fun h => Bool.noConfusion h); conv => whnf) | (refine And.intro (fun h => Bool.noConfusion h) (fun _ => ?_); conv => whnf))))
    all_goals (refine congrArg ATbool ?_)
    all_goals (simp [*]; try omega)
/-- An operation with its result. -/
def withR (l : List Ev) (x : Ev) : Ev := match l.find? (fR x.s) with
  | some y => { x with r := true, e := y.e, o := y.o }
  | none => x
def opsL (l : List Ev) : List Ev := (bgo [] l).map (withR l)
theorem map_step {L : List Ev} {k : Nat} (q : Ev → Ev) (h : k < L.length) : (L.take k).map q ++ L.drop k = (L.take k).map q ++ L[k] :: L.drop (k + 1) := by rw [List.drop_eq_getElem_cons h]
theorem mid_len {A B : List Ev} {x : Ev} {k : Nat} (h : A.length = k) : k < (A ++ x :: B).length := by simp; omega
theorem mid_get {A B : List Ev} {x : Ev} {k : Nat} (h : A.length = k) : (A ++ x :: B)[k]'(mid_len h) = x := by subst h; simp
theorem mid_set {A B : List Ev} {x y : Ev} {k : Nat} (h : A.length = k) : (A ++ x :: B).set k y = A ++ y :: B := by subst h; simp
set_option maxRecDepth 100000 in
set_option maxHeartbeats 16000000 in
theorem opsF (l : List Ev) (hl : l.length ≤ 1000000) : Fun Try.prog 20 [slV (vR l)] [] (.v (slV (vR (opsL l)))) := by
  have hbl := bgo_len l []
  have hbg := begunF l hl
  unfold opsL
  generalize bgo [] l = L at hbl hbg
  refine fun_of_vc tabOk mixOk Try.func20 rfl (by rfl) (rs := [.tmp 2]) rfl rfl 47 ?_; rw [Try.ntmps20]
  (conv => whnf); repeat (first | (refine And.intro rfl ?_; conv => whnf) | (refine And.intro (fun _ => ?_) (fun h => Bool.noConfusion h); conv => whnf) | (refine And.intro (fun h => Bool.noConfusion h) (fun _ => ?_); conv => whnf))
  refine ⟨_, _, placesF l true hl, ?_⟩
  (conv => whnf); repeat (first | (refine And.intro rfl ?_; conv => whnf) | (refine And.intro (fun _ => ?_) (fun h => Bool.noConfusion h); conv => whnf) | (refine And.intro (fun h => Bool.noConfusion h) (fun _ => ?_); conv => whnf))
  refine ⟨_, _, hbg, ?_⟩
  (conv => whnf); repeat (first | (refine And.intro rfl ?_; conv => whnf) | (refine And.intro (fun _ => ?_) (fun h => Bool.noConfusion h); conv => whnf) | (refine And.intro (fun h => Bool.noConfusion h) (fun _ => ?_); conv => whnf))
  refine vc_loop [0, 2, 14] [] (X := Nat) (fun k gs => [(15, ATint k), (3, .v (.c (.own 10 (gs 10)))), (4, .v (.c (.own 12 (gs 12)))), (13, .v (.c (.own 12 (gs 12))))]) (fun k gs => [(10, .mp (gs 10) (.int .i64) false (plF true l)), (12, .row (gs 12) 38 8 (vR ((L.take k).map (withR l) ++ L.drop k)))]) (fun k => k ≤ L.length) (fun k => L.length - k) _ (Ghost.refl _) 0 (by omega) ?_ ?_
  · (refine And.intro rfl (And.intro rfl ?_)); (repeat' (first | exact trivial | exact rfl | apply And.intro | (refine congrArg (Value.int .i64) (w64_nat ?_); omega)))
  rintro gs k hk
  have hlen : ((L.take k).map (withR l)).length = k := by rw [List.length_map, List.length_take]; omega
  (conv => whnf); repeat (first | (refine And.intro rfl ?_; conv => whnf) | (refine And.intro (fun _ => ?_) (fun h => Bool.noConfusion h); conv => whnf) | (refine And.intro (fun h => Bool.noConfusion h) (fun _ => ?_); conv => whnf))
  refine And.intro (fun h1 => ?_) (fun h1 => ?_)
  · have hlt : k < L.length := by have := of_decide_eq_true h1; rw [vLen] at this; omega
    rw [map_step _ hlt]
    have e1 : (L.take (k + 1)).map (withR l) ++ L.drop (k + 1) = (L.take k).map (withR l) ++ withR l L[k] :: L.drop (k + 1) := by
      rw [List.take_succ_eq_append_getElem hlt, List.map_append, List.append_assoc]; rfl
    generalize (L.take k).map (withR l) = A at hlen e1
    generalize hB : L.drop (k + 1) = B at e1
    have hit : (vR (A ++ L[k] :: B))[((k : Int)).toNat]? = some (vRow L[k]) := by
      have := vItem (mid_len (B := B) (x := L[k]) hlen)
      rwa [mid_get hlen] at this
    have hkl := mid_len (B := B) (x := L[k]) hlen
    have hset : ∀ y, (vR (A ++ L[k] :: B)).set ((k : Int)).toNat (vRow y) = vR (A ++ y :: B) := fun y => by rw [vset, mid_set hlen]
    (conv => whnf); repeat (first | (refine And.intro rfl ?_; conv => whnf) | (refine And.intro (fun _ => ?_) (fun h => Bool.noConfusion h); conv => whnf) | (refine And.intro (fun h => Bool.noConfusion h) (fun _ => ?_); conv => whnf))
    refine ⟨by omega, by rw [Int.toNat_natCast, vLen]; exact hkl, ?_⟩
    (conv => whnf); repeat (first | (refine And.intro rfl ?_; conv => whnf) | (refine And.intro (fun _ => ?_) (fun h => Bool.noConfusion h); conv => whnf) | (refine And.intro (fun h => Bool.noConfusion h) (fun _ => ?_); conv => whnf))
    refine ⟨_, hit, ?_⟩
    (conv => whnf); repeat (first | (refine And.intro rfl ?_; conv => whnf) | (refine And.intro (fun _ => ?_) (fun h => Bool.noConfusion h); conv => whnf) | (refine And.intro (fun h => Bool.noConfusion h) (fun _ => ?_); conv => whnf))
    by_cases hp : fFrom (fP true L[k].s) 0 l = -1
    · have hw : withR l L[k] = L[k] := by
        rcases fFrom_spec (fR L[k].s) l 0 with ⟨_, h2, _⟩ | ⟨m, hm, h2, _⟩
        · unfold withR; rw [h2]
        · rw [show fFrom (fR L[k].s) 0 l = -1 from hp] at h2; omega
      rw [hw] at e1
      refine ⟨_, plF_none hp, ?_⟩
      (conv => whnf); repeat (first | (refine And.intro rfl ?_; conv => whnf) | (refine And.intro (fun _ => ?_) (fun h => Bool.noConfusion h); conv => whnf) | (refine And.intro (fun h => Bool.noConfusion h) (fun _ => ?_); conv => whnf))
      refine again (k + 1) hlt (by omega) ?_
      (refine And.intro rfl (And.intro rfl ?_)); (repeat' (first | exact trivial | exact rfl | apply And.intro | (refine congrArg (Value.int .i64) (w64_nat ?_); omega)))
      all_goals exact congrArg (Blk.row _ _ _) (congrArg vR (e1.symm.trans (by rw [hB])))
    · rcases fFrom_spec (fR L[k].s) l 0 with ⟨h2, _⟩ | ⟨m, hm, h2, h3, _⟩
      · exact absurd h2 hp
      have hw : withR l L[k] = { L[k] with r := true, e := l[m].e, o := l[m].o } := by unfold withR; rw [h3]
      rw [hw] at e1
      have hlk := plF_some hp
      rw [show fFrom (fP true L[k].s) 0 l = ((0 + m : Nat) : Int) from h2, Nat.zero_add] at hlk
      refine ⟨_, hlk, ?_⟩
      (conv => whnf); repeat (first | (refine And.intro rfl ?_; conv => whnf) | (refine And.intro (fun _ => ?_) (fun h => Bool.noConfusion h); conv => whnf) | (refine And.intro (fun h => Bool.noConfusion h) (fun _ => ?_); conv => whnf))
      refine ⟨by omega, _, vItem hm, rfl, ?_⟩
      (conv => whnf); repeat (first | (refine And.intro rfl ?_; conv => whnf) | (refine And.intro (fun _ => ?_) (fun h => Bool.noConfusion h); conv => whnf) | (refine And.intro (fun h => Bool.noConfusion h) (fun _ => ?_); conv => whnf))
      refine ⟨by omega, by rw [Int.toNat_natCast, vLen]; exact hkl, ?_⟩
      (conv => whnf); repeat (first | (refine And.intro rfl ?_; conv => whnf) | (refine And.intro (fun _ => ?_) (fun h => Bool.noConfusion h); conv => whnf) | (refine And.intro (fun h => Bool.noConfusion h) (fun _ => ?_); conv => whnf))
      refine ⟨_, hit, ?_⟩
      have hs1 := hset { L[k] with r := true }
      have hit2 : ((vR (A ++ L[k] :: B)).set ((k : Int)).toNat (vRow { L[k] with r := true }))[((k : Int)).toNat]? = some (vRow { L[k] with r := true }) := by
        rw [hs1]
        have := vItem (mid_len (B := B) (x := { L[k] with r := true }) hlen)
        rwa [mid_get hlen] at this
      have hfin : ((vR (A ++ L[k] :: B)).set ((k : Int)).toNat (vRow { L[k] with r := true })).set ((k : Int)).toNat (vRow { L[k] with r := true, e := l[m].e, o := l[m].o }) = vR (List.map (withR l) (List.take (k + 1) L) ++ List.drop (k + 1) L) := by
        rw [hs1, vset, mid_set hlen, hB]
        exact congrArg vR e1.symm
      (conv => whnf); repeat (first | (refine And.intro rfl ?_; conv => whnf) | (refine And.intro (fun _ => ?_) (fun h => Bool.noConfusion h); conv => whnf) | (refine And.intro (fun h => Bool.noConfusion h) (fun _ => ?_); conv => whnf))
      refine ⟨by omega, by rw [List.length_set, Int.toNat_natCast, vLen]; exact hkl, ?_⟩
      (conv => whnf); repeat (first | (refine And.intro rfl ?_; conv => whnf) | (refine And.intro (fun _ => ?_) (fun h => Bool.noConfusion h); conv => whnf) | (refine And.intro (fun h => Bool.noConfusion h) (fun _ => ?_); conv => whnf))
      refine ⟨_, hit2, ?_⟩
      (conv => whnf); repeat (first | (refine And.intro rfl ?_; conv => whnf) | (refine And.intro (fun _ => ?_) (fun h => Bool.noConfusion h); conv => whnf) | (refine And.intro (fun h => Bool.noConfusion h) (fun _ => ?_); conv => whnf))
      refine again (k + 1) hlt (by omega) ?_
      (refine And.intro rfl (And.intro rfl ?_)); (repeat' (first | exact trivial | exact rfl | apply And.intro | (refine congrArg (Value.int .i64) (w64_nat ?_); omega)))
      all_goals exact congrArg (Blk.row _ _ _) hfin
  · have hge : ¬ k < L.length := by have := of_decide_eq_false h1; rw [vLen] at this; omega
    (conv => whnf); repeat (first | (refine And.intro rfl ?_; conv => whnf) | (refine And.intro (fun _ => ?_) (fun h => Bool.noConfusion h); conv => whnf) | (refine And.intro (fun h => Bool.noConfusion h) (fun _ => ?_); conv => whnf))
    refine Exists.intro [] (And.intro List.nodup_nil ?_); ((conv => whnf); repeat (first | (refine And.intro rfl ?_; conv => whnf) | (refine And.intro (fun _ => ?_) (fun h => Bool.noConfusion h); conv => whnf) | (refine And.intro (fun h => Bool.noConfusion h) (fun _ => ?_); conv => whnf)))
    rw [List.take_of_length_le (by omega), List.drop_of_length_le (by omega), List.append_nil]; rfl
end Go.Proofs.Ytmooflgfcebmaaa.Ab
