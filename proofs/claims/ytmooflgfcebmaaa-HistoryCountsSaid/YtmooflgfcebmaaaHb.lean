/- Histories: which event can follow; the document's right and Check; the code's Check, with its two maps. -/
import Derived.Test.YtmooflgfcebmaaaHa
namespace Go.Proofs.Ytmooflgfcebmaaa.Ab
set_option linter.unusedVariables false
set_option linter.unusedSimpArgs false
open Go.RowKit

def vbad (x : Ev) : Bool := decide (x.q < 0) || (decide (x.q ≥ 4) || decide (x.s < 0))
def cmE (y x : Ev) : Bool := y.k == x.k && (y.b == x.b && (y.d.toList == x.d.toList && true))
def rsE (x : Ev) : Bool := x.e == 0 && (x.o.toList == ByteArray.empty.toList && true)
def rightB (l : List Ev) (x : Ev) : Bool :=
  if vbad x = true then false
  else if x.r = false then (l.find? (fI x.s)).isNone && (!(l.any (fR x.s)) && rsE x)
  else match l.find? (fI x.s) with
    | none => false
    | some y => !(l.any (fR x.s)) && ((y.q == x.q) && (cmE y x && fitB x.k x.e x.o))
theorem fFrom_spec (p : Ev → Bool) (l : List Ev) : ∀ n, (fFrom p n l = -1 ∧ l.find? p = none ∧ l.any p = false) ∨ ∃ m, ∃ h : m < l.length, fFrom p n l = ((n + m : Nat) : Int) ∧ l.find? p = some l[m] ∧ l.any p = true ∧ p l[m] = true := by
  induction l with
  | nil => intro n; exact Or.inl ⟨rfl, rfl, rfl⟩
  | cons x l ih =>
    intro n
    by_cases hx : p x = true
    · refine Or.inr ⟨0, by simp, ?_, ?_, ?_, hx⟩
      · rw [fFrom, if_pos hx]; rfl
      · rw [List.find?_cons, hx]; rfl
      · rw [List.any_cons, hx]; rfl
    · have hx' : p x = false := by simpa using hx
      rcases ih (n + 1) with ⟨h1, h2, h3⟩ | ⟨m, h, h1, h2, h3, h4⟩
      · exact Or.inl ⟨by rw [fFrom, if_neg hx]; exact h1, by rw [List.find?_cons, hx']; exact h2, by rw [List.any_cons, hx', h3]; rfl⟩
      · refine Or.inr ⟨m + 1, by simp; omega, ?_, ?_, ?_, h4⟩
        · rw [fFrom, if_neg hx, h1]; congr 1; omega
        · rw [List.find?_cons, hx']; exact h2
        · rw [List.any_cons, hx', h3]; rfl

set_option maxRecDepth 100000 in
set_option maxHeartbeats 16000000 in
theorem rightF (l : List Ev) (r : Bool) (q s k b : Int) (d : ByteArray) (e : Int) (o : ByteArray) (hl : l.length ≤ 1000000) : Fun Try.prog 51 [slV (vR l), vA r q s k b d e o] [] (ATbool (rightB l ⟨r, q, s, k, b, d, e, o⟩)) := by
  have hi := invokedF l s hl
  have hr := returnedF l s hl
  have hf := fitF' k b d e o
  have hspec : rightB l ⟨r, q, s, k, b, d, e, o⟩ = if vbad ⟨r, q, s, k, b, d, e, o⟩ = true then false
    else if r = false then (l.find? (fI s)).isNone && (!(l.any (fR s)) && rsE ⟨r, q, s, k, b, d, e, o⟩)
    else match l.find? (fI s) with
      | none => false
      | some y => !(l.any (fR s)) && ((y.q == q) && (cmE y ⟨r, q, s, k, b, d, e, o⟩ && fitB k e o)) := rfl
  generalize rightB l ⟨r, q, s, k, b, d, e, o⟩ = RB at hspec ⊢
  rcases fFrom_spec (fR s) l 0 with ⟨r1, r2, r3⟩ | ⟨m', hm', r1, r2, r3, r4⟩ <;> rw [r1] at hr <;> rcases fFrom_spec (fI s) l 0 with ⟨i1, i2, i3⟩ | ⟨m, hm, i1, i2, i3, i4⟩ <;> rw [i1] at hi <;> rw [i2, r3] at hspec
  all_goals
    dsimp only [Option.isNone] at hspec
    try rw [Nat.zero_add] at hr
    try rw [Nat.zero_add] at hi
    refine fun_of_vc tabOk mixOk Try.func51 rfl (by rfl) (rs := [.tmp 4]) rfl rfl 81 ?_; rw [Try.ntmps51]
    (conv => whnf); repeat (first | (refine And.intro rfl ?_; conv => whnf) | (refine And.intro (fun _ => ?_) (fun h => Bool.noConfusion h); conv => whnf) | (refine And.intro (fun h => Bool.noConfusion h) (fun _ => ?_); conv => whnf))
    repeat' (first | ((refine And.intro (fun h => ?_) (fun h => ?_)) <;> (try simp at h) <;> ((conv => whnf); repeat (first | (refine And.intro rfl ?_; conv => whnf) | (refine And.intro (fun _ => ?_) (fun h => Bool.noConfusion h); conv => whnf) | (refine And.intro (fun h => Bool.noConfusion h) (fun _ => ?_); conv => whnf)))) | (refine ⟨_, _, hi, ?_⟩; ((conv => whnf); repeat (first | (refine And.intro rfl ?_; conv => whnf) | (refine And.intro (fun _ => ?_) (fun h => Bool.noConfusion h); conv => whnf) | (refine And.intro (fun h => Bool.noConfusion h) (fun _ => ?_); conv => whnf)))) | (refine ⟨_, _, hr, ?_⟩; ((conv => whnf); repeat (first | (refine And.intro rfl ?_; conv => whnf) | (refine And.intro (fun _ => ?_) (fun h => Bool.noConfusion h); conv => whnf) | (refine And.intro (fun h => Bool.noConfusion h) (fun _ => ?_); conv => whnf)))) | (refine ⟨_, _, hf, ?_⟩; ((conv => whnf); repeat (first | (refine And.intro rfl ?_; conv => whnf) | (refine And.intro (fun _ => ?_) (fun h => Bool.noConfusion h); conv => whnf) | (refine And.intro (fun h => Bool.noConfusion h) (fun _ => ?_); conv => whnf)))) | (refine ⟨by omega, _, vItem hm, rfl, ?_⟩; ((conv => whnf); repeat (first | (refine And.intro rfl ?_; conv => whnf) | (refine And.intro (fun _ => ?_) (fun h => Bool.noConfusion h); conv => whnf) | (refine And.intro (fun h => Bool.noConfusion h) (fun _ => ?_); conv => whnf)))) | fail)
    all_goals (refine Exists.intro [] (And.intro List.nodup_nil ?_); ((conv => whnf); repeat (first | (refine And.intro rfl ?_; conv => whnf) | (refine And.intro (fun _ => ?_) (fun h => Bool.noConfusion h); conv => whnf) | (refine And.intro (fun h => Bool.noConfusion h) (fun _ => ?_); conv => whnf))))
    all_goals (rw [hspec]; refine congrArg ATbool ?_; unfold vbad)
    all_goals first
      | (simp [*]; done)
      | (simp [*]; omega)
      | (simp [*, rsE, cmE]; done)
      | (simp [*, rsE, cmE]; intro a1 a2 a3; exact absurd a3 (h a1 a2))

def rgo : List Ev → List Ev → Bool
  | _, [] => true
  | pre, x :: r => rightB pre x && rgo (pre ++ [x]) r
theorem rgo_app (b c : List Ev) : ∀ a, rgo a (b ++ c) = (rgo a b && rgo (a ++ b) c) := by
  induction b with
  | nil => intro a; simp [rgo]
  | cons x b ih => intro a; simp only [List.cons_append, rgo, ih, Bool.and_assoc]; rw [List.append_assoc]; rfl
def chkH (n : Int) (l : List Ev) : Int := if n < 1 ∨ n > 128 then 1 else if l.length > 400 then 19 else if rgo [] l = true then 0 else 17
theorem rgo_step {l : List Ev} {k : Nat} (h : k < l.length) : rgo (l.take k) (l.drop k) = (rightB (l.take k) l[k] && rgo (l.take (k + 1)) (l.drop (k + 1))) := by
  rw [List.drop_eq_getElem_cons h, rgo, List.take_succ_eq_append_getElem h]
theorem vCut (l : List Ev) (k : Nat) : ((vR l).take ((k : Int)).toNat).drop (Int.toNat 0) = vR (l.take k) := by
  rw [Int.toNat_natCast, vTake]; rfl
theorem vCutD (l : List Ev) (k : Nat) : ((vR l).take (((vR l).length : Int)).toNat).drop ((k : Int)).toNat = vR (l.drop k) := by
  rw [Int.toNat_natCast, Int.toNat_natCast, List.take_length, vDrop]
set_option maxRecDepth 100000 in
set_option maxHeartbeats 16000000 in
theorem chkF' (n : Int) (l : List Ev) : Fun Try.prog 19 [i64V n, slV (vR l)] [] (.v (i64V (chkH n l))) := by
  by_cases hn : n < 1 ∨ n > 128
  · have hs : chkH n l = 1 := by unfold chkH; rw [if_pos hn]
    rw [hs]
    refine fun_of_vc tabOk mixOk Try.func19 rfl (by rfl) (rs := [.tmp 4]) rfl rfl 34 ?_; rw [Try.ntmps19]
    (conv => whnf); repeat (first | (refine And.intro rfl ?_; conv => whnf) | (refine And.intro (fun _ => ?_) (fun h => Bool.noConfusion h); conv => whnf) | (refine And.intro (fun h => Bool.noConfusion h) (fun _ => ?_); conv => whnf))
    repeat' (first | ((refine And.intro (fun h => ?_) (fun h => ?_)) <;> (try simp at h) <;> ((conv => whnf); repeat (first | (refine And.intro rfl ?_; conv => whnf) | (refine And.intro (fun _ => ?_) (fun h => Bool.noConfusion h); conv => whnf) | (refine And.intro (fun h => Bool.noConfusion h) (fun _ => ?_); conv => whnf)))) | fail)
    all_goals first
      | (exfalso; omega)
      | (refine Exists.intro [] (And.intro List.nodup_nil ?_); ((conv => whnf); repeat (first | (refine And.intro rfl ?_; conv => whnf) | (refine And.intro (fun _ => ?_) (fun h => Bool.noConfusion h); conv => whnf) | (refine And.intro (fun h => Bool.noConfusion h) (fun _ => ?_); conv => whnf)))
         rfl)
  by_cases hl : l.length > 400
  · have hs : chkH n l = 19 := by unfold chkH; rw [if_neg hn, if_pos hl]
    rw [hs]
    refine fun_of_vc tabOk mixOk Try.func19 rfl (by rfl) (rs := [.tmp 4]) rfl rfl 34 ?_; rw [Try.ntmps19]
    (conv => whnf); repeat (first | (refine And.intro rfl ?_; conv => whnf) | (refine And.intro (fun _ => ?_) (fun h => Bool.noConfusion h); conv => whnf) | (refine And.intro (fun h => Bool.noConfusion h) (fun _ => ?_); conv => whnf))
    repeat' (first | ((refine And.intro (fun h => ?_) (fun h => ?_)) <;> (try simp at h) <;> ((conv => whnf); repeat (first | (refine And.intro rfl ?_; conv => whnf) | (refine And.intro (fun _ => ?_) (fun h => Bool.noConfusion h); conv => whnf) | (refine And.intro (fun h => Bool.noConfusion h) (fun _ => ?_); conv => whnf)))) | fail)
    all_goals first
      | (exfalso; omega)
      | (refine Exists.intro [] (And.intro List.nodup_nil ?_); ((conv => whnf); repeat (first | (refine And.intro rfl ?_; conv => whnf) | (refine And.intro (fun _ => ?_) (fun h => Bool.noConfusion h); conv => whnf) | (refine And.intro (fun h => Bool.noConfusion h) (fun _ => ?_); conv => whnf)))
         rfl)
      | (exfalso; rw [vLen] at *; omega)
  have hs : chkH n l = if rgo [] l = true then 0 else 17 := by unfold chkH; rw [if_neg hn, if_neg hl]
  rw [hs]
  generalize hR : rgo [] l = RB
  refine fun_of_vc tabOk mixOk Try.func19 rfl (by rfl) (rs := [.tmp 4]) rfl rfl 34 ?_; rw [Try.ntmps19]
  (conv => whnf); repeat (first | (refine And.intro rfl ?_; conv => whnf) | (refine And.intro (fun _ => ?_) (fun h => Bool.noConfusion h); conv => whnf) | (refine And.intro (fun h => Bool.noConfusion h) (fun _ => ?_); conv => whnf))
  refine And.intro (fun h => by simp at h; omega) (fun h1 => ?_)
  (conv => whnf); repeat (first | (refine And.intro rfl ?_; conv => whnf) | (refine And.intro (fun _ => ?_) (fun h => Bool.noConfusion h); conv => whnf) | (refine And.intro (fun h => Bool.noConfusion h) (fun _ => ?_); conv => whnf))
  refine And.intro (fun h => by simp at h; omega) (fun h2 => ?_)
  (conv => whnf); repeat (first | (refine And.intro rfl ?_; conv => whnf) | (refine And.intro (fun _ => ?_) (fun h => Bool.noConfusion h); conv => whnf) | (refine And.intro (fun h => Bool.noConfusion h) (fun _ => ?_); conv => whnf))
  refine And.intro (fun h => by have := of_decide_eq_true h; rw [vLen] at this; omega) (fun h3 => ?_)
  (conv => whnf); repeat (first | (refine And.intro rfl ?_; conv => whnf) | (refine And.intro (fun _ => ?_) (fun h => Bool.noConfusion h); conv => whnf) | (refine And.intro (fun h => Bool.noConfusion h) (fun _ => ?_); conv => whnf))
  refine vc_loop [1] [] (X := Nat) (fun k gs => [(5, ATint k)]) (fun _ _ => []) (fun k => k ≤ l.length ∧ rgo (l.take k) (l.drop k) = RB) (fun k => l.length - k) _ (Ghost.refl _) 0 ⟨by omega, by simpa using hR⟩ ?_ ?_
  · (refine And.intro rfl (And.intro rfl ?_)); (repeat' (first | exact trivial | exact rfl | apply And.intro | (refine congrArg (Value.int .i64) (w64_nat ?_); omega)))
  rintro gs k ⟨hk, hF⟩
  (conv => whnf); repeat (first | (refine And.intro rfl ?_; conv => whnf) | (refine And.intro (fun _ => ?_) (fun h => Bool.noConfusion h); conv => whnf) | (refine And.intro (fun h => Bool.noConfusion h) (fun _ => ?_); conv => whnf))
  refine And.intro (fun h1 => ?_) (fun h1 => ?_)
  · have hlt : k < l.length := by have := of_decide_eq_true h1; rw [vLen] at this; omega
    rw [rgo_step hlt] at hF
    (conv => whnf); repeat (first | (refine And.intro rfl ?_; conv => whnf) | (refine And.intro (fun _ => ?_) (fun h => Bool.noConfusion h); conv => whnf) | (refine And.intro (fun h => Bool.noConfusion h) (fun _ => ?_); conv => whnf))
    refine ⟨vSz l, ?_⟩
    (conv => whnf); repeat (first | (refine And.intro rfl ?_; conv => whnf) | (refine And.intro (fun _ => ?_) (fun h => Bool.noConfusion h); conv => whnf) | (refine And.intro (fun h => Bool.noConfusion h) (fun _ => ?_); conv => whnf))
    refine ⟨by omega, by omega, by rw [vLen]; omega, ?_⟩
    (conv => whnf); repeat (first | (refine And.intro rfl ?_; conv => whnf) | (refine And.intro (fun _ => ?_) (fun h => Bool.noConfusion h); conv => whnf) | (refine And.intro (fun h => Bool.noConfusion h) (fun _ => ?_); conv => whnf))
    refine ⟨by omega, _, vItem hlt, rfl, ?_⟩
    (conv => whnf); repeat (first | (refine And.intro rfl ?_; conv => whnf) | (refine And.intro (fun _ => ?_) (fun h => Bool.noConfusion h); conv => whnf) | (refine And.intro (fun h => Bool.noConfusion h) (fun _ => ?_); conv => whnf))
    rw [vCut]
    refine ⟨_, _, rightF (l.take k) l[k].r l[k].q l[k].s l[k].k l[k].b l[k].d l[k].e l[k].o (by rw [List.length_take]; omega), ?_⟩
    (conv => whnf); repeat (first | (refine And.intro rfl ?_; conv => whnf) | (refine And.intro (fun _ => ?_) (fun h => Bool.noConfusion h); conv => whnf) | (refine And.intro (fun h => Bool.noConfusion h) (fun _ => ?_); conv => whnf))
    refine And.intro (fun h4 => ?_) (fun h4 => ?_)
    · have h4' : rightB (l.take k) l[k] = false := by simpa using h4
      (conv => whnf); repeat (first | (refine And.intro rfl ?_; conv => whnf) | (refine And.intro (fun _ => ?_) (fun h => Bool.noConfusion h); conv => whnf) | (refine And.intro (fun h => Bool.noConfusion h) (fun _ => ?_); conv => whnf))
      refine Exists.intro [] (And.intro List.nodup_nil ?_); ((conv => whnf); repeat (first | (refine And.intro rfl ?_; conv => whnf) | (refine And.intro (fun _ => ?_) (fun h => Bool.noConfusion h); conv => whnf) | (refine And.intro (fun h => Bool.noConfusion h) (fun _ => ?_); conv => whnf)))
      rw [h4', Bool.false_and] at hF
      rw [← hF]; rfl
    · have h4' : rightB (l.take k) l[k] = true := by simpa using h4
      (conv => whnf); repeat (first | (refine And.intro rfl ?_; conv => whnf) | (refine And.intro (fun _ => ?_) (fun h => Bool.noConfusion h); conv => whnf) | (refine And.intro (fun h => Bool.noConfusion h) (fun _ => ?_); conv => whnf))
      refine again (k + 1) ⟨hlt, ?_⟩ (by omega) ?_
      · rw [h4', Bool.true_and] at hF; exact hF
      · (refine And.intro rfl (And.intro rfl ?_)); (repeat' (first | exact trivial | exact rfl | apply And.intro | (refine congrArg (Value.int .i64) (w64_nat ?_); omega)))
  · have hge : ¬ k < l.length := by have := of_decide_eq_false h1; rw [vLen] at this; omega
    (conv => whnf); repeat (first | (refine And.intro rfl ?_; conv => whnf) | (refine And.intro (fun _ => ?_) (fun h => Bool.noConfusion h); conv => whnf) | (refine And.intro (fun h => Bool.noConfusion h) (fun _ => ?_); conv => whnf))
    refine Exists.intro [] (And.intro List.nodup_nil ?_); ((conv => whnf); repeat (first | (refine And.intro rfl ?_; conv => whnf) | (refine And.intro (fun _ => ?_) (fun h => Bool.noConfusion h); conv => whnf) | (refine And.intro (fun h => Bool.noConfusion h) (fun _ => ?_); conv => whnf)))
    rw [List.drop_of_length_le (by omega)] at hF
    rw [← hF]; rfl

/-- The code's first map behind some events: the first invocations. -/
def begF (pre : List Ev) (v : Value) : Option (List IV) := match v with
  | .int .i64 s => (pre.find? (fI s)).map vRow
  | _ => none
def endF (pre : List Ev) (v : Value) : Option (List IV) := match v with
  | .int .i64 s => match pre.any (fR s) with
    | true => some [.sc (.bool true)]
    | false => none
  | _ => none
theorem keyB_i64 {v : Value} {n : Int} : keyB v (.int .i64 n) = true ↔ v = .int .i64 n := by
  cases v <;> simp [keyB]
theorem mput_i64 (f : Value → Option (List IV)) (n : Int) (cs : List IV) (v : Value) : mput f (.int .i64 n) cs v = match v with
    | .int .i64 m => if m = n then some cs else f (.int .i64 m)
    | v => f v := by
  unfold mput
  cases hb : keyB v (.int .i64 n) with
  | true =>
    rw [keyB_i64.1 hb]
    simp
  | false =>
    dsimp only
    split
    · rename_i m
      rw [if_neg]
      rintro rfl
      rw [keyB_i64.2 rfl] at hb
      cases hb
    · rfl
theorem begF_put {pre : List Ev} {x : Ev} (h1 : x.r = false) (h2 : pre.find? (fI x.s) = none) : mput (begF pre) (.int .i64 x.s) (vRow x) = begF (pre ++ [x]) := by
  funext v
  rw [mput_i64]
  split
  · rename_i m
    simp only [begF, List.find?_append, List.find?_cons, List.find?_nil]
    by_cases hm : m = x.s
    · subst hm
      rw [if_pos rfl, h2]
      simp [fI, h1]
    · rw [if_neg hm]
      have : fI m x = false := by simp [fI, h1]; omega
      rw [this]
      simp
  · rename_i hne
    unfold begF
    split
    · rename_i s; exact absurd rfl (hne s)
    · rfl
theorem begF_ret {pre : List Ev} {x : Ev} (h1 : x.r = true) : begF pre = begF (pre ++ [x]) := by
  funext v
  unfold begF
  split
  · rename_i m
    rw [List.find?_append]
    simp [fI, h1]
  · rfl
theorem endF_put {pre : List Ev} {x : Ev} (h1 : x.r = true) : mput (endF pre) (.int .i64 x.s) [.sc (.bool true)] = endF (pre ++ [x]) := by
  funext v
  rw [mput_i64]
  split
  · rename_i m
    simp only [endF, List.any_append, List.any_cons, List.any_nil, Bool.or_false]
    by_cases hm : m = x.s
    · subst hm
      rw [if_pos rfl]
      simp [fR, h1]
    · rw [if_neg hm]
      have : fR m x = false := by simp [fR, h1]; omega
      rw [this, Bool.or_false]
  · rename_i hne
    unfold endF
    split
    · rename_i s; exact absurd rfl (hne s)
    · rfl
theorem endF_inv {pre : List Ev} {x : Ev} (h1 : x.r = false) : endF pre = endF (pre ++ [x]) := by
  funext v
  unfold endF
  split
  · rename_i m
    rw [List.any_append]
    simp [fR, h1]
  · rfl
/-- In a right beginning what was answered was invoked. -/
theorem rgo_any {pre : List Ev} (h : rgo [] pre = true) (s : Int) (ha : pre.any (fR s) = true) : pre.find? (fI s) ≠ none := by
  obtain ⟨x, hx, hs⟩ := List.any_eq_true.1 ha
  obtain ⟨k, hk, rfl⟩ := List.getElem_of_mem hx
  have e := rgo_app (pre.take k) (pre.drop k) []
  rw [List.take_append_drop, h, List.nil_append, rgo_step hk] at e
  have hr : rightB (pre.take k) pre[k] = true := by
    revert e
    cases rightB (pre.take k) pre[k] <;> simp
  unfold rightB at hr
  simp only [fR, Bool.and_eq_true, beq_iff_eq] at hs
  split at hr
  · cases hr
  rw [if_neg (by rw [hs.1]; simp)] at hr
  split at hr
  · cases hr
  · rename_i y hy
    rw [hs.2] at hy
    intro hn
    rw [← List.take_append_drop k pre, List.find?_append, hy] at hn
    cases hn
end Go.Proofs.Ytmooflgfcebmaaa.Ab
