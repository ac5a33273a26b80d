/- Shards: valid lists, places, the search. -/
import Derived.Test.YtgjcljjgifnjdaaSa
namespace Go.Proofs.Ytgjcljjgifnjdaa.Ab
set_option linter.unusedVariables false
set_option linter.unusedSimpArgs false
open Go.RowKit

set_option maxRecDepth 100000 in
set_option maxHeartbeats 4000000 in
theorem sentryF (b k v m z o : Int) : Fun Try.prog 52 [eA b k v m z o] [] (ATbool (rightE ⟨b, k, v, m, z, o⟩)) := by
  unfold rightE
  dsimp only
  refine fun_of_vc tabOk mixOk Try.func52 rfl (by rfl) (rs := [.tmp 2]) rfl rfl 52 ?_; rw [Try.ntmps52]
  (conv => whnf); repeat ((first | refine And.intro DrawOk.go ?_ | refine And.intro rfl ?_ | refine And.intro (fun _ => ?_) (fun h => Bool.noConfusion h) | refine And.intro (fun h => Bool.noConfusion h) (fun _ => ?_)); conv => whnf)
  repeat' (first | ((refine And.intro (fun h => ?_) (fun h => ?_)) <;> (try simp at h) <;> ((conv => whnf); repeat ((first | refine And.intro DrawOk.go ?_ | refine And.intro rfl ?_ | refine And.intro (fun _ => ?_) (fun h => Bool.noConfusion h) | refine And.intro (fun h => Bool.noConfusion h) (fun _ => ?_)); conv => whnf))) | fail)
  all_goals (refine Exists.intro [] (And.intro List.nodup_nil ?_); ((conv => whnf); repeat ((first | refine And.intro DrawOk.go ?_ | refine And.intro rfl ?_ | refine And.intro (fun _ => ?_) (fun h => Bool.noConfusion h) | refine And.intro (fun h => Bool.noConfusion h) (fun _ => ?_)); conv => whnf)))
  all_goals (refine congrArg ATbool ?_)
  all_goals (rw [Bool.eq_iff_iff])
  all_goals (simp)
  all_goals (try omega)
theorem srightE (e : Ety) : Fun Try.prog 45 [eV e] [] (ATbool (rightE e)) := srightF e.b e.k e.v e.m e.z e.o
theorem sentryE (e : Ety) : Fun Try.prog 52 [eV e] [] (ATbool (rightE e)) := sentryF e.b e.k e.v e.m e.z e.o

def vinv (es : List Ety) (i : Nat) : Prop := i ≤ es.length ∧ (i = 0 ∨ ∃ p, es[i - 1]? = some p ∧ svalid es = sordF p (es.drop i))
theorem vinv_step {es : List Ety} {i : Nat} (h : vinv es i) (hlt : i < es.length) (h1 : rightE es[i] = true) (h2 : ∀ p, 0 < i → es[i - 1]? = some p → p.b < es[i].b) : vinv es (i + 1) := by
  refine ⟨hlt, Or.inr ⟨es[i], by simp [List.getElem?_eq_getElem hlt], ?_⟩⟩
  rcases h.2 with rfl | ⟨p, hp, hq⟩
  · cases es with
    | nil => simp at hlt
    | cons e es =>
      show (rightE e && sordF e es) = _
      rw [show rightE e = true from h1]; rfl
  · by_cases h0 : i = 0
    · subst h0
      cases es with
      | nil => simp at hlt
      | cons e es =>
        show (rightE e && sordF e es) = _
        rw [show rightE e = true from h1]; rfl
    · rw [hq, List.drop_eq_getElem_cons hlt]
      simp only [sordF]
      rw [h1, decide_eq_true (h2 p (by omega) hp)]; rfl
theorem vinv_bad {es : List Ety} {i : Nat} (h : vinv es i) (hlt : i < es.length) (h1 : rightE es[i] = false ∨ ∃ p, 0 < i ∧ es[i - 1]? = some p ∧ ¬ p.b < es[i].b) : svalid es = false := by
  by_cases h0 : i = 0
  · subst h0
    rcases h1 with h1 | ⟨p, h2, _⟩
    · cases es with
      | nil => simp at hlt
      | cons e es =>
        show (rightE e && sordF e es) = _
        rw [show rightE e = false from h1]; rfl
    · omega
  · obtain ⟨p, hp, hq⟩ := h.2.resolve_left h0
    rw [hq, List.drop_eq_getElem_cons hlt]
    simp only [sordF]
    rcases h1 with h1 | ⟨p', _, hp', h3⟩
    · rw [h1]; rfl
    · obtain rfl : p = p' := by rw [hp] at hp'; injection hp'
      rw [decide_eq_false h3, Bool.and_false]; rfl
theorem vinv_end {es : List Ety} {i : Nat} (h : vinv es i) (hge : ¬ i < es.length) : svalid es = true := by
  rcases h.2 with rfl | ⟨p, hp, hq⟩
  · cases es with
    | nil => rfl
    | cons e es => simp at hge
  · rw [hq, List.drop_of_length_le (by omega)]; rfl

set_option maxRecDepth 100000 in
set_option maxHeartbeats 8000000 in
theorem svalidF (es : List Ety) (hl : es.length ≤ 1000000) : Fun Try.prog 20 [slV (eR es)] [] (ATbool (svalid es)) := by
  refine fun_of_vc tabOk mixOk Try.func20 rfl (by rfl) (rs := [.tmp 2]) rfl rfl 35 ?_; rw [Try.ntmps20]
  (conv => whnf); repeat ((first | refine And.intro DrawOk.go ?_ | refine And.intro rfl ?_ | refine And.intro (fun _ => ?_) (fun h => Bool.noConfusion h) | refine And.intro (fun h => Bool.noConfusion h) (fun _ => ?_)); conv => whnf)
  refine vc_loop [0, 5, 6] [] (X := Nat) (fun i gs => [(7, ATint i)]) (fun i gs => []) (vinv es) (fun i => es.length - i) _ (Ghost.refl _) 0 ⟨by omega, Or.inl rfl⟩ ?_ ?_
  · (refine And.intro rfl (And.intro rfl ?_)); (repeat' (first | exact trivial | exact rfl | apply And.intro | (refine congrArg (Value.int .i64) (w64_nat ?_); omega)))
  rintro gs i hi
  have hi1 := hi.1
  (conv => whnf); repeat ((first | refine And.intro DrawOk.go ?_ | refine And.intro rfl ?_ | refine And.intro (fun _ => ?_) (fun h => Bool.noConfusion h) | refine And.intro (fun h => Bool.noConfusion h) (fun _ => ?_)); conv => whnf)
  refine And.intro (fun h => ?_) (fun h => ?_)
  · have hlt : i < es.length := by have := of_decide_eq_true h; simp [eR] at this; omega
    (conv => whnf); repeat ((first | refine And.intro DrawOk.go ?_ | refine And.intro rfl ?_ | refine And.intro (fun _ => ?_) (fun h => Bool.noConfusion h) | refine And.intro (fun h => Bool.noConfusion h) (fun _ => ?_)); conv => whnf)
    refine ⟨by omega, _, eItem hlt, rfl, ?_⟩
    (conv => whnf); repeat ((first | refine And.intro DrawOk.go ?_ | refine And.intro rfl ?_ | refine And.intro (fun _ => ?_) (fun h => Bool.noConfusion h) | refine And.intro (fun h => Bool.noConfusion h) (fun _ => ?_)); conv => whnf)
    refine ⟨_, _, srightE es[i], ?_⟩
    (conv => whnf); repeat ((first | refine And.intro DrawOk.go ?_ | refine And.intro rfl ?_ | refine And.intro (fun _ => ?_) (fun h => Bool.noConfusion h) | refine And.intro (fun h => Bool.noConfusion h) (fun _ => ?_)); conv => whnf)
    refine And.intro (fun h2 => ?_) (fun h2 => ?_)
    · (conv => whnf); repeat ((first | refine And.intro DrawOk.go ?_ | refine And.intro rfl ?_ | refine And.intro (fun _ => ?_) (fun h => Bool.noConfusion h) | refine And.intro (fun h => Bool.noConfusion h) (fun _ => ?_)); conv => whnf)
      refine Exists.intro [] (And.intro List.nodup_nil ?_); ((conv => whnf); repeat ((first | refine And.intro DrawOk.go ?_ | refine And.intro rfl ?_ | refine And.intro (fun _ => ?_) (fun h => Bool.noConfusion h) | refine And.intro (fun h => Bool.noConfusion h) (fun _ => ?_)); conv => whnf))
      rw [vinv_bad hi hlt (Or.inl (by simpa using h2))]; rfl
    have h2' : rightE es[i] = true := by simpa using h2
    (conv => whnf); repeat ((first | refine And.intro DrawOk.go ?_ | refine And.intro rfl ?_ | refine And.intro (fun _ => ?_) (fun h => Bool.noConfusion h) | refine And.intro (fun h => Bool.noConfusion h) (fun _ => ?_)); conv => whnf)
    refine And.intro (fun h3 => ?_) (fun h3 => ?_)
    · have h3' : 0 < i := by have := of_decide_eq_true h3; omega
      have hw : iwrap .i64 ((i : Int) - 1) = ((i - 1 : Nat) : Int) := (w64_in (by omega)).trans (by omega)
      have hl1 : i - 1 < es.length := by omega
      have hp : es[i - 1]? = some es[i - 1] := List.getElem?_eq_getElem hl1
      (conv => whnf); repeat ((first | refine And.intro DrawOk.go ?_ | refine And.intro rfl ?_ | refine And.intro (fun _ => ?_) (fun h => Bool.noConfusion h) | refine And.intro (fun h => Bool.noConfusion h) (fun _ => ?_)); conv => whnf)
      refine ⟨by rw [hw]; omega, _, (by rw [hw]; exact eItem hl1), rfl, ?_⟩
      (conv => whnf); repeat ((first | refine And.intro DrawOk.go ?_ | refine And.intro rfl ?_ | refine And.intro (fun _ => ?_) (fun h => Bool.noConfusion h) | refine And.intro (fun h => Bool.noConfusion h) (fun _ => ?_)); conv => whnf)
      refine And.intro (fun h4 => ?_) (fun h4 => ?_)
      · have h4' := of_decide_eq_true h4
        (conv => whnf); repeat ((first | refine And.intro DrawOk.go ?_ | refine And.intro rfl ?_ | refine And.intro (fun _ => ?_) (fun h => Bool.noConfusion h) | refine And.intro (fun h => Bool.noConfusion h) (fun _ => ?_)); conv => whnf)
        refine Exists.intro [] (And.intro List.nodup_nil ?_); ((conv => whnf); repeat ((first | refine And.intro DrawOk.go ?_ | refine And.intro rfl ?_ | refine And.intro (fun _ => ?_) (fun h => Bool.noConfusion h) | refine And.intro (fun h => Bool.noConfusion h) (fun _ => ?_)); conv => whnf))
        rw [vinv_bad hi hlt (Or.inr ⟨_, h3', hp, by omega⟩)]; rfl
      · have h4' := of_decide_eq_false h4
        (conv => whnf); repeat ((first | refine And.intro DrawOk.go ?_ | refine And.intro rfl ?_ | refine And.intro (fun _ => ?_) (fun h => Bool.noConfusion h) | refine And.intro (fun h => Bool.noConfusion h) (fun _ => ?_)); conv => whnf)
        refine again (i + 1) (vinv_step hi hlt h2' (fun p _ hp' => by rw [hp] at hp'; injection hp' with hp'; subst hp'; omega)) (by omega) ?_
        (refine And.intro rfl (And.intro rfl ?_)); (repeat' (first | exact trivial | exact rfl | apply And.intro | (refine congrArg (Value.int .i64) (w64_nat ?_); omega)))
    · have h3' := of_decide_eq_false h3
      (conv => whnf); repeat ((first | refine And.intro DrawOk.go ?_ | refine And.intro rfl ?_ | refine And.intro (fun _ => ?_) (fun h => Bool.noConfusion h) | refine And.intro (fun h => Bool.noConfusion h) (fun _ => ?_)); conv => whnf)
      refine again (i + 1) (vinv_step hi hlt h2' (fun p h _ => by omega)) (by omega) ?_
      (refine And.intro rfl (And.intro rfl ?_)); (repeat' (first | exact trivial | exact rfl | apply And.intro | (refine congrArg (Value.int .i64) (w64_nat ?_); omega)))
  · have hge : ¬ i < es.length := by have := of_decide_eq_false h; simp [eR] at this; omega
    (conv => whnf); repeat ((first | refine And.intro DrawOk.go ?_ | refine And.intro rfl ?_ | refine And.intro (fun _ => ?_) (fun h => Bool.noConfusion h) | refine And.intro (fun h => Bool.noConfusion h) (fun _ => ?_)); conv => whnf)
    refine Exists.intro [] (And.intro List.nodup_nil ?_); ((conv => whnf); repeat ((first | refine And.intro DrawOk.go ?_ | refine And.intro rfl ?_ | refine And.intro (fun _ => ?_) (fun h => Bool.noConfusion h) | refine And.intro (fun h => Bool.noConfusion h) (fun _ => ?_)); conv => whnf))
    rw [vinv_end hi hge]; rfl

set_option maxRecDepth 100000 in
set_option maxHeartbeats 8000000 in
theorem svalidF' (es : List Ety) (hl : es.length ≤ 1000000) : Fun Try.prog 51 [slV (eR es)] [] (ATbool (svalid es)) := by
  refine fun_of_vc tabOk mixOk Try.func51 rfl (by rfl) (rs := [.tmp 2]) rfl rfl 38 ?_; rw [Try.ntmps51]
  (conv => whnf); repeat ((first | refine And.intro DrawOk.go ?_ | refine And.intro rfl ?_ | refine And.intro (fun _ => ?_) (fun h => Bool.noConfusion h) | refine And.intro (fun h => Bool.noConfusion h) (fun _ => ?_)); conv => whnf)
  refine vc_loop [0] [] (X := Nat) (fun i gs => [(3, ATint i)]) (fun i gs => []) (vinv es) (fun i => es.length - i) _ (Ghost.refl _) 0 ⟨by omega, Or.inl rfl⟩ ?_ ?_
  · (refine And.intro rfl (And.intro rfl ?_)); (repeat' (first | exact trivial | exact rfl | apply And.intro | (refine congrArg (Value.int .i64) (w64_nat ?_); omega)))
  rintro gs i hi
  have hi1 := hi.1
  (conv => whnf); repeat ((first | refine And.intro DrawOk.go ?_ | refine And.intro rfl ?_ | refine And.intro (fun _ => ?_) (fun h => Bool.noConfusion h) | refine And.intro (fun h => Bool.noConfusion h) (fun _ => ?_)); conv => whnf)
  refine And.intro (fun h => ?_) (fun h => ?_)
  · have hlt : i < es.length := by have := of_decide_eq_true h; simp [eR] at this; omega
    (conv => whnf); repeat ((first | refine And.intro DrawOk.go ?_ | refine And.intro rfl ?_ | refine And.intro (fun _ => ?_) (fun h => Bool.noConfusion h) | refine And.intro (fun h => Bool.noConfusion h) (fun _ => ?_)); conv => whnf)
    refine ⟨by omega, _, eItem hlt, rfl, ?_⟩
    (conv => whnf); repeat ((first | refine And.intro DrawOk.go ?_ | refine And.intro rfl ?_ | refine And.intro (fun _ => ?_) (fun h => Bool.noConfusion h) | refine And.intro (fun h => Bool.noConfusion h) (fun _ => ?_)); conv => whnf)
    refine ⟨_, _, sentryE es[i], ?_⟩
    (conv => whnf); repeat ((first | refine And.intro DrawOk.go ?_ | refine And.intro rfl ?_ | refine And.intro (fun _ => ?_) (fun h => Bool.noConfusion h) | refine And.intro (fun h => Bool.noConfusion h) (fun _ => ?_)); conv => whnf)
    refine And.intro (fun h2 => ?_) (fun h2 => ?_)
    · (conv => whnf); repeat ((first | refine And.intro DrawOk.go ?_ | refine And.intro rfl ?_ | refine And.intro (fun _ => ?_) (fun h => Bool.noConfusion h) | refine And.intro (fun h => Bool.noConfusion h) (fun _ => ?_)); conv => whnf)
      refine Exists.intro [] (And.intro List.nodup_nil ?_); ((conv => whnf); repeat ((first | refine And.intro DrawOk.go ?_ | refine And.intro rfl ?_ | refine And.intro (fun _ => ?_) (fun h => Bool.noConfusion h) | refine And.intro (fun h => Bool.noConfusion h) (fun _ => ?_)); conv => whnf))
      rw [vinv_bad hi hlt (Or.inl (by simpa using h2))]; rfl
    have h2' : rightE es[i] = true := by simpa using h2
    (conv => whnf); repeat ((first | refine And.intro DrawOk.go ?_ | refine And.intro rfl ?_ | refine And.intro (fun _ => ?_) (fun h => Bool.noConfusion h) | refine And.intro (fun h => Bool.noConfusion h) (fun _ => ?_)); conv => whnf)
    refine And.intro (fun h3 => ?_) (fun h3 => ?_)
    · have h3' : 0 < i := by have := of_decide_eq_true h3; omega
      have hw : iwrap .i64 ((i : Int) - 1) = ((i - 1 : Nat) : Int) := (w64_in (by omega)).trans (by omega)
      have hl1 : i - 1 < es.length := by omega
      have hp : es[i - 1]? = some es[i - 1] := List.getElem?_eq_getElem hl1
      (conv => whnf); repeat ((first | refine And.intro DrawOk.go ?_ | refine And.intro rfl ?_ | refine And.intro (fun _ => ?_) (fun h => Bool.noConfusion h) | refine And.intro (fun h => Bool.noConfusion h) (fun _ => ?_)); conv => whnf)
      refine ⟨by omega, _, eItem hlt, rfl, ?_⟩
      (conv => whnf); repeat ((first | refine And.intro DrawOk.go ?_ | refine And.intro rfl ?_ | refine And.intro (fun _ => ?_) (fun h => Bool.noConfusion h) | refine And.intro (fun h => Bool.noConfusion h) (fun _ => ?_)); conv => whnf)
      refine ⟨by rw [hw]; omega, _, (by rw [hw]; exact eItem hl1), rfl, ?_⟩
      (conv => whnf); repeat ((first | refine And.intro DrawOk.go ?_ | refine And.intro rfl ?_ | refine And.intro (fun _ => ?_) (fun h => Bool.noConfusion h) | refine And.intro (fun h => Bool.noConfusion h) (fun _ => ?_)); conv => whnf)
      refine And.intro (fun h4 => ?_) (fun h4 => ?_)
      · have h4' := of_decide_eq_true h4
        (conv => whnf); repeat ((first | refine And.intro DrawOk.go ?_ | refine And.intro rfl ?_ | refine And.intro (fun _ => ?_) (fun h => Bool.noConfusion h) | refine And.intro (fun h => Bool.noConfusion h) (fun _ => ?_)); conv => whnf)
        refine Exists.intro [] (And.intro List.nodup_nil ?_); ((conv => whnf); repeat ((first | refine And.intro DrawOk.go ?_ | refine And.intro rfl ?_ | refine And.intro (fun _ => ?_) (fun h => Bool.noConfusion h) | refine And.intro (fun h => Bool.noConfusion h) (fun _ => ?_)); conv => whnf))
        rw [vinv_bad hi hlt (Or.inr ⟨_, h3', hp, by omega⟩)]; rfl
      · have h4' := of_decide_eq_false h4
        (conv => whnf); repeat ((first | refine And.intro DrawOk.go ?_ | refine And.intro rfl ?_ | refine And.intro (fun _ => ?_) (fun h => Bool.noConfusion h) | refine And.intro (fun h => Bool.noConfusion h) (fun _ => ?_)); conv => whnf)
        refine again (i + 1) (vinv_step hi hlt h2' (fun p _ hp' => by rw [hp] at hp'; injection hp' with hp'; subst hp'; omega)) (by omega) ?_
        (refine And.intro rfl (And.intro rfl ?_)); (repeat' (first | exact trivial | exact rfl | apply And.intro | (refine congrArg (Value.int .i64) (w64_nat ?_); omega)))
    · have h3' := of_decide_eq_false h3
      (conv => whnf); repeat ((first | refine And.intro DrawOk.go ?_ | refine And.intro rfl ?_ | refine And.intro (fun _ => ?_) (fun h => Bool.noConfusion h) | refine And.intro (fun h => Bool.noConfusion h) (fun _ => ?_)); conv => whnf)
      refine again (i + 1) (vinv_step hi hlt h2' (fun p h _ => by omega)) (by omega) ?_
      (refine And.intro rfl (And.intro rfl ?_)); (repeat' (first | exact trivial | exact rfl | apply And.intro | (refine congrArg (Value.int .i64) (w64_nat ?_); omega)))
  · have hge : ¬ i < es.length := by have := of_decide_eq_false h; simp [eR] at this; omega
    (conv => whnf); repeat ((first | refine And.intro DrawOk.go ?_ | refine And.intro rfl ?_ | refine And.intro (fun _ => ?_) (fun h => Bool.noConfusion h) | refine And.intro (fun h => Bool.noConfusion h) (fun _ => ?_)); conv => whnf)
    refine Exists.intro [] (And.intro List.nodup_nil ?_); ((conv => whnf); repeat ((first | refine And.intro DrawOk.go ?_ | refine And.intro rfl ?_ | refine And.intro (fun _ => ?_) (fun h => Bool.noConfusion h) | refine And.intro (fun h => Bool.noConfusion h) (fun _ => ?_)); conv => whnf))
    rw [vinv_end hi hge]; rfl

set_option maxRecDepth 100000 in
set_option maxHeartbeats 8000000 in
theorem splaceF (es : List Ety) (b : Int) (hl : es.length ≤ 1000000) : Fun Try.prog 53 [slV (eR es), i64V b] [] (.v (i64V (splace es b))) := by
  refine fun_of_vc tabOk mixOk Try.func53 rfl (by rfl) (rs := [.tmp 4]) rfl rfl 26 ?_; rw [Try.ntmps53]
  (conv => whnf); repeat ((first | refine And.intro DrawOk.go ?_ | refine And.intro rfl ?_ | refine And.intro (fun _ => ?_) (fun h => Bool.noConfusion h) | refine And.intro (fun h => Bool.noConfusion h) (fun _ => ?_)); conv => whnf)
  refine vc_loop [0, 1, 4] [] (X := Nat) (fun i gs => [(5, ATint i)]) (fun i gs => []) (fun i => i ≤ es.length ∧ ∀ j (hj : j < es.length), j < i → es[j].b < b) (fun i => es.length - i) _ (Ghost.refl _) 0 ⟨by omega, fun j _ h => by omega⟩ ?_ ?_
  · (refine And.intro rfl (And.intro rfl ?_)); (repeat' (first | exact trivial | exact rfl | apply And.intro | (refine congrArg (Value.int .i64) (w64_nat ?_); omega)))
  rintro gs i ⟨hi, hq⟩
  (conv => whnf); repeat ((first | refine And.intro DrawOk.go ?_ | refine And.intro rfl ?_ | refine And.intro (fun _ => ?_) (fun h => Bool.noConfusion h) | refine And.intro (fun h => Bool.noConfusion h) (fun _ => ?_)); conv => whnf)
  refine And.intro (fun h => ?_) (fun h => ?_)
  · have hlt : i < es.length := by have := of_decide_eq_true h; simp [eR] at this; omega
    (conv => whnf); repeat ((first | refine And.intro DrawOk.go ?_ | refine And.intro rfl ?_ | refine And.intro (fun _ => ?_) (fun h => Bool.noConfusion h) | refine And.intro (fun h => Bool.noConfusion h) (fun _ => ?_)); conv => whnf)
    refine ⟨by omega, _, eItem hlt, rfl, ?_⟩
    (conv => whnf); repeat ((first | refine And.intro DrawOk.go ?_ | refine And.intro rfl ?_ | refine And.intro (fun _ => ?_) (fun h => Bool.noConfusion h) | refine And.intro (fun h => Bool.noConfusion h) (fun _ => ?_)); conv => whnf)
    refine And.intro (fun h2 => ?_) (fun h2 => ?_)
    · have h2' := of_decide_eq_true h2
      (conv => whnf); repeat ((first | refine And.intro DrawOk.go ?_ | refine And.intro rfl ?_ | refine And.intro (fun _ => ?_) (fun h => Bool.noConfusion h) | refine And.intro (fun h => Bool.noConfusion h) (fun _ => ?_)); conv => whnf)
      refine again (i + 1) ⟨hlt, fun j hj h => ?_⟩ (by omega) ?_
      · by_cases e : j = i
        · subst e; exact h2'
        · exact hq j hj (by omega)
      (refine And.intro rfl (And.intro rfl ?_)); (repeat' (first | exact trivial | exact rfl | apply And.intro | (refine congrArg (Value.int .i64) (w64_nat ?_); omega)))
    · have h2' := of_decide_eq_false h2
      have e := splace_uniq hi hq (fun _ => by omega)
      (conv => whnf); repeat ((first | refine And.intro DrawOk.go ?_ | refine And.intro rfl ?_ | refine And.intro (fun _ => ?_) (fun h => Bool.noConfusion h) | refine And.intro (fun h => Bool.noConfusion h) (fun _ => ?_)); conv => whnf)
      refine Exists.intro [] (And.intro List.nodup_nil ?_); ((conv => whnf); repeat ((first | refine And.intro DrawOk.go ?_ | refine And.intro rfl ?_ | refine And.intro (fun _ => ?_) (fun h => Bool.noConfusion h) | refine And.intro (fun h => Bool.noConfusion h) (fun _ => ?_)); conv => whnf))
      rw [e]; rfl
  · have hge : ¬ i < es.length := by have := of_decide_eq_false h; simp [eR] at this; omega
    have e := splace_uniq hi hq (fun h => absurd h hge)
    (conv => whnf); repeat ((first | refine And.intro DrawOk.go ?_ | refine And.intro rfl ?_ | refine And.intro (fun _ => ?_) (fun h => Bool.noConfusion h) | refine And.intro (fun h => Bool.noConfusion h) (fun _ => ?_)); conv => whnf)
    refine Exists.intro [] (And.intro List.nodup_nil ?_); ((conv => whnf); repeat ((first | refine And.intro DrawOk.go ?_ | refine And.intro rfl ?_ | refine And.intro (fun _ => ?_) (fun h => Bool.noConfusion h) | refine And.intro (fun h => Bool.noConfusion h) (fun _ => ?_)); conv => whnf))
    rw [e]; rfl
end Go.Proofs.Ytgjcljjgifnjdaa.Ab
