/- Checkpoints: what is read from records, of both. No condition. -/
import Derived.Test.YtkpicojhnnkibaaKc
namespace Go.Proofs.Ytkpicojhnnkibaa.Ab
set_option linter.unusedVariables false
set_option linter.unusedSimpArgs false
open Go.RowKit

theorem take_eq_step {α : Type} {a b : List α} {k : Nat} (h : a.take k = b.take k) (ha : k < a.length) (hb : k < b.length) (he : a[k] = b[k]) : a.take (k + 1) = b.take (k + 1) := by
  rw [List.take_succ_eq_append_getElem ha, List.take_succ_eq_append_getElem hb, h, he]
set_option maxRecDepth 100000 in
set_option maxHeartbeats 8000000 in
theorem csrF (a b : List Rec) (hl : a.length ≤ 140737488355328) (hl2 : b.length ≤ 140737488355328) : Fun Try.prog 16 [slV (rR a), slV (rR b)] [] (ATbool (decide (a = b))) := by
  by_cases hn : a.length = b.length
  rotate_left
  · rw [decide_eq_false (fun h => hn (by rw [h]))]
    refine fun_of_vc tabOk mixOk Try.func16 rfl (by rfl) (rs := [.tmp 4]) rfl rfl 30 ?_; rw [Try.ntmps16]
    (conv => whnf); repeat ((first | refine And.intro DrawOk.go ?_ | refine And.intro rfl ?_ | refine And.intro (fun _ => ?_) (fun h => Bool.noConfusion h) | refine And.intro (fun h => Bool.noConfusion h) (fun _ => ?_)); conv => whnf)
    refine And.intro (fun h => ?_) (fun h => absurd h (by simp [rLen, hn]; omega))
    (conv => whnf); repeat ((first | refine And.intro DrawOk.go ?_ | refine And.intro rfl ?_ | refine And.intro (fun _ => ?_) (fun h => Bool.noConfusion h) | refine And.intro (fun h => Bool.noConfusion h) (fun _ => ?_)); conv => whnf)
    refine Exists.intro [] (And.intro List.nodup_nil ?_); ((conv => whnf); repeat ((first | refine And.intro DrawOk.go ?_ | refine And.intro rfl ?_ | refine And.intro (fun _ => ?_) (fun h => Bool.noConfusion h) | refine And.intro (fun h => Bool.noConfusion h) (fun _ => ?_)); conv => whnf))
    rfl
  generalize hR : decide (a = b) = R
  refine fun_of_vc tabOk mixOk Try.func16 rfl (by rfl) (rs := [.tmp 4]) rfl rfl 30 ?_; rw [Try.ntmps16]
  (conv => whnf); repeat ((first | refine And.intro DrawOk.go ?_ | refine And.intro rfl ?_ | refine And.intro (fun _ => ?_) (fun h => Bool.noConfusion h) | refine And.intro (fun h => Bool.noConfusion h) (fun _ => ?_)); conv => whnf)
  refine And.intro (fun h => absurd h (by simp [rLen, hn])) (fun h => ?_)
  (conv => whnf); repeat ((first | refine And.intro DrawOk.go ?_ | refine And.intro rfl ?_ | refine And.intro (fun _ => ?_) (fun h => Bool.noConfusion h) | refine And.intro (fun h => Bool.noConfusion h) (fun _ => ?_)); conv => whnf)
  refine vc_loop [0, 1] [] (X := Nat) (fun x gs => [(5, ATint x)]) (fun _ _ => []) (fun x => x ≤ a.length ∧ a.take x = b.take x) (fun x => a.length - x) _ (Ghost.refl _) 0 ⟨Nat.zero_le _, rfl⟩ ?_ ?_
  · (refine And.intro rfl (And.intro rfl ?_)); (repeat' (first | exact trivial | exact rfl | apply And.intro | (refine congrArg (Value.int .i64) (w64_nat ?_); omega)))
  rintro gs k ⟨hk, he⟩
  (conv => whnf); repeat ((first | refine And.intro DrawOk.go ?_ | refine And.intro rfl ?_ | refine And.intro (fun _ => ?_) (fun h => Bool.noConfusion h) | refine And.intro (fun h => Bool.noConfusion h) (fun _ => ?_)); conv => whnf)
  refine And.intro (fun h => ?_) (fun h => ?_)
  · have hlt : k < a.length := by have := of_decide_eq_true h; rw [rLen] at this; omega
    have hlt2 : k < b.length := by omega
    (conv => whnf); repeat ((first | refine And.intro DrawOk.go ?_ | refine And.intro rfl ?_ | refine And.intro (fun _ => ?_) (fun h => Bool.noConfusion h) | refine And.intro (fun h => Bool.noConfusion h) (fun _ => ?_)); conv => whnf)
    refine ⟨by omega, _, rItem hlt, rfl, ?_⟩
    (conv => whnf); repeat ((first | refine And.intro DrawOk.go ?_ | refine And.intro rfl ?_ | refine And.intro (fun _ => ?_) (fun h => Bool.noConfusion h) | refine And.intro (fun h => Bool.noConfusion h) (fun _ => ?_)); conv => whnf)
    refine ⟨by omega, _, rItem hlt2, rfl, ?_⟩
    (conv => whnf); repeat ((first | refine And.intro DrawOk.go ?_ | refine And.intro rfl ?_ | refine And.intro (fun _ => ?_) (fun h => Bool.noConfusion h) | refine And.intro (fun h => Bool.noConfusion h) (fun _ => ?_)); conv => whnf)
    refine And.intro (fun h => ?_) (fun h => ?_)
    · have h' : (!rEq a[k] b[k]) = true := h
      have hne : a ≠ b := by
        rintro rfl
        rw [rEq_self] at h'
        cases h'
      (conv => whnf); repeat ((first | refine And.intro DrawOk.go ?_ | refine And.intro rfl ?_ | refine And.intro (fun _ => ?_) (fun h => Bool.noConfusion h) | refine And.intro (fun h => Bool.noConfusion h) (fun _ => ?_)); conv => whnf)
      refine Exists.intro [] (And.intro List.nodup_nil ?_); ((conv => whnf); repeat ((first | refine And.intro DrawOk.go ?_ | refine And.intro rfl ?_ | refine And.intro (fun _ => ?_) (fun h => Bool.noConfusion h) | refine And.intro (fun h => Bool.noConfusion h) (fun _ => ?_)); conv => whnf))
      rw [← hR, decide_eq_false hne]
      rfl
    · have h' : (!rEq a[k] b[k]) = false := h
      have hq : a[k] = b[k] := rEq_iff.1 (by simpa using h')
      (conv => whnf); repeat ((first | refine And.intro DrawOk.go ?_ | refine And.intro rfl ?_ | refine And.intro (fun _ => ?_) (fun h => Bool.noConfusion h) | refine And.intro (fun h => Bool.noConfusion h) (fun _ => ?_)); conv => whnf)
      refine again (k + 1) ⟨hlt, take_eq_step he hlt hlt2 hq⟩ (by omega) ?_
      (refine And.intro rfl (And.intro rfl ?_)); (repeat' (first | exact trivial | exact rfl | apply And.intro | (refine congrArg (Value.int .i64) (w64_nat ?_); omega)))
  · have hge : ¬ k < a.length := by have := of_decide_eq_false h; rw [rLen] at this; omega
    rw [List.take_of_length_le (by omega), List.take_of_length_le (by omega)] at he
    (conv => whnf); repeat ((first | refine And.intro DrawOk.go ?_ | refine And.intro rfl ?_ | refine And.intro (fun _ => ?_) (fun h => Bool.noConfusion h) | refine And.intro (fun h => Bool.noConfusion h) (fun _ => ?_)); conv => whnf)
    refine Exists.intro [] (And.intro List.nodup_nil ?_); ((conv => whnf); repeat ((first | refine And.intro DrawOk.go ?_ | refine And.intro rfl ?_ | refine And.intro (fun _ => ?_) (fun h => Bool.noConfusion h) | refine And.intro (fun h => Bool.noConfusion h) (fun _ => ?_)); conv => whnf))
    rw [← hR, decide_eq_true he]
    rfl
set_option maxRecDepth 100000 in
set_option maxHeartbeats 8000000 in
theorem csameF (s n c : Int) (es : List Ety) (s' n' c' : Int) (es' : List Ety) (hl : es.length ≤ 140737488355328) (hl2 : es'.length ≤ 140737488355328) : Fun Try.prog 17 [bseA s n c es, bseA s' n' c' es'] [] (ATbool (bsame ⟨s, n, c, es⟩ ⟨s', n', c', es'⟩)) := by
  generalize hR : bsame ⟨s, n, c, es⟩ ⟨s', n', c', es'⟩ = R
  by_cases hq : s = s' ∧ n = n' ∧ c = c' ∧ es.length = es'.length
  rotate_left
  · have hR' : R = false := by
      rw [← hR]
      refine decide_eq_false (fun h => hq ?_)
      obtain ⟨h1, h2, h3, h4⟩ := h
      dsimp only at h1 h2 h3 h4
      exact ⟨h1, h2, h3, by rw [h4]⟩
    subst hR'
    clear hR
    refine fun_of_vc tabOk mixOk Try.func17 rfl (by rfl) (rs := [.tmp 4]) rfl rfl 56 ?_; rw [Try.ntmps17]
    (conv => whnf); repeat ((first | refine And.intro DrawOk.go ?_ | refine And.intro rfl ?_ | refine And.intro (fun _ => ?_) (fun h => Bool.noConfusion h) | refine And.intro (fun h => Bool.noConfusion h) (fun _ => ?_)); conv => whnf)
    repeat' (first | ((refine And.intro (fun h => ?_) (fun h => ?_)) <;> (try simp at h) <;> ((conv => whnf); repeat ((first | refine And.intro DrawOk.go ?_ | refine And.intro rfl ?_ | refine And.intro (fun _ => ?_) (fun h => Bool.noConfusion h) | refine And.intro (fun h => Bool.noConfusion h) (fun _ => ?_)); conv => whnf))) | fail)
    all_goals first
      | (refine Exists.intro [] (And.intro List.nodup_nil ?_); ((conv => whnf); repeat ((first | refine And.intro DrawOk.go ?_ | refine And.intro rfl ?_ | refine And.intro (fun _ => ?_) (fun h => Bool.noConfusion h) | refine And.intro (fun h => Bool.noConfusion h) (fun _ => ?_)); conv => whnf))
         rfl)
      | (exfalso
         simp [eLen] at *
         omega)
  obtain ⟨rfl, rfl, rfl, hn⟩ := hq
  refine fun_of_vc tabOk mixOk Try.func17 rfl (by rfl) (rs := [.tmp 4]) rfl rfl 56 ?_; rw [Try.ntmps17]
  (conv => whnf); repeat ((first | refine And.intro DrawOk.go ?_ | refine And.intro rfl ?_ | refine And.intro (fun _ => ?_) (fun h => Bool.noConfusion h) | refine And.intro (fun h => Bool.noConfusion h) (fun _ => ?_)); conv => whnf)
  repeat' (first | ((refine And.intro (fun h => ?_) (fun h => ?_)) <;> (try simp at h) <;> ((conv => whnf); repeat ((first | refine And.intro DrawOk.go ?_ | refine And.intro rfl ?_ | refine And.intro (fun _ => ?_) (fun h => Bool.noConfusion h) | refine And.intro (fun h => Bool.noConfusion h) (fun _ => ?_)); conv => whnf))) | fail)
  all_goals first
    | (exfalso
       simp [eLen] at *
       omega)
    | skip
  refine vc_loop [2, 3] [2, 3] (X := Nat) (fun x gs => [(5, ATint x)]) (fun _ _ => []) (fun x => x ≤ es.length ∧ es.take x = es'.take x) (fun x => es.length - x) _ (Ghost.refl _) 0 ⟨Nat.zero_le _, rfl⟩ ?_ ?_
  · (refine And.intro rfl (And.intro rfl ?_)); (repeat' (first | exact trivial | exact rfl | apply And.intro | (refine congrArg (Value.int .i64) (w64_nat ?_); omega)))
  rintro gs k ⟨hk, he⟩
  (conv => whnf); repeat ((first | refine And.intro DrawOk.go ?_ | refine And.intro rfl ?_ | refine And.intro (fun _ => ?_) (fun h => Bool.noConfusion h) | refine And.intro (fun h => Bool.noConfusion h) (fun _ => ?_)); conv => whnf)
  refine And.intro (fun h => ?_) (fun h => ?_)
  · have hlt : k < es.length := by have := of_decide_eq_true h; rw [eLen] at this; omega
    have hlt2 : k < es'.length := by omega
    (conv => whnf); repeat ((first | refine And.intro DrawOk.go ?_ | refine And.intro rfl ?_ | refine And.intro (fun _ => ?_) (fun h => Bool.noConfusion h) | refine And.intro (fun h => Bool.noConfusion h) (fun _ => ?_)); conv => whnf)
    refine ⟨by omega, _, eItem hlt, rfl, ?_⟩
    (conv => whnf); repeat ((first | refine And.intro DrawOk.go ?_ | refine And.intro rfl ?_ | refine And.intro (fun _ => ?_) (fun h => Bool.noConfusion h) | refine And.intro (fun h => Bool.noConfusion h) (fun _ => ?_)); conv => whnf)
    refine ⟨by omega, _, eItem hlt2, rfl, ?_⟩
    (conv => whnf); repeat ((first | refine And.intro DrawOk.go ?_ | refine And.intro rfl ?_ | refine And.intro (fun _ => ?_) (fun h => Bool.noConfusion h) | refine And.intro (fun h => Bool.noConfusion h) (fun _ => ?_)); conv => whnf)
    refine And.intro (fun h => ?_) (fun h => ?_)
    · have h' : (!eEq es[k] es'[k]) = true := h
      have hne : es ≠ es' := by
        rintro rfl
        rw [eEq_self] at h'
        cases h'
      (conv => whnf); repeat ((first | refine And.intro DrawOk.go ?_ | refine And.intro rfl ?_ | refine And.intro (fun _ => ?_) (fun h => Bool.noConfusion h) | refine And.intro (fun h => Bool.noConfusion h) (fun _ => ?_)); conv => whnf)
      refine Exists.intro [] (And.intro List.nodup_nil ?_); ((conv => whnf); repeat ((first | refine And.intro DrawOk.go ?_ | refine And.intro rfl ?_ | refine And.intro (fun _ => ?_) (fun h => Bool.noConfusion h) | refine And.intro (fun h => Bool.noConfusion h) (fun _ => ?_)); conv => whnf))
      rw [← hR]
      exact congrArg ATbool (decide_eq_false (fun h => hne h.2.2.2)).symm
    · have h' : (!eEq es[k] es'[k]) = false := h
      have hq : es[k] = es'[k] := eEq_iff.1 (by simpa using h')
      (conv => whnf); repeat ((first | refine And.intro DrawOk.go ?_ | refine And.intro rfl ?_ | refine And.intro (fun _ => ?_) (fun h => Bool.noConfusion h) | refine And.intro (fun h => Bool.noConfusion h) (fun _ => ?_)); conv => whnf)
      refine again (k + 1) ⟨hlt, take_eq_step he hlt hlt2 hq⟩ (by omega) ?_
      (refine And.intro rfl (And.intro rfl ?_)); (repeat' (first | exact trivial | exact rfl | apply And.intro | (refine congrArg (Value.int .i64) (w64_nat ?_); omega)))
  · have hge : ¬ k < es.length := by have := of_decide_eq_false h; rw [eLen] at this; omega
    rw [List.take_of_length_le (by omega), List.take_of_length_le (by omega)] at he
    (conv => whnf); repeat ((first | refine And.intro DrawOk.go ?_ | refine And.intro rfl ?_ | refine And.intro (fun _ => ?_) (fun h => Bool.noConfusion h) | refine And.intro (fun h => Bool.noConfusion h) (fun _ => ?_)); conv => whnf)
    refine Exists.intro [] (And.intro List.nodup_nil ?_); ((conv => whnf); repeat ((first | refine And.intro DrawOk.go ?_ | refine And.intro rfl ?_ | refine And.intro (fun _ => ?_) (fun h => Bool.noConfusion h) | refine And.intro (fun h => Bool.noConfusion h) (fun _ => ?_)); conv => whnf))
    rw [← hR]
    exact congrArg ATbool (decide_eq_true ⟨rfl, rfl, rfl, he⟩).symm
set_option maxRecDepth 100000 in
set_option maxHeartbeats 8000000 in
theorem cgtF (p : ByteArray) (a k : Int) (hp : p.size ≤ 9223372036854775807) (ha : -9223372036854775808 ≤ a ∧ a ≤ 9223372036854775807) (hk : -9223372036854775808 ≤ k ∧ k ≤ 9223372036854775807) : Fun Try.prog 55 [strV p, i64V a, i64V k] [] (.v (i64V (gt p a k))) := by
  have h := getG' p a k hp ha hk
  unfold gt
  refine fun_of_vc tabOk mixOk Try.func55 rfl (by rfl) (rs := [.tmp 6]) rfl rfl 21 ?_; rw [Try.ntmps55]
  (conv => whnf); repeat ((first | refine And.intro DrawOk.go ?_ | refine And.intro rfl ?_ | refine And.intro (fun _ => ?_) (fun h => Bool.noConfusion h) | refine And.intro (fun h => Bool.noConfusion h) (fun _ => ?_)); conv => whnf)
  refine ⟨_, _, h, ?_⟩
  (conv => whnf); repeat ((first | refine And.intro DrawOk.go ?_ | refine And.intro rfl ?_ | refine And.intro (fun _ => ?_) (fun h => Bool.noConfusion h) | refine And.intro (fun h => Bool.noConfusion h) (fun _ => ?_)); conv => whnf)
  refine Exists.intro [] (And.intro List.nodup_nil ?_); ((conv => whnf); repeat ((first | refine And.intro DrawOk.go ?_ | refine And.intro rfl ?_ | refine And.intro (fun _ => ?_) (fun h => Bool.noConfusion h) | refine And.intro (fun h => Bool.noConfusion h) (fun _ => ?_)); conv => whnf))
  rfl
set_option maxRecDepth 100000 in
set_option maxHeartbeats 16000000 in
theorem cdecF (l : List Rec) (hl : l.length ≤ 140737488355328) (hp : ∀ r ∈ l, r.p.size ≤ 9223372036854775807) : Fun Try.prog 12 [slV (rR l)] [] (.tup [bseV (cdecode l).1, i64V (cdecode l).2]) := by
  by_cases h2 : l.length < 2
  · rw [cdecode_short h2]
    refine fun_of_vc tabOk mixOk Try.func12 rfl (by rfl) (rs := [.cell 2 24, .tmp 3]) rfl rfl 125 ?_; rw [Try.ntmps12]
    (conv => whnf); repeat ((first | refine And.intro DrawOk.go ?_ | refine And.intro rfl ?_ | refine And.intro (fun _ => ?_) (fun h => Bool.noConfusion h) | refine And.intro (fun h => Bool.noConfusion h) (fun _ => ?_)); conv => whnf)
    repeat' (first | ((refine And.intro (fun h => ?_) (fun h => ?_)) <;> (try simp at h) <;> ((conv => whnf); repeat ((first | refine And.intro DrawOk.go ?_ | refine And.intro rfl ?_ | refine And.intro (fun _ => ?_) (fun h => Bool.noConfusion h) | refine And.intro (fun h => Bool.noConfusion h) (fun _ => ?_)); conv => whnf))) | fail)
    all_goals first
      | (exfalso; simp only [rLen] at *; omega)
      | (refine Exists.intro [] (And.intro List.nodup_nil ?_); ((conv => whnf); repeat ((first | refine And.intro DrawOk.go ?_ | refine And.intro rfl ?_ | refine And.intro (fun _ => ?_) (fun h => Bool.noConfusion h) | refine And.intro (fun h => Bool.noConfusion h) (fun _ => ?_)); conv => whnf))
         rfl)
  by_cases h130 : 130 < l.length
  · rw [cdecode_long h130]
    refine fun_of_vc tabOk mixOk Try.func12 rfl (by rfl) (rs := [.cell 2 24, .tmp 3]) rfl rfl 125 ?_; rw [Try.ntmps12]
    (conv => whnf); repeat ((first | refine And.intro DrawOk.go ?_ | refine And.intro rfl ?_ | refine And.intro (fun _ => ?_) (fun h => Bool.noConfusion h) | refine And.intro (fun h => Bool.noConfusion h) (fun _ => ?_)); conv => whnf)
    repeat' (first | ((refine And.intro (fun h => ?_) (fun h => ?_)) <;> (try simp at h) <;> ((conv => whnf); repeat ((first | refine And.intro DrawOk.go ?_ | refine And.intro rfl ?_ | refine And.intro (fun _ => ?_) (fun h => Bool.noConfusion h) | refine And.intro (fun h => Bool.noConfusion h) (fun _ => ?_)); conv => whnf))) | fail)
    all_goals first
      | (exfalso; simp only [rLen] at *; omega)
      | (refine Exists.intro [] (And.intro List.nodup_nil ?_); ((conv => whnf); repeat ((first | refine And.intro DrawOk.go ?_ | refine And.intro rfl ?_ | refine And.intro (fun _ => ?_) (fun h => Bool.noConfusion h) | refine And.intro (fun h => Bool.noConfusion h) (fun _ => ?_)); conv => whnf))
         rfl)
  obtain ⟨hd, t, rfl⟩ : ∃ h t, l = h :: t := by
    cases l with
    | nil => simp at h2
    | cons h t => exact ⟨h, t, rfl⟩
  have hi0 : (rR (hd :: t))[((0 : Int)).toNat]? = some (rRow hd) := rfl
  have hll : (rR (hd :: t)).length = t.length + 1 := by rw [rLen, List.length_cons]
  simp only [List.length_cons] at h2 h130 hl
  have hph := hp hd List.mem_cons_self
  by_cases h12 : hd.p.size = 12
  rotate_left
  · rw [cdecode_head h12]
    refine fun_of_vc tabOk mixOk Try.func12 rfl (by rfl) (rs := [.cell 2 24, .tmp 3]) rfl rfl 125 ?_; rw [Try.ntmps12]
    (conv => whnf); repeat ((first | refine And.intro DrawOk.go ?_ | refine And.intro rfl ?_ | refine And.intro (fun _ => ?_) (fun h => Bool.noConfusion h) | refine And.intro (fun h => Bool.noConfusion h) (fun _ => ?_)); conv => whnf)
    repeat' (first | ((refine And.intro (fun h => ?_) (fun h => ?_)) <;> (try simp at h) <;> ((conv => whnf); repeat ((first | refine And.intro DrawOk.go ?_ | refine And.intro rfl ?_ | refine And.intro (fun _ => ?_) (fun h => Bool.noConfusion h) | refine And.intro (fun h => Bool.noConfusion h) (fun _ => ?_)); conv => whnf))) | (refine ⟨by decide, _, hi0, rfl, ?_⟩; ((conv => whnf); repeat ((first | refine And.intro DrawOk.go ?_ | refine And.intro rfl ?_ | refine And.intro (fun _ => ?_) (fun h => Bool.noConfusion h) | refine And.intro (fun h => Bool.noConfusion h) (fun _ => ?_)); conv => whnf))) | fail)
    all_goals first
      | (exfalso; simp only [hll] at *; omega)
      | (refine Exists.intro [] (And.intro List.nodup_nil ?_); ((conv => whnf); repeat ((first | refine And.intro DrawOk.go ?_ | refine And.intro rfl ?_ | refine And.intro (fun _ => ?_) (fun h => Bool.noConfusion h) | refine And.intro (fun h => Bool.noConfusion h) (fun _ => ?_)); conv => whnf))
         rfl)
  have g1 := getG hd.p 0 6 hph (by decide) (by decide)
  have g2 := getG hd.p 6 6 hph (by decide) (by decide)
  generalize hRes : cdecode (hd :: t) = Res
  refine fun_of_vc tabOk mixOk Try.func12 rfl (by rfl) (rs := [.cell 2 24, .tmp 3]) rfl rfl 125 ?_; rw [Try.ntmps12]
  (conv => whnf); repeat ((first | refine And.intro DrawOk.go ?_ | refine And.intro rfl ?_ | refine And.intro (fun _ => ?_) (fun h => Bool.noConfusion h) | refine And.intro (fun h => Bool.noConfusion h) (fun _ => ?_)); conv => whnf)
  repeat' (first | ((refine And.intro (fun h => ?_) (fun h => ?_)) <;> (try simp at h) <;> ((conv => whnf); repeat ((first | refine And.intro DrawOk.go ?_ | refine And.intro rfl ?_ | refine And.intro (fun _ => ?_) (fun h => Bool.noConfusion h) | refine And.intro (fun h => Bool.noConfusion h) (fun _ => ?_)); conv => whnf))) | (refine ⟨_, _, g1, ?_⟩; ((conv => whnf); repeat ((first | refine And.intro DrawOk.go ?_ | refine And.intro rfl ?_ | refine And.intro (fun _ => ?_) (fun h => Bool.noConfusion h) | refine And.intro (fun h => Bool.noConfusion h) (fun _ => ?_)); conv => whnf))) | (refine ⟨_, _, g2, ?_⟩; ((conv => whnf); repeat ((first | refine And.intro DrawOk.go ?_ | refine And.intro rfl ?_ | refine And.intro (fun _ => ?_) (fun h => Bool.noConfusion h) | refine And.intro (fun h => Bool.noConfusion h) (fun _ => ?_)); conv => whnf))) | (refine ⟨by decide, _, hi0, rfl, ?_⟩; ((conv => whnf); repeat ((first | refine And.intro DrawOk.go ?_ | refine And.intro rfl ?_ | refine And.intro (fun _ => ?_) (fun h => Bool.noConfusion h) | refine And.intro (fun h => Bool.noConfusion h) (fun _ => ?_)); conv => whnf))) | fail)
  all_goals first
    | (exfalso; simp only [hll] at *; omega)
    | skip
  have hw : iwrap .i64 (((t.length + 1 : Nat) : Int) - 1) = (t.length : Int) := (w64_in (by omega)).trans (by omega)
  have hmid : ((rR (hd :: t)).take ((t.length : Int)).toNat).drop (1 : Int).toNat = rR t.dropLast := by
    obtain ⟨m, hm⟩ : ∃ m, t.length = m + 1 := ⟨t.length - 1, by omega⟩
    rw [Int.toNat_natCast, hm, show (1 : Int).toNat = 1 from rfl, List.dropLast_eq_take, hm]
    simp only [rR, List.map_cons, List.take_succ_cons, List.drop_succ_cons, List.drop_zero, List.map_take, Nat.add_sub_cancel]
  have hml : t.dropLast.length = t.length - 1 := List.length_dropLast
  have hB : candB hd t = ⟨hd.v, gt hd.p 0 6, gt hd.p 6 6, t.dropLast.map candE⟩ := rfl
  have hent := fun (k : Nat) (r : Rec) (hk : t.dropLast[k]? = some r) (hs : r.p.size ≠ 4) => cdecode_ent (h := hd) hk hs
  have hno := @cdecode_no hd t
  have hyes := @cdecode_yes hd t
  have hcl := cenc_len (candB hd t)
  rw [cand_es] at hcl
  rw [hRes] at hno hyes
  have hent := fun k r hk hs => hRes.symm.trans (hent k r hk hs)
  clear hRes g1 g2
  have hE := cencF hd.v (gt hd.p 0 6) (gt hd.p 6 6) (t.dropLast.map candE)
  rw [← hB] at hE
  have hpm : ∀ r ∈ t.dropLast, r.p.size ≤ 9223372036854775807 := fun r hr => hp r (List.mem_cons_of_mem _ (List.dropLast_subset t hr))
  refine ⟨rSz (hd :: t), ?_⟩
  (conv => whnf); repeat ((first | refine And.intro DrawOk.go ?_ | refine And.intro rfl ?_ | refine And.intro (fun _ => ?_) (fun h => Bool.noConfusion h) | refine And.intro (fun h => Bool.noConfusion h) (fun _ => ?_)); conv => whnf)
  rw [hll, hw]
  refine ⟨by decide, by omega, by omega, ?_⟩
  (conv => whnf); repeat ((first | refine And.intro DrawOk.go ?_ | refine And.intro rfl ?_ | refine And.intro (fun _ => ?_) (fun h => Bool.noConfusion h) | refine And.intro (fun h => Bool.noConfusion h) (fun _ => ?_)); conv => whnf)
  rw [hmid]
  generalize candB hd t = B at hB hno hyes hcl hE
  clear hmid hw hp
  generalize t.dropLast = mid at hml hent hE hpm hB ⊢
  refine vc_loop [0, 2, 5, 56, 57] [2] (X := Nat) (fun k gs => [(58, ATint k)]) (fun k gs => [(5, .var 1 [.i (.sc (.int .i64 hd.v)), .i (.sc (.int .i64 (gt hd.p 0 6))), .i (.sc (.int .i64 (gt hd.p 6 6))), .own 94 (gs 94)]), (94, .row (gs 94) 84 6 (eR ((mid.take k).map candE)))]) (fun k => k ≤ mid.length) (fun k => mid.length - k) _ (Ghost.ownNilV 5 3 94 84 6 1 _ rfl rfl (Nat.le_of_ble_eq_true rfl) (by decide)) 0 (Nat.zero_le _) ?_ ?_
  · (refine And.intro rfl (And.intro rfl ?_)); (repeat' (first | exact trivial | exact rfl | apply And.intro | (refine congrArg (Value.int .i64) (w64_nat ?_); omega)))
  rintro gs k hk
  (conv => whnf); repeat ((first | refine And.intro DrawOk.go ?_ | refine And.intro rfl ?_ | refine And.intro (fun _ => ?_) (fun h => Bool.noConfusion h) | refine And.intro (fun h => Bool.noConfusion h) (fun _ => ?_)); conv => whnf)
  refine And.intro (fun h3 => ?_) (fun h3 => ?_)
  · have hlt : k < mid.length := by have := of_decide_eq_true h3; rw [rLen] at this; omega
    have hit := rItem hlt
    have hk1 := hent k mid[k] (List.getElem?_eq_getElem hlt)
    have hpk := hpm mid[k] (List.getElem_mem hlt)
    have q1 := getG mid[k].p 0 2 hpk (by decide) (by decide)
    have q2 := getG mid[k].p 2 2 hpk (by decide) (by decide)
    clear hE hno hyes hent hpm hB
    (conv => whnf); repeat ((first | refine And.intro DrawOk.go ?_ | refine And.intro rfl ?_ | refine And.intro (fun _ => ?_) (fun h => Bool.noConfusion h) | refine And.intro (fun h => Bool.noConfusion h) (fun _ => ?_)); conv => whnf)
    refine ⟨by omega, _, hit, rfl, ?_⟩
    (conv => whnf); repeat ((first | refine And.intro DrawOk.go ?_ | refine And.intro rfl ?_ | refine And.intro (fun _ => ?_) (fun h => Bool.noConfusion h) | refine And.intro (fun h => Bool.noConfusion h) (fun _ => ?_)); conv => whnf)
    refine And.intro (fun h4 => ?_) (fun h4 => ?_)
    · have h4' : mid[k].p.size ≠ 4 := fun e => by rw [e] at h4; exact absurd h4 (by decide)
      rw [hk1 h4']
      (conv => whnf); repeat ((first | refine And.intro DrawOk.go ?_ | refine And.intro rfl ?_ | refine And.intro (fun _ => ?_) (fun h => Bool.noConfusion h) | refine And.intro (fun h => Bool.noConfusion h) (fun _ => ?_)); conv => whnf)
      refine Exists.intro [] (And.intro List.nodup_nil ?_); ((conv => whnf); repeat ((first | refine And.intro DrawOk.go ?_ | refine And.intro rfl ?_ | refine And.intro (fun _ => ?_) (fun h => Bool.noConfusion h) | refine And.intro (fun h => Bool.noConfusion h) (fun _ => ?_)); conv => whnf))
      rfl
    (conv => whnf); repeat ((first | refine And.intro DrawOk.go ?_ | refine And.intro rfl ?_ | refine And.intro (fun _ => ?_) (fun h => Bool.noConfusion h) | refine And.intro (fun h => Bool.noConfusion h) (fun _ => ?_)); conv => whnf)
    refine ⟨_, _, q1, ?_⟩
    (conv => whnf); repeat ((first | refine And.intro DrawOk.go ?_ | refine And.intro rfl ?_ | refine And.intro (fun _ => ?_) (fun h => Bool.noConfusion h) | refine And.intro (fun h => Bool.noConfusion h) (fun _ => ?_)); conv => whnf)
    refine ⟨_, _, q2, ?_⟩
    (conv => whnf); repeat ((first | refine And.intro DrawOk.go ?_ | refine And.intro rfl ?_ | refine And.intro (fun _ => ?_) (fun h => Bool.noConfusion h) | refine And.intro (fun h => Bool.noConfusion h) (fun _ => ?_)); conv => whnf)
    refine ⟨eSz [candE mid[k]], ?_⟩
    (conv => whnf); repeat ((first | refine And.intro DrawOk.go ?_ | refine And.intro rfl ?_ | refine And.intro (fun _ => ?_) (fun h => Bool.noConfusion h) | refine And.intro (fun h => Bool.noConfusion h) (fun _ => ?_)); conv => whnf)
    refine ⟨bytes_le (by decide) (by simp [eR]; omega), ?_⟩
    (conv => whnf); repeat ((first | refine And.intro DrawOk.go ?_ | refine And.intro rfl ?_ | refine And.intro (fun _ => ?_) (fun h => Bool.noConfusion h) | refine And.intro (fun h => Bool.noConfusion h) (fun _ => ?_)); conv => whnf)
    refine again (k + 1) hlt (by omega) ?_
    (refine And.intro rfl (And.intro rfl ?_)); (repeat' (first | exact trivial | exact rfl | apply And.intro | (refine congrArg (Value.int .i64) (w64_nat ?_); omega)))
    all_goals exact congrArg (Blk.row _ _ _) ((eSnoc' _ (candE mid[k])).trans (congrArg eR (by rw [List.take_succ_eq_append_getElem hlt, List.map_append]; rfl)))
  have hge : ¬ k < mid.length := by have := of_decide_eq_false h3; rw [rLen] at this; omega
  rw [List.take_of_length_le (Nat.le_of_not_lt hge)]
  by_cases hc : cchk B = 0
  rotate_left
  · rw [cencode_no hc] at hE
    rw [hno (fun h => hc h.2.1)]
    generalize cchk B = R at hc hE
    (conv => whnf); repeat ((first | refine And.intro DrawOk.go ?_ | refine And.intro rfl ?_ | refine And.intro (fun _ => ?_) (fun h => Bool.noConfusion h) | refine And.intro (fun h => Bool.noConfusion h) (fun _ => ?_)); conv => whnf)
    refine ⟨_, _, hE, ?_⟩
    (conv => whnf); repeat ((first | refine And.intro DrawOk.go ?_ | refine And.intro rfl ?_ | refine And.intro (fun _ => ?_) (fun h => Bool.noConfusion h) | refine And.intro (fun h => Bool.noConfusion h) (fun _ => ?_)); conv => whnf)
    refine And.intro (fun h => ?_) (fun h => absurd h (by simp [hc]))
    (conv => whnf); repeat ((first | refine And.intro DrawOk.go ?_ | refine And.intro rfl ?_ | refine And.intro (fun _ => ?_) (fun h => Bool.noConfusion h) | refine And.intro (fun h => Bool.noConfusion h) (fun _ => ?_)); conv => whnf)
    refine Exists.intro [] (And.intro List.nodup_nil ?_); ((conv => whnf); repeat ((first | refine And.intro DrawOk.go ?_ | refine And.intro rfl ?_ | refine And.intro (fun _ => ?_) (fun h => Bool.noConfusion h) | refine And.intro (fun h => Bool.noConfusion h) (fun _ => ?_)); conv => whnf))
    rfl
  rw [cencode_yes hc] at hE
  dsimp only at hE
  clear hent
  generalize hEn : cenc B = M at hE hcl hno hyes
  (conv => whnf); repeat ((first | refine And.intro DrawOk.go ?_ | refine And.intro rfl ?_ | refine And.intro (fun _ => ?_) (fun h => Bool.noConfusion h) | refine And.intro (fun h => Bool.noConfusion h) (fun _ => ?_)); conv => whnf)
  refine ⟨_, _, hE, ?_⟩
  (conv => whnf); repeat ((first | refine And.intro DrawOk.go ?_ | refine And.intro rfl ?_ | refine And.intro (fun _ => ?_) (fun h => Bool.noConfusion h) | refine And.intro (fun h => Bool.noConfusion h) (fun _ => ?_)); conv => whnf)
  refine vc_loop [0, 2, 5, 105, 106] [2] (X := Nat) (fun k gs => [(107, ATint k)]) (fun k gs => [(5, .var 1 [.i (.sc (.int .i64 hd.v)), .i (.sc (.int .i64 (gt hd.p 0 6))), .i (.sc (.int .i64 (gt hd.p 6 6))), .own 94 (gs 94)]), (94, .froz (gs 94) (eR (mid.map candE)))]) (fun k => k ≤ M.length ∧ M.take k = (hd :: t).take k) (fun k => M.length - k) _ (Ghost.refl _) 0 ⟨Nat.zero_le _, rfl⟩ ?_ ?_
  · (refine And.intro rfl (And.intro rfl ?_)); (repeat' (first | exact trivial | exact rfl | apply And.intro | (refine congrArg (Value.int .i64) (w64_nat ?_); omega)))
  rintro gs k ⟨hk, he⟩
  (conv => whnf); repeat ((first | refine And.intro DrawOk.go ?_ | refine And.intro rfl ?_ | refine And.intro (fun _ => ?_) (fun h => Bool.noConfusion h) | refine And.intro (fun h => Bool.noConfusion h) (fun _ => ?_)); conv => whnf)
  refine And.intro (fun h3 => ?_) (fun h3 => ?_)
  · have hlt : k < M.length := by have := of_decide_eq_true h3; rw [rLen] at this; omega
    have hlt2 : k < (hd :: t).length := by rw [List.length_cons]; omega
    (conv => whnf); repeat ((first | refine And.intro DrawOk.go ?_ | refine And.intro rfl ?_ | refine And.intro (fun _ => ?_) (fun h => Bool.noConfusion h) | refine And.intro (fun h => Bool.noConfusion h) (fun _ => ?_)); conv => whnf)
    refine ⟨by omega, _, rItem hlt, rfl, ?_⟩
    (conv => whnf); repeat ((first | refine And.intro DrawOk.go ?_ | refine And.intro rfl ?_ | refine And.intro (fun _ => ?_) (fun h => Bool.noConfusion h) | refine And.intro (fun h => Bool.noConfusion h) (fun _ => ?_)); conv => whnf)
    refine ⟨by omega, _, rItem hlt2, rfl, ?_⟩
    (conv => whnf); repeat ((first | refine And.intro DrawOk.go ?_ | refine And.intro rfl ?_ | refine And.intro (fun _ => ?_) (fun h => Bool.noConfusion h) | refine And.intro (fun h => Bool.noConfusion h) (fun _ => ?_)); conv => whnf)
    refine And.intro (fun h => ?_) (fun h => ?_)
    · have h' : (!rEq M[k] (hd :: t)[k]) = true := h
      rw [hno (fun hh => by
        have e := hh.2.2
        subst e
        rw [rEq_self] at h'
        cases h')]
      (conv => whnf); repeat ((first | refine And.intro DrawOk.go ?_ | refine And.intro rfl ?_ | refine And.intro (fun _ => ?_) (fun h => Bool.noConfusion h) | refine And.intro (fun h => Bool.noConfusion h) (fun _ => ?_)); conv => whnf)
      refine Exists.intro [] (And.intro List.nodup_nil ?_); ((conv => whnf); repeat ((first | refine And.intro DrawOk.go ?_ | refine And.intro rfl ?_ | refine And.intro (fun _ => ?_) (fun h => Bool.noConfusion h) | refine And.intro (fun h => Bool.noConfusion h) (fun _ => ?_)); conv => whnf))
      rfl
    · have h' : (!rEq M[k] (hd :: t)[k]) = false := h
      have hq : M[k] = (hd :: t)[k] := rEq_iff.1 (by simpa using h')
      (conv => whnf); repeat ((first | refine And.intro DrawOk.go ?_ | refine And.intro rfl ?_ | refine And.intro (fun _ => ?_) (fun h => Bool.noConfusion h) | refine And.intro (fun h => Bool.noConfusion h) (fun _ => ?_)); conv => whnf)
      refine again (k + 1) ⟨hlt, take_eq_step he hlt hlt2 hq⟩ (by omega) ?_
      (refine And.intro rfl (And.intro rfl ?_)); (repeat' (first | exact trivial | exact rfl | apply And.intro | (refine congrArg (Value.int .i64) (w64_nat ?_); omega)))
  · have hge : ¬ k < M.length := by have := of_decide_eq_false h3; rw [rLen] at this; omega
    have hML : M.length = (hd :: t).length := by rw [hcl, List.length_cons]; omega
    rw [List.take_of_length_le (by omega), List.take_of_length_le (by omega)] at he
    rw [hyes ⟨by omega, hc, he⟩, hB]
    (conv => whnf); repeat ((first | refine And.intro DrawOk.go ?_ | refine And.intro rfl ?_ | refine And.intro (fun _ => ?_) (fun h => Bool.noConfusion h) | refine And.intro (fun h => Bool.noConfusion h) (fun _ => ?_)); conv => whnf)
    refine Exists.intro [] (And.intro List.nodup_nil ?_); ((conv => whnf); repeat ((first | refine And.intro DrawOk.go ?_ | refine And.intro rfl ?_ | refine And.intro (fun _ => ?_) (fun h => Bool.noConfusion h) | refine And.intro (fun h => Bool.noConfusion h) (fun _ => ?_)); conv => whnf))
    rfl
set_option maxRecDepth 100000 in
set_option maxHeartbeats 16000000 in
theorem cdecF' (l : List Rec) (hl : l.length ≤ 2932031007317) (hp : ∀ r ∈ l, r.p.size ≤ 9223372036854775807) : Fun Try.prog 13 [slV (rR l)] [] (.tup [bseV (cdecode l).1, i64V (cdecode l).2]) := by
  by_cases h2 : l.length < 2
  · rw [cdecode_short h2]
    refine fun_of_vc tabOk mixOk Try.func13 rfl (by rfl) (rs := [.cell 2 24, .tmp 3]) rfl rfl 87 ?_; rw [Try.ntmps13]
    (conv => whnf); repeat ((first | refine And.intro DrawOk.go ?_ | refine And.intro rfl ?_ | refine And.intro (fun _ => ?_) (fun h => Bool.noConfusion h) | refine And.intro (fun h => Bool.noConfusion h) (fun _ => ?_)); conv => whnf)
    repeat' (first | ((refine And.intro (fun h => ?_) (fun h => ?_)) <;> (try simp at h) <;> ((conv => whnf); repeat ((first | refine And.intro DrawOk.go ?_ | refine And.intro rfl ?_ | refine And.intro (fun _ => ?_) (fun h => Bool.noConfusion h) | refine And.intro (fun h => Bool.noConfusion h) (fun _ => ?_)); conv => whnf))) | fail)
    all_goals first
      | (exfalso; simp only [rLen] at *; omega)
      | (refine Exists.intro [] (And.intro List.nodup_nil ?_); ((conv => whnf); repeat ((first | refine And.intro DrawOk.go ?_ | refine And.intro rfl ?_ | refine And.intro (fun _ => ?_) (fun h => Bool.noConfusion h) | refine And.intro (fun h => Bool.noConfusion h) (fun _ => ?_)); conv => whnf))
         rfl)
  obtain ⟨hd, t, rfl⟩ : ∃ h t, l = h :: t := by
    cases l with
    | nil => simp at h2
    | cons h t => exact ⟨h, t, rfl⟩
  have hi0 : (rR (hd :: t))[((0 : Int)).toNat]? = some (rRow hd) := rfl
  have hll : (rR (hd :: t)).length = t.length + 1 := by rw [rLen, List.length_cons]
  simp only [List.length_cons] at h2 hl
  have hph := hp hd List.mem_cons_self
  have g1 := cgtF hd.p 0 6 hph (by decide) (by decide)
  have g2 := cgtF hd.p 6 6 hph (by decide) (by decide)
  generalize hRes : cdecode (hd :: t) = Res
  have hml : t.dropLast.length = t.length - 1 := List.length_dropLast
  have hB : candB hd t = ⟨hd.v, gt hd.p 0 6, gt hd.p 6 6, t.dropLast.map candE⟩ := rfl
  have hno := @cdecode_no hd t
  have hyes := @cdecode_yes hd t
  have hcl := cenc_len (candB hd t)
  rw [cand_es] at hcl
  rw [hRes] at hno hyes
  clear hRes
  have hE := cencF' hd.v (gt hd.p 0 6) (gt hd.p 6 6) (t.dropLast.map candE)
  rw [← hB] at hE
  have hpm : ∀ r ∈ t.dropLast, r.p.size ≤ 9223372036854775807 := fun r hr => hp r (List.mem_cons_of_mem _ (List.dropLast_subset t hr))
  have hitem : ∀ (k : Nat) (hk : k < t.dropLast.length), (rR (hd :: t))[(((k : Int) + 1)).toNat]? = some (rRow t.dropLast[k]) := by
    intro k hk
    rw [show (((k : Int) + 1)).toNat = k + 1 by omega]
    simp only [rR, List.map_cons, List.getElem?_cons_succ, List.getElem?_map]
    rw [List.getElem_dropLast, List.getElem?_eq_getElem (by omega)]
    rfl
  refine fun_of_vc tabOk mixOk Try.func13 rfl (by rfl) (rs := [.cell 2 24, .tmp 3]) rfl rfl 87 ?_; rw [Try.ntmps13]
  (conv => whnf); repeat ((first | refine And.intro DrawOk.go ?_ | refine And.intro rfl ?_ | refine And.intro (fun _ => ?_) (fun h => Bool.noConfusion h) | refine And.intro (fun h => Bool.noConfusion h) (fun _ => ?_)); conv => whnf)
  refine And.intro (fun h => by have := of_decide_eq_true h; rw [hll] at this; omega) (fun _ => ?_)
  (conv => whnf); repeat ((first | refine And.intro DrawOk.go ?_ | refine And.intro rfl ?_ | refine And.intro (fun _ => ?_) (fun h => Bool.noConfusion h) | refine And.intro (fun h => Bool.noConfusion h) (fun _ => ?_)); conv => whnf)
  repeat' (first | ((refine And.intro (fun h => ?_) (fun h => ?_)) <;> (try simp at h) <;> ((conv => whnf); repeat ((first | refine And.intro DrawOk.go ?_ | refine And.intro rfl ?_ | refine And.intro (fun _ => ?_) (fun h => Bool.noConfusion h) | refine And.intro (fun h => Bool.noConfusion h) (fun _ => ?_)); conv => whnf))) | (refine ⟨_, _, g1, ?_⟩; ((conv => whnf); repeat ((first | refine And.intro DrawOk.go ?_ | refine And.intro rfl ?_ | refine And.intro (fun _ => ?_) (fun h => Bool.noConfusion h) | refine And.intro (fun h => Bool.noConfusion h) (fun _ => ?_)); conv => whnf))) | (refine ⟨_, _, g2, ?_⟩; ((conv => whnf); repeat ((first | refine And.intro DrawOk.go ?_ | refine And.intro rfl ?_ | refine And.intro (fun _ => ?_) (fun h => Bool.noConfusion h) | refine And.intro (fun h => Bool.noConfusion h) (fun _ => ?_)); conv => whnf))) | (refine ⟨by decide, _, hi0, rfl, ?_⟩; ((conv => whnf); repeat ((first | refine And.intro DrawOk.go ?_ | refine And.intro rfl ?_ | refine And.intro (fun _ => ?_) (fun h => Bool.noConfusion h) | refine And.intro (fun h => Bool.noConfusion h) (fun _ => ?_)); conv => whnf))) | fail)
  generalize candB hd t = B at hB hno hyes hcl hE
  clear hp g1 g2
  generalize t.dropLast = mid at hml hE hpm hB hitem ⊢
  refine vc_loop [0, 2, 3, 4] [2] (X := Nat) (fun k gs => [(5, .v (i64V ((k : Int) + 1)))]) (fun k gs => [(4, .var 1 [.i (.sc (.int .i64 hd.v)), .i (.sc (.int .i64 (gt hd.p 0 6))), .i (.sc (.int .i64 (gt hd.p 6 6))), .own 66 (gs 66)]), (66, .row (gs 66) 84 6 (eR ((mid.take k).map candE)))]) (fun k => k ≤ mid.length) (fun k => mid.length - k) _ (Ghost.ownNilV 4 3 66 84 6 1 _ rfl rfl (Nat.le_of_ble_eq_true rfl) (by decide)) 0 (Nat.zero_le _) ?_ ?_
  · (refine And.intro rfl (And.intro rfl ?_)); (repeat' (first | exact trivial | exact rfl | apply And.intro | (refine congrArg (Value.int .i64) (w64_nat ?_); omega)))
  rintro gs k hk
  have hw1 : iwrap .i64 ((k : Int) + 1 + 1) = ((k + 1 : Nat) : Int) + 1 := (w64_in (by omega)).trans (by omega)
  (conv => whnf); repeat ((first | refine And.intro DrawOk.go ?_ | refine And.intro rfl ?_ | refine And.intro (fun _ => ?_) (fun h => Bool.noConfusion h) | refine And.intro (fun h => Bool.noConfusion h) (fun _ => ?_)); conv => whnf)
  refine And.intro (fun h3 => ?_) (fun h3 => ?_)
  · have hlt : k < mid.length := by have := of_decide_eq_true h3; rw [hll, hw1] at this; omega
    have hit := hitem k hlt
    have hpk := hpm mid[k] (List.getElem_mem hlt)
    have q1 := cgtF mid[k].p 0 2 hpk (by decide) (by decide)
    have q2 := cgtF mid[k].p 2 2 hpk (by decide) (by decide)
    have hbd : (((mid.take k).map candE).length + 1) * 48 ≤ 140737488355328 := by rw [List.length_map, List.length_take]; omega
    clear hE hno hyes hpm hB hitem
    (conv => whnf); repeat ((first | refine And.intro DrawOk.go ?_ | refine And.intro rfl ?_ | refine And.intro (fun _ => ?_) (fun h => Bool.noConfusion h) | refine And.intro (fun h => Bool.noConfusion h) (fun _ => ?_)); conv => whnf)
    repeat' (first | ((refine And.intro (fun h => ?_) (fun h => ?_)) <;> (try simp at h) <;> ((conv => whnf); repeat ((first | refine And.intro DrawOk.go ?_ | refine And.intro rfl ?_ | refine And.intro (fun _ => ?_) (fun h => Bool.noConfusion h) | refine And.intro (fun h => Bool.noConfusion h) (fun _ => ?_)); conv => whnf))) | (refine ⟨_, _, q1, ?_⟩; ((conv => whnf); repeat ((first | refine And.intro DrawOk.go ?_ | refine And.intro rfl ?_ | refine And.intro (fun _ => ?_) (fun h => Bool.noConfusion h) | refine And.intro (fun h => Bool.noConfusion h) (fun _ => ?_)); conv => whnf))) | (refine ⟨_, _, q2, ?_⟩; ((conv => whnf); repeat ((first | refine And.intro DrawOk.go ?_ | refine And.intro rfl ?_ | refine And.intro (fun _ => ?_) (fun h => Bool.noConfusion h) | refine And.intro (fun h => Bool.noConfusion h) (fun _ => ?_)); conv => whnf))) | (refine ⟨by omega, _, hit, rfl, ?_⟩; ((conv => whnf); repeat ((first | refine And.intro DrawOk.go ?_ | refine And.intro rfl ?_ | refine And.intro (fun _ => ?_) (fun h => Bool.noConfusion h) | refine And.intro (fun h => Bool.noConfusion h) (fun _ => ?_)); conv => whnf))) | fail)
    refine ⟨eSz [candE mid[k]], ?_⟩
    (conv => whnf); repeat ((first | refine And.intro DrawOk.go ?_ | refine And.intro rfl ?_ | refine And.intro (fun _ => ?_) (fun h => Bool.noConfusion h) | refine And.intro (fun h => Bool.noConfusion h) (fun _ => ?_)); conv => whnf)
    refine ⟨by rw [eLen]; exact hbd, ?_⟩
    (conv => whnf); repeat ((first | refine And.intro DrawOk.go ?_ | refine And.intro rfl ?_ | refine And.intro (fun _ => ?_) (fun h => Bool.noConfusion h) | refine And.intro (fun h => Bool.noConfusion h) (fun _ => ?_)); conv => whnf)
    refine again (k + 1) hlt (by omega) ?_
    (refine And.intro rfl (And.intro rfl ?_)); (repeat' (first | exact trivial | exact rfl | apply And.intro | (refine congrArg (Value.int .i64) (w64_nat ?_); omega)))
    all_goals first
      | exact congrArg (Value.int .i64) hw1
      | exact congrArg (Blk.row _ _ _) ((eSnoc' _ (candE mid[k])).trans (congrArg eR (by rw [List.take_succ_eq_append_getElem hlt, List.map_append]; rfl)))
  have hge : ¬ k < mid.length := by have := of_decide_eq_false h3; rw [hll, hw1] at this; omega
  rw [List.take_of_length_le (Nat.le_of_not_lt hge)]
  by_cases hc : cchk B = 0
  rotate_left
  · rw [cencode_no hc] at hE
    rw [hno (fun h => hc h.2.1)]
    generalize cchk B = R at hc hE
    (conv => whnf); repeat ((first | refine And.intro DrawOk.go ?_ | refine And.intro rfl ?_ | refine And.intro (fun _ => ?_) (fun h => Bool.noConfusion h) | refine And.intro (fun h => Bool.noConfusion h) (fun _ => ?_)); conv => whnf)
    refine ⟨_, _, hE, ?_⟩
    (conv => whnf); repeat ((first | refine And.intro DrawOk.go ?_ | refine And.intro rfl ?_ | refine And.intro (fun _ => ?_) (fun h => Bool.noConfusion h) | refine And.intro (fun h => Bool.noConfusion h) (fun _ => ?_)); conv => whnf)
    refine And.intro (fun h => ?_) (fun h => absurd h (by simp [hc]))
    (conv => whnf); repeat ((first | refine And.intro DrawOk.go ?_ | refine And.intro rfl ?_ | refine And.intro (fun _ => ?_) (fun h => Bool.noConfusion h) | refine And.intro (fun h => Bool.noConfusion h) (fun _ => ?_)); conv => whnf)
    refine Exists.intro [] (And.intro List.nodup_nil ?_); ((conv => whnf); repeat ((first | refine And.intro DrawOk.go ?_ | refine And.intro rfl ?_ | refine And.intro (fun _ => ?_) (fun h => Bool.noConfusion h) | refine And.intro (fun h => Bool.noConfusion h) (fun _ => ?_)); conv => whnf))
    rfl
  rw [cencode_yes hc] at hE
  dsimp only at hE
  have hml2 : (cenc B).length ≤ 140737488355328 := by rw [hcl]; omega
  have hs := csrF (hd :: t) (cenc B) (by rw [List.length_cons]; omega) hml2
  by_cases hq : hd :: t = cenc B
  · rw [decide_eq_true hq] at hs
    rw [hyes ⟨by have := congrArg List.length hq; rw [hcl, List.length_cons] at this; omega, hc, hq.symm⟩, hB]
    (conv => whnf); repeat ((first | refine And.intro DrawOk.go ?_ | refine And.intro rfl ?_ | refine And.intro (fun _ => ?_) (fun h => Bool.noConfusion h) | refine And.intro (fun h => Bool.noConfusion h) (fun _ => ?_)); conv => whnf)
    refine ⟨_, _, hE, ?_⟩
    (conv => whnf); repeat ((first | refine And.intro DrawOk.go ?_ | refine And.intro rfl ?_ | refine And.intro (fun _ => ?_) (fun h => Bool.noConfusion h) | refine And.intro (fun h => Bool.noConfusion h) (fun _ => ?_)); conv => whnf)
    refine ⟨_, _, hs, ?_⟩
    (conv => whnf); repeat ((first | refine And.intro DrawOk.go ?_ | refine And.intro rfl ?_ | refine And.intro (fun _ => ?_) (fun h => Bool.noConfusion h) | refine And.intro (fun h => Bool.noConfusion h) (fun _ => ?_)); conv => whnf)
    refine Exists.intro [] (And.intro List.nodup_nil ?_); ((conv => whnf); repeat ((first | refine And.intro DrawOk.go ?_ | refine And.intro rfl ?_ | refine And.intro (fun _ => ?_) (fun h => Bool.noConfusion h) | refine And.intro (fun h => Bool.noConfusion h) (fun _ => ?_)); conv => whnf))
    rfl
  · rw [decide_eq_false hq] at hs
    rw [hno (fun h => hq h.2.2.symm)]
    (conv => whnf); repeat ((first | refine And.intro DrawOk.go ?_ | refine And.intro rfl ?_ | refine And.intro (fun _ => ?_) (fun h => Bool.noConfusion h) | refine And.intro (fun h => Bool.noConfusion h) (fun _ => ?_)); conv => whnf)
    refine ⟨_, _, hE, ?_⟩
    (conv => whnf); repeat ((first | refine And.intro DrawOk.go ?_ | refine And.intro rfl ?_ | refine And.intro (fun _ => ?_) (fun h => Bool.noConfusion h) | refine And.intro (fun h => Bool.noConfusion h) (fun _ => ?_)); conv => whnf)
    refine ⟨_, _, hs, ?_⟩
    (conv => whnf); repeat ((first | refine And.intro DrawOk.go ?_ | refine And.intro rfl ?_ | refine And.intro (fun _ => ?_) (fun h => Bool.noConfusion h) | refine And.intro (fun h => Bool.noConfusion h) (fun _ => ?_)); conv => whnf)
    refine Exists.intro [] (And.intro List.nodup_nil ?_); ((conv => whnf); repeat ((first | refine And.intro DrawOk.go ?_ | refine And.intro rfl ?_ | refine And.intro (fun _ => ?_) (fun h => Bool.noConfusion h) | refine And.intro (fun h => Bool.noConfusion h) (fun _ => ?_)); conv => whnf))
    rfl
end Go.Proofs.Ytkpicojhnnkibaa.Ab
