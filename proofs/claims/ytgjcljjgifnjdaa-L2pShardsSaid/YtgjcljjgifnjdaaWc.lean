/- Maps: which are valid. No condition. -/
import Derived.Test.YtgjcljjgifnjdaaWb
namespace Go.Proofs.Ytgjcljjgifnjdaa.Ab
set_option linter.unusedVariables false
set_option linter.unusedSimpArgs false
open Go.RowKit

theorem loop_abs' {B : St → (Ex → St → Prop) → Prop} {S : St} {Q : Ex → St → Prop} (h : ∀ Q', Q' = Q → LoopVC B S Q') : LoopVC B S Q := h Q rfl
theorem mv_len {M : List (List Ety)} (h : ¬ (1 ≤ M.length ∧ M.length ≤ 8)) : mvalid M = false := by unfold mvalid; rw [decide_eq_false h]; rfl
theorem mv_go {M : List (List Ety)} (h : 1 ≤ M.length ∧ M.length ≤ 8) : mvalid M = mGo M 0 (M.drop 0) := by unfold mvalid; rw [decide_eq_true h, List.drop_zero]; rfl
theorem m_lt {i : Nat} {M : List (List Ety)} (h : decide ((i : Int) < ((mR M).length : Int)) = true) : i < M.length := wa_lt h
set_option maxRecDepth 100000 in
set_option maxHeartbeats 16000000 in
theorem rightF (M : List (List Ety)) (hM : mOk M) : Fun Try.prog 64 [mpV M] [] (ATbool (mvalid M)) := by
  have ml := mLen M
  by_cases hl : 1 ≤ M.length ∧ M.length ≤ 8
  rotate_left
  · rw [mv_len hl]
    refine fun_of_vc tabOk mixOk Try.func64 rfl (by rfl) (rs := [.tmp 2]) rfl rfl 36 ?_; rw [Try.ntmps64]
    (conv => whnf); repeat ((first | refine And.intro DrawOk.go ?_ | refine And.intro rfl ?_ | refine And.intro (fun _ => ?_) (fun h => Bool.noConfusion h) | refine And.intro (fun h => Bool.noConfusion h) (fun _ => ?_)); conv => whnf)
    repeat' (first | ((refine And.intro (fun h => ?_) (fun h => ?_)) <;> (try simp at h) <;> ((conv => whnf); repeat ((first | refine And.intro DrawOk.go ?_ | refine And.intro rfl ?_ | refine And.intro (fun _ => ?_) (fun h => Bool.noConfusion h) | refine And.intro (fun h => Bool.noConfusion h) (fun _ => ?_)); conv => whnf))) | fail)
    all_goals first
      | (exfalso; omega)
      | (refine Exists.intro [] (And.intro List.nodup_nil ?_); ((conv => whnf); repeat ((first | refine And.intro DrawOk.go ?_ | refine And.intro rfl ?_ | refine And.intro (fun _ => ?_) (fun h => Bool.noConfusion h) | refine And.intro (fun h => Bool.noConfusion h) (fun _ => ?_)); conv => whnf))
         rfl)
  have hv := mv_go hl
  have hat := fun (k : Nat) (h : k < M.length) => mGo_at h
  have hend : mGo M M.length (M.drop M.length) = true := by rw [List.drop_length]; rfl
  have hsv := fun (l : List Ety) (h : l ∈ M) => svalidF l (Nat.le_trans (hM.2.2 hl.2 l h) (by decide))
  have hcn := fun (l : List Ety) (i : Nat) (h : l ∈ M) => eConF M (i : Int) l (Nat.le_trans (hM.2.2 hl.2 l h) (by decide))
  have hM1 := hM.1
  generalize mvalid M = R at hv ⊢
  generalize hG : mGo M = G at hv hat hend
  clear hG
  refine fun_of_vc tabOk mixOk Try.func64 rfl (by rfl) (rs := [.tmp 2]) rfl rfl 36 ?_; rw [Try.ntmps64]
  (conv => whnf); repeat ((first | refine And.intro DrawOk.go ?_ | refine And.intro rfl ?_ | refine And.intro (fun _ => ?_) (fun h => Bool.noConfusion h) | refine And.intro (fun h => Bool.noConfusion h) (fun _ => ?_)); conv => whnf)
  repeat' (first | ((refine And.intro (fun h => ?_) (fun h => ?_)) <;> (try simp at h) <;> ((conv => whnf); repeat ((first | refine And.intro DrawOk.go ?_ | refine And.intro rfl ?_ | refine And.intro (fun _ => ?_) (fun h => Bool.noConfusion h) | refine And.intro (fun h => Bool.noConfusion h) (fun _ => ?_)); conv => whnf))) | fail)
  all_goals first
    | (exfalso; omega)
    | skip
  all_goals
    refine vc_loop [1, 16, 17] [1] (X := Nat) (fun i gs => [(18, ATint i)]) (fun _ _ => []) (fun i => i ≤ M.length ∧ R = G i (M.drop i)) (fun i => M.length - i) _ (Ghost.refl _) 0 ⟨Nat.zero_le _, hv⟩ ?_ ?_
    · ((refine And.intro rfl (And.intro rfl ?_)); (repeat' (first | exact trivial | exact rfl | apply And.intro | (refine congrArg (Value.int .i64) (w64_nat ?_); omega))))
    intro gs i hx
    have hi : i ≤ M.length := hx.1
    have he : R = G i (M.drop i) := hx.2
    clear hx
    ((conv => whnf); repeat ((first | refine And.intro DrawOk.go ?_ | refine And.intro rfl ?_ | refine And.intro (fun _ => ?_) (fun h => Bool.noConfusion h) | refine And.intro (fun h => Bool.noConfusion h) (fun _ => ?_)); conv => whnf))
    refine And.intro (fun h4 => ?_) (fun h4 => ?_)
    · have hlt := m_lt h4
      rw [hat i hlt] at he
      have hs := hsv _ (List.getElem_mem hlt)
      have hc := hcn _ i (List.getElem_mem hlt)
      have hit := mItem hlt
      have hib := wa_i hlt hM1
      unfold shOk at he
      generalize M[i] = l at he hs hc hit
      generalize svalid l = a at he hs
      generalize l.any (outM M (i : Int)) = b at he hc
      ((conv => whnf); repeat ((first | refine And.intro DrawOk.go ?_ | refine And.intro rfl ?_ | refine And.intro (fun _ => ?_) (fun h => Bool.noConfusion h) | refine And.intro (fun h => Bool.noConfusion h) (fun _ => ?_)); conv => whnf))
      refine ⟨Int.natCast_nonneg _, _, hit, rfl, ?_⟩
      ((conv => whnf); repeat ((first | refine And.intro DrawOk.go ?_ | refine And.intro rfl ?_ | refine And.intro (fun _ => ?_) (fun h => Bool.noConfusion h) | refine And.intro (fun h => Bool.noConfusion h) (fun _ => ?_)); conv => whnf))
      refine ⟨_, _, hs, ?_⟩
      cases a with
      | false =>
        ((conv => whnf); repeat ((first | refine And.intro DrawOk.go ?_ | refine And.intro rfl ?_ | refine And.intro (fun _ => ?_) (fun h => Bool.noConfusion h) | refine And.intro (fun h => Bool.noConfusion h) (fun _ => ?_)); conv => whnf))
        refine Exists.intro [] (And.intro List.nodup_nil ?_); ((conv => whnf); repeat ((first | refine And.intro DrawOk.go ?_ | refine And.intro rfl ?_ | refine And.intro (fun _ => ?_) (fun h => Bool.noConfusion h) | refine And.intro (fun h => Bool.noConfusion h) (fun _ => ?_)); conv => whnf))
        rw [he]; rfl
      | true =>
        ((conv => whnf); repeat ((first | refine And.intro DrawOk.go ?_ | refine And.intro rfl ?_ | refine And.intro (fun _ => ?_) (fun h => Bool.noConfusion h) | refine And.intro (fun h => Bool.noConfusion h) (fun _ => ?_)); conv => whnf))
        refine Or.inl ?_
        ((conv => whnf); repeat ((first | refine And.intro DrawOk.go ?_ | refine And.intro rfl ?_ | refine And.intro (fun _ => ?_) (fun h => Bool.noConfusion h) | refine And.intro (fun h => Bool.noConfusion h) (fun _ => ?_)); conv => whnf))
        refine ⟨_, _, hc, ?_⟩
        cases b with
        | true =>
          ((conv => whnf); repeat ((first | refine And.intro DrawOk.go ?_ | refine And.intro rfl ?_ | refine And.intro (fun _ => ?_) (fun h => Bool.noConfusion h) | refine And.intro (fun h => Bool.noConfusion h) (fun _ => ?_)); conv => whnf))
          refine Exists.intro [] (And.intro List.nodup_nil ?_); ((conv => whnf); repeat ((first | refine And.intro DrawOk.go ?_ | refine And.intro rfl ?_ | refine And.intro (fun _ => ?_) (fun h => Bool.noConfusion h) | refine And.intro (fun h => Bool.noConfusion h) (fun _ => ?_)); conv => whnf))
          rw [he]; rfl
        | false =>
          ((conv => whnf); repeat ((first | refine And.intro DrawOk.go ?_ | refine And.intro rfl ?_ | refine And.intro (fun _ => ?_) (fun h => Bool.noConfusion h) | refine And.intro (fun h => Bool.noConfusion h) (fun _ => ?_)); conv => whnf))
          refine again (i + 1) ⟨hlt, by rw [he]; rfl⟩ (Nat.sub_lt_sub_left hlt (Nat.lt_succ_self i)) ?_
          ((refine And.intro rfl (And.intro rfl ?_)); (repeat' (first | exact trivial | exact rfl | apply And.intro | (refine congrArg (Value.int .i64) (w64_nat ?_); omega))))
          all_goals exact congrArg (Value.int .i64) (w64_nat hib)
    · obtain rfl := wa_ge h4 hi
      rw [hend] at he
      subst he
      ((conv => whnf); repeat ((first | refine And.intro DrawOk.go ?_ | refine And.intro rfl ?_ | refine And.intro (fun _ => ?_) (fun h => Bool.noConfusion h) | refine And.intro (fun h => Bool.noConfusion h) (fun _ => ?_)); conv => whnf))
      refine Exists.intro [] (And.intro List.nodup_nil ?_); ((conv => whnf); repeat ((first | refine And.intro DrawOk.go ?_ | refine And.intro rfl ?_ | refine And.intro (fun _ => ?_) (fun h => Bool.noConfusion h) | refine And.intro (fun h => Bool.noConfusion h) (fun _ => ?_)); conv => whnf))
      rfl
theorem mGo_mem {M : List (List Ety)} : ∀ (l : List (List Ety)) (i : Nat), mGo M i l = true → ∀ k (h : k < l.length), shOk M ((i + k : Nat) : Int) l[k] = true := by
  intro l
  induction l with
  | nil => intro i _ k h; exact absurd h (Nat.not_lt_zero k)
  | cons x l ih =>
    intro i hg k h
    rw [mGo, Bool.and_eq_true] at hg
    cases k with
    | zero => exact hg.1
    | succ k =>
      have := ih (i + 1) hg.2 k (by simpa using h)
      rw [show i + 1 + k = i + (k + 1) by omega] at this
      exact this
theorem sval_b {l : List Ety} (h : svalid l = true) : ∀ e ∈ l, 0 ≤ e.b := fun e he => by
  have := ((svalid_iff l).1 h).1 e he
  unfold rightE at this
  exact (of_decide_eq_true this).2.2.2.2.2.1
theorem mvalid_at {M : List (List Ety)} (h : mvalid M = true) : (1 ≤ M.length ∧ M.length ≤ 8) ∧ ∀ k (hk : k < M.length), svalid M[k] = true ∧ ∀ e ∈ M[k], mstr M e.b = (k : Int) := by
  by_cases hl : 1 ≤ M.length ∧ M.length ≤ 8
  · rw [mv_go hl, List.drop_zero] at h
    refine ⟨hl, fun k hk => ?_⟩
    have := mGo_mem M 0 h k hk
    unfold shOk at this
    rw [Bool.and_eq_true, Nat.zero_add] at this
    refine ⟨this.1, fun e he => ?_⟩
    have h2 := this.2
    rw [Bool.not_eq_true', List.any_eq_false] at h2
    have := h2 e he
    unfold outM at this
    simpa using this
  · rw [mv_len hl] at h
    cases h
theorem outM_mod {M : List (List Ety)} {i : Int} {e : Ety} (hM : 1 ≤ M.length) (he : 0 ≤ e.b) : outM M i e = (Int.tmod e.b M.length != i) := by
  unfold outM mstr
  rw [if_neg (by omega)]
theorem any_at {p : Ety → Bool} {l : List Ety} {k : Nat} (h : k < l.length) : (l.drop k).any p = (p l[k] || (l.drop (k + 1)).any p) := by
  rw [List.drop_eq_getElem_cons h, List.any_cons]
set_option maxRecDepth 100000 in
set_option maxHeartbeats 16000000 in
theorem rightF' (M : List (List Ety)) (hM : mOk M) : Fun Try.prog 58 [mpV M] [] (ATbool (mvalid M)) := by
  have ml := mLen M
  by_cases hl : 1 ≤ M.length ∧ M.length ≤ 8
  rotate_left
  · rw [mv_len hl]
    refine fun_of_vc tabOk mixOk Try.func58 rfl (by rfl) (rs := [.tmp 2]) rfl rfl 54 ?_; rw [Try.ntmps58]
    (conv => whnf); repeat ((first | refine And.intro DrawOk.go ?_ | refine And.intro rfl ?_ | refine And.intro (fun _ => ?_) (fun h => Bool.noConfusion h) | refine And.intro (fun h => Bool.noConfusion h) (fun _ => ?_)); conv => whnf)
    repeat' (first | ((refine And.intro (fun h => ?_) (fun h => ?_)) <;> (try simp at h) <;> ((conv => whnf); repeat ((first | refine And.intro DrawOk.go ?_ | refine And.intro rfl ?_ | refine And.intro (fun _ => ?_) (fun h => Bool.noConfusion h) | refine And.intro (fun h => Bool.noConfusion h) (fun _ => ?_)); conv => whnf))) | fail)
    all_goals first
      | (exfalso; omega)
      | (refine Exists.intro [] (And.intro List.nodup_nil ?_); ((conv => whnf); repeat ((first | refine And.intro DrawOk.go ?_ | refine And.intro rfl ?_ | refine And.intro (fun _ => ?_) (fun h => Bool.noConfusion h) | refine And.intro (fun h => Bool.noConfusion h) (fun _ => ?_)); conv => whnf))
         rfl)
  have hv := mv_go hl
  have hat := fun (k : Nat) (h : k < M.length) => mGo_at h
  have hend : mGo M M.length (M.drop M.length) = true := by rw [List.drop_length]; rfl
  have hsv := fun (l : List Ety) (h : l ∈ M) => svalidF' l (Nat.le_trans (hM.2.2 hl.2 l h) (by decide))
  have hml := fun (l : List Ety) (h : l ∈ M) => Nat.le_trans (hM.2.2 hl.2 l h) (show 1000 ≤ 1000000 by decide)
  have hmod := fun (l : List Ety) (i : Int) (hs : svalid l = true) (k : Nat) (hk : k < l.length) => outM_mod (M := M) (i := i) hl.1 (sval_b hs _ (List.getElem_mem hk))
  have hM1 := hM.1
  have hne : ((mR M).length : Int) ≠ 0 := by rw [ml]; omega
  rw [← ml] at hmod
  generalize mvalid M = R at hv ⊢
  unfold shOk at hat
  generalize hG : mGo M = G at hv hat hend
  generalize hO : outM M = O at hat hmod
  clear hG hO
  refine fun_of_vc tabOk mixOk Try.func58 rfl (by rfl) (rs := [.tmp 2]) rfl rfl 54 ?_; rw [Try.ntmps58]
  (conv => whnf); repeat ((first | refine And.intro DrawOk.go ?_ | refine And.intro rfl ?_ | refine And.intro (fun _ => ?_) (fun h => Bool.noConfusion h) | refine And.intro (fun h => Bool.noConfusion h) (fun _ => ?_)); conv => whnf)
  repeat' (first | ((refine And.intro (fun h => ?_) (fun h => ?_)) <;> (try simp at h) <;> ((conv => whnf); repeat ((first | refine And.intro DrawOk.go ?_ | refine And.intro rfl ?_ | refine And.intro (fun _ => ?_) (fun h => Bool.noConfusion h) | refine And.intro (fun h => Bool.noConfusion h) (fun _ => ?_)); conv => whnf))) | fail)
  all_goals first
    | (exfalso; omega)
    | skip
  all_goals
    refine vc_loop [1, 3] [1] (X := Nat) (fun i gs => [(4, ATint i)]) (fun _ _ => []) (fun i => i ≤ M.length ∧ R = G i (M.drop i)) (fun i => M.length - i) _ (Ghost.refl _) 0 ⟨Nat.zero_le _, hv⟩ ?_ ?_
    · ((refine And.intro rfl (And.intro rfl ?_)); (repeat' (first | exact trivial | exact rfl | apply And.intro | (refine congrArg (Value.int .i64) (w64_nat ?_); omega))))
    intro gs i hx
    have hi : i ≤ M.length := hx.1
    have he : R = G i (M.drop i) := hx.2
    clear hx
    ((conv => whnf); repeat ((first | refine And.intro DrawOk.go ?_ | refine And.intro rfl ?_ | refine And.intro (fun _ => ?_) (fun h => Bool.noConfusion h) | refine And.intro (fun h => Bool.noConfusion h) (fun _ => ?_)); conv => whnf))
    refine And.intro (fun h4 => ?_) (fun h4 => ?_)
    · have hlt := m_lt h4
      rw [hat i hlt] at he
      have hs := hsv _ (List.getElem_mem hlt)
      have hmo := hmod M[i] (i : Int)
      have hit := mItem hlt
      have hib := wa_i hlt hM1
      have hl6 := hml _ (List.getElem_mem hlt)
      clear hat hsv hmod hml
      generalize M[i] = l at he hs hmo hit hl6
      generalize svalid l = a at he hs hmo
      ((conv => whnf); repeat ((first | refine And.intro DrawOk.go ?_ | refine And.intro rfl ?_ | refine And.intro (fun _ => ?_) (fun h => Bool.noConfusion h) | refine And.intro (fun h => Bool.noConfusion h) (fun _ => ?_)); conv => whnf))
      refine ⟨Int.natCast_nonneg _, _, hit, rfl, ?_⟩
      ((conv => whnf); repeat ((first | refine And.intro DrawOk.go ?_ | refine And.intro rfl ?_ | refine And.intro (fun _ => ?_) (fun h => Bool.noConfusion h) | refine And.intro (fun h => Bool.noConfusion h) (fun _ => ?_)); conv => whnf))
      refine ⟨_, _, hs, ?_⟩
      cases a with
      | false =>
        ((conv => whnf); repeat ((first | refine And.intro DrawOk.go ?_ | refine And.intro rfl ?_ | refine And.intro (fun _ => ?_) (fun h => Bool.noConfusion h) | refine And.intro (fun h => Bool.noConfusion h) (fun _ => ?_)); conv => whnf))
        refine Exists.intro [] (And.intro List.nodup_nil ?_); ((conv => whnf); repeat ((first | refine And.intro DrawOk.go ?_ | refine And.intro rfl ?_ | refine And.intro (fun _ => ?_) (fun h => Bool.noConfusion h) | refine And.intro (fun h => Bool.noConfusion h) (fun _ => ?_)); conv => whnf))
        rw [he]; rfl
      | true =>
        have hmo := hmo rfl
        rw [Bool.true_and] at he
        ((conv => whnf); repeat ((first | refine And.intro DrawOk.go ?_ | refine And.intro rfl ?_ | refine And.intro (fun _ => ?_) (fun h => Bool.noConfusion h) | refine And.intro (fun h => Bool.noConfusion h) (fun _ => ?_)); conv => whnf))
        refine loop_abs' (fun Q' hQ' => ?_)
        refine vc_loop [1, 3, 4] [1] (X := Nat) (fun k gs => [(5, ATint k)]) (fun _ _ => []) (fun k => k ≤ l.length ∧ R = (!((l.drop k).any (O (i : Int))) && G (i + 1) (M.drop (i + 1)))) (fun k => l.length - k) _ (Ghost.refl _) 0 ⟨Nat.zero_le _, he⟩ ?_ ?_
        · ((refine And.intro rfl (And.intro rfl ?_)); (repeat' (first | exact trivial | exact rfl | apply And.intro | (refine congrArg (Value.int .i64) (w64_nat ?_); omega))))
        intro gs2 k hx
        have hk : k ≤ l.length := hx.1
        have he2 : R = (!((l.drop k).any (O (i : Int))) && G (i + 1) (M.drop (i + 1))) := hx.2
        clear hx he
        ((conv => whnf); repeat ((first | refine And.intro DrawOk.go ?_ | refine And.intro rfl ?_ | refine And.intro (fun _ => ?_) (fun h => Bool.noConfusion h) | refine And.intro (fun h => Bool.noConfusion h) (fun _ => ?_)); conv => whnf))
        refine ⟨Int.natCast_nonneg _, _, hit, rfl, ?_⟩
        ((conv => whnf); repeat ((first | refine And.intro DrawOk.go ?_ | refine And.intro rfl ?_ | refine And.intro (fun _ => ?_) (fun h => Bool.noConfusion h) | refine And.intro (fun h => Bool.noConfusion h) (fun _ => ?_)); conv => whnf))
        refine And.intro (fun h5 => ?_) (fun h5 => ?_)
        · have hlk := eI_lt h5
          rw [any_at hlk, hmo k hlk] at he2
          have hit2 := eI_item hlk
          have hkb := eI_i hlk hl6
          generalize l[k] = e at he2 hit2
          ((conv => whnf); repeat ((first | refine And.intro DrawOk.go ?_ | refine And.intro rfl ?_ | refine And.intro (fun _ => ?_) (fun h => Bool.noConfusion h) | refine And.intro (fun h => Bool.noConfusion h) (fun _ => ?_)); conv => whnf))
          refine ⟨Int.natCast_nonneg _, _, hit, rfl, ?_⟩
          ((conv => whnf); repeat ((first | refine And.intro DrawOk.go ?_ | refine And.intro rfl ?_ | refine And.intro (fun _ => ?_) (fun h => Bool.noConfusion h) | refine And.intro (fun h => Bool.noConfusion h) (fun _ => ?_)); conv => whnf))
          refine ⟨Int.natCast_nonneg _, _, hit2, rfl, ?_⟩
          ((conv => whnf); repeat ((first | refine And.intro DrawOk.go ?_ | refine And.intro rfl ?_ | refine And.intro (fun _ => ?_) (fun h => Bool.noConfusion h) | refine And.intro (fun h => Bool.noConfusion h) (fun _ => ?_)); conv => whnf))
          refine ⟨hne, ?_⟩
          ((conv => whnf); repeat ((first | refine And.intro DrawOk.go ?_ | refine And.intro rfl ?_ | refine And.intro (fun _ => ?_) (fun h => Bool.noConfusion h) | refine And.intro (fun h => Bool.noConfusion h) (fun _ => ?_)); conv => whnf))
          refine And.intro (fun h6 => ?_) (fun h6 => ?_)
          · ((conv => whnf); repeat ((first | refine And.intro DrawOk.go ?_ | refine And.intro rfl ?_ | refine And.intro (fun _ => ?_) (fun h => Bool.noConfusion h) | refine And.intro (fun h => Bool.noConfusion h) (fun _ => ?_)); conv => whnf))
            rw [hQ']
            ((conv => whnf); repeat ((first | refine And.intro DrawOk.go ?_ | refine And.intro rfl ?_ | refine And.intro (fun _ => ?_) (fun h => Bool.noConfusion h) | refine And.intro (fun h => Bool.noConfusion h) (fun _ => ?_)); conv => whnf))
            refine Exists.intro [] (And.intro List.nodup_nil ?_); ((conv => whnf); repeat ((first | refine And.intro DrawOk.go ?_ | refine And.intro rfl ?_ | refine And.intro (fun _ => ?_) (fun h => Bool.noConfusion h) | refine And.intro (fun h => Bool.noConfusion h) (fun _ => ?_)); conv => whnf))
            rw [he2, h6]; rfl
          · ((conv => whnf); repeat ((first | refine And.intro DrawOk.go ?_ | refine And.intro rfl ?_ | refine And.intro (fun _ => ?_) (fun h => Bool.noConfusion h) | refine And.intro (fun h => Bool.noConfusion h) (fun _ => ?_)); conv => whnf))
            refine again (k + 1) ⟨hlk, by rw [he2, h6]; rfl⟩ (Nat.sub_lt_sub_left hlk (Nat.lt_succ_self k)) ?_
            ((refine And.intro rfl (And.intro rfl ?_)); (repeat' (first | exact trivial | exact rfl | apply And.intro | (refine congrArg (Value.int .i64) (w64_nat ?_); omega))))
            all_goals exact congrArg (Value.int .i64) (w64_nat hkb)
        · obtain rfl := eI_ge h5 hk
          rw [List.drop_length] at he2
          ((conv => whnf); repeat ((first | refine And.intro DrawOk.go ?_ | refine And.intro rfl ?_ | refine And.intro (fun _ => ?_) (fun h => Bool.noConfusion h) | refine And.intro (fun h => Bool.noConfusion h) (fun _ => ?_)); conv => whnf))
          rw [hQ']
          ((conv => whnf); repeat ((first | refine And.intro DrawOk.go ?_ | refine And.intro rfl ?_ | refine And.intro (fun _ => ?_) (fun h => Bool.noConfusion h) | refine And.intro (fun h => Bool.noConfusion h) (fun _ => ?_)); conv => whnf))
          refine again (i + 1) ⟨hlt, by rw [he2]; rfl⟩ (Nat.sub_lt_sub_left hlt (Nat.lt_succ_self i)) ?_
          ((refine And.intro rfl (And.intro rfl ?_)); (repeat' (first | exact trivial | exact rfl | apply And.intro | (refine congrArg (Value.int .i64) (w64_nat ?_); omega))))
          all_goals exact congrArg (Value.int .i64) (w64_nat hib)
    · obtain rfl := wa_ge h4 hi
      rw [hend] at he
      subst he
      ((conv => whnf); repeat ((first | refine And.intro DrawOk.go ?_ | refine And.intro rfl ?_ | refine And.intro (fun _ => ?_) (fun h => Bool.noConfusion h) | refine And.intro (fun h => Bool.noConfusion h) (fun _ => ?_)); conv => whnf))
      refine Exists.intro [] (And.intro List.nodup_nil ?_); ((conv => whnf); repeat ((first | refine And.intro DrawOk.go ?_ | refine And.intro rfl ?_ | refine And.intro (fun _ => ?_) (fun h => Bool.noConfusion h) | refine And.intro (fun h => Bool.noConfusion h) (fun _ => ?_)); conv => whnf))
      rfl
end Go.Proofs.Ytgjcljjgifnjdaa.Ab
