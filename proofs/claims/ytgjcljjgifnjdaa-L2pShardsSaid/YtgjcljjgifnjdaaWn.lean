/- Maps step by step, for entries that are made of numbers. -/
import Derived.Test.YtgjcljjgifnjdaaWm
namespace Go.Proofs.Ytgjcljjgifnjdaa.Ab
set_option linter.unusedVariables false
set_option linter.unusedSimpArgs false
open Go.RowKit

def d9k (L : List Int) (k : Nat) : Nat := dnx L (dnx L (dnx L (dnx L (dnx L k))))
def d9 (L : List Int) (k : Nat) : Ety :=
  ⟨dval L k 9, if dval L (dnx L (dnx L (dnx L (dnx L k)))) 3 = 2 then 2 else 1, 1 + dval L (dnx L k) 30, 0, dval L (dnx L (dnx L k)) 4, dval L (dnx L (dnx L (dnx L k))) 4⟩
theorem d9k_le {L : List Int} {k : Nat} (h : k ≤ L.length) : d9k L k ≤ L.length := dnx_le (dnx_le (dnx_le (dnx_le (dnx_le h))))
theorem d9_right (L : List Int) (k : Nat) : rightE (d9 L k) = true ∧ 0 ≤ (d9 L k).b ∧ (d9 L k).b < 9 ∧ 0 ≤ (d9 L k).z ∧ (d9 L k).z < 4 ∧ 0 ≤ (d9 L k).o ∧ 1 ≤ (d9 L k).v ∧ (d9 L k).v ≤ 30 := by
  have h1 := dval_in L k (n := 9) (by omega) (by omega)
  have h2 := dval_in L (dnx L k) (n := 30) (by omega) (by omega)
  have h4 := dval_in L (dnx L (dnx L k)) (n := 4) (by omega) (by omega)
  have h5 := dval_in L (dnx L (dnx L (dnx L k))) (n := 4) (by omega) (by omega)
  unfold rightE d9
  dsimp only
  refine ⟨?_, by omega, by omega, by omega, by omega, by omega, by omega, by omega⟩
  rw [decide_eq_true_eq]
  split <;> omega
set_option maxRecDepth 100000 in
set_option maxHeartbeats 8000000 in
theorem m9F (L : List Int) (k : Nat) (hl : L.length ≤ 1000000) : FunP Try.prog 31 (dcs L k) [] (dcs L (d9k L k)) (.v (eV (d9 L k))) := by
  have h2 := dval_in L (dnx L k) (n := 30) (by omega) (by omega)
  have hw : iwrap .i64 (1 + dval L (dnx L k) 30) = 1 + dval L (dnx L k) 30 := w64_in (by omega)
  refine funP_of_vc tabOk mixOk Try.func31 rfl (by rfl) (rs := [.cell 2 34]) rfl rfl rfl rfl rfl 24 ?_; rw [Try.ntmps31]
  (conv => whnf); repeat ((first | refine And.intro DrawOk.go ?_ | refine And.intro rfl ?_ | refine And.intro (fun _ => ?_) (fun h => Bool.noConfusion h) | refine And.intro (fun h => Bool.noConfusion h) (fun _ => ?_)); conv => whnf)
  refine ⟨_, _, nextF L k 9 hl, ?_⟩
  (conv => whnf); repeat ((first | refine And.intro DrawOk.go ?_ | refine And.intro rfl ?_ | refine And.intro (fun _ => ?_) (fun h => Bool.noConfusion h) | refine And.intro (fun h => Bool.noConfusion h) (fun _ => ?_)); conv => whnf)
  refine ⟨_, _, nextF L _ 30 hl, ?_⟩
  (conv => whnf); repeat ((first | refine And.intro DrawOk.go ?_ | refine And.intro rfl ?_ | refine And.intro (fun _ => ?_) (fun h => Bool.noConfusion h) | refine And.intro (fun h => Bool.noConfusion h) (fun _ => ?_)); conv => whnf)
  refine ⟨_, _, nextF L _ 4 hl, ?_⟩
  (conv => whnf); repeat ((first | refine And.intro DrawOk.go ?_ | refine And.intro rfl ?_ | refine And.intro (fun _ => ?_) (fun h => Bool.noConfusion h) | refine And.intro (fun h => Bool.noConfusion h) (fun _ => ?_)); conv => whnf)
  refine ⟨_, _, nextF L _ 4 hl, ?_⟩
  (conv => whnf); repeat ((first | refine And.intro DrawOk.go ?_ | refine And.intro rfl ?_ | refine And.intro (fun _ => ?_) (fun h => Bool.noConfusion h) | refine And.intro (fun h => Bool.noConfusion h) (fun _ => ?_)); conv => whnf)
  refine ⟨_, _, nextF L _ 3 hl, ?_⟩
  (conv => whnf); repeat ((first | refine And.intro DrawOk.go ?_ | refine And.intro rfl ?_ | refine And.intro (fun _ => ?_) (fun h => Bool.noConfusion h) | refine And.intro (fun h => Bool.noConfusion h) (fun _ => ?_)); conv => whnf)
  rw [hw]
  refine And.intro (fun h => ?_) (fun h => ?_)
  · have h' : dval L (dnx L (dnx L (dnx L (dnx L k)))) 3 = 2 := by simpa using h
    (conv => whnf); repeat ((first | refine And.intro DrawOk.go ?_ | refine And.intro rfl ?_ | refine And.intro (fun _ => ?_) (fun h => Bool.noConfusion h) | refine And.intro (fun h => Bool.noConfusion h) (fun _ => ?_)); conv => whnf)
    rw [show d9 L k = ⟨dval L k 9, 2, 1 + dval L (dnx L k) 30, 0, dval L (dnx L (dnx L k)) 4, dval L (dnx L (dnx L (dnx L k))) 4⟩ from by unfold d9; rw [if_pos h']]
    rfl
  · have h' : ¬ dval L (dnx L (dnx L (dnx L (dnx L k)))) 3 = 2 := by simpa using h
    (conv => whnf); repeat ((first | refine And.intro DrawOk.go ?_ | refine And.intro rfl ?_ | refine And.intro (fun _ => ?_) (fun h => Bool.noConfusion h) | refine And.intro (fun h => Bool.noConfusion h) (fun _ => ?_)); conv => whnf)
    rw [show d9 L k = ⟨dval L k 9, 1, 1 + dval L (dnx L k) 30, 0, dval L (dnx L (dnx L k)) 4, dval L (dnx L (dnx L (dnx L k))) 4⟩ from by unfold d9; rw [if_neg h']]
    rfl
theorem sinst_mem {l : List Ety} {e x : Ety} (h : x ∈ (sinst l e).1) : x ∈ l ∨ x = e := by
  unfold sinst at h
  split at h
  · first
      | exact Or.inl h
      | cases h
  · split at h
    · exact Or.inl h
    · split at h
      · split at h
        · exact Or.inl h
        · exact List.mem_or_eq_of_mem_set h
      · rcases List.mem_append.1 h with h | h
        · exact Or.inl (List.mem_of_mem_take h)
        · rcases List.mem_cons.1 h with h | h
          · exact Or.inr h
          · exact Or.inl (List.mem_of_mem_drop h)
/-- Small maps. -/
def mP (c : Nat) (M : List (List Ety)) : Prop := M.length ≤ 8 ∧ ∀ l ∈ M, l.length ≤ c ∧ ∀ e ∈ l, e.b ≤ 8
theorem mP.ok {c : Nat} {M : List (List Ety)} (h : mP c M) (hc : c ≤ 1000) : mOk M := ok_aw h.1 fun l hl => Nat.le_trans (h.2 l hl).1 hc
theorem mP.mB {c : Nat} {M : List (List Ety)} (h : mP c M) : mB M := fun l hl e he => Int.le_trans ((h.2 l hl).2 e he) (by decide)
theorem mP.inst {c : Nat} {M : List (List Ety)} (h : mP c M) {e : Ety} (he : e.b ≤ 8) : mP (c + 1) (minst M e).1 := by
  unfold minst
  split
  · rename_i ha
    obtain ⟨_, k, hk, hkl⟩ := mstr_in ha
    rw [shd_at hk hkl, hk, Int.toNat_natCast]
    refine ⟨by rw [List.length_set]; exact h.1, fun l hl => ?_⟩
    rcases List.mem_or_eq_of_mem_set hl with h1 | rfl
    · exact ⟨Nat.le_succ_of_le (h.2 l h1).1, (h.2 l h1).2⟩
    · have h2 := h.2 _ (List.getElem_mem hkl)
      refine ⟨Nat.le_trans (sinst_len _ _) (Nat.succ_le_succ h2.1), fun x hx => ?_⟩
      rcases sinst_mem hx with h3 | rfl
      · exact h2.2 x h3
      · exact he
  · exact ⟨h.1, fun l hl => ⟨Nat.le_succ_of_le (h.2 l hl).1, (h.2 l hl).2⟩⟩
theorem mnew_P (n : Nat) (h : n ≤ 8) (c : Nat) : mP c (mnew n) := by
  unfold mnew
  refine ⟨by rw [List.length_replicate]; exact h, fun l hl => ?_⟩
  rw [List.eq_of_mem_replicate hl]
  exact ⟨Nat.zero_le _, fun e he => by cases he⟩
set_option maxRecDepth 100000 in
set_option maxHeartbeats 32000000 in
theorem l2pMadeF (L : List Int) (s : Int) (hL : L.length ≤ 140737488355328) : Fun Try.prog 10 [slV (wV L), i64V s] [] (ATbool true) := by
  have lt := lightF L hL
  have hw := mawakeF
  by_cases hl3 : L.length ≤ 300
  rotate_left
  · rw [decide_eq_false hl3] at lt
    refine fun_of_vc tabOk mixOk Try.func10 rfl (by rfl) (rs := [.tmp 4]) rfl rfl 108 ?_; rw [Try.ntmps10]
    (conv => whnf); repeat ((first | refine And.intro DrawOk.go ?_ | refine And.intro rfl ?_ | refine And.intro (fun _ => ?_) (fun h => Bool.noConfusion h) | refine And.intro (fun h => Bool.noConfusion h) (fun _ => ?_)); conv => whnf)
    refine ⟨_, _, lt, ?_⟩
    (conv => whnf); repeat ((first | refine And.intro DrawOk.go ?_ | refine And.intro rfl ?_ | refine And.intro (fun _ => ?_) (fun h => Bool.noConfusion h) | refine And.intro (fun h => Bool.noConfusion h) (fun _ => ?_)); conv => whnf)
    refine ⟨_, _, hw, ?_⟩
    (conv => whnf); repeat ((first | refine And.intro DrawOk.go ?_ | refine And.intro rfl ?_ | refine And.intro (fun _ => ?_) (fun h => Bool.noConfusion h) | refine And.intro (fun h => Bool.noConfusion h) (fun _ => ?_)); conv => whnf)
    refine Exists.intro [] (And.intro List.nodup_nil ?_); ((conv => whnf); repeat ((first | refine And.intro DrawOk.go ?_ | refine And.intro rfl ?_ | refine And.intro (fun _ => ?_) (fun h => Bool.noConfusion h) | refine And.intro (fun h => Bool.noConfusion h) (fun _ => ?_)); conv => whnf))
    rfl
  rw [decide_eq_true hl3] at lt
  have hl : L.length ≤ 1000000 := by omega
  have hm := modF s 11
  have hm2 := dmod_in (x := s) (n := 11) (by decide) (by decide)
  have hm3 : iwrap .i64 (dmod s 11 - 1) = dmod s 11 - 1 := w64_in (by omega)
  have hr := rollF L hl
  by_cases hn : 1 ≤ dmod s 11 - 1 ∧ dmod s 11 - 1 ≤ 8
  rotate_left
  · have h1 := mnewNo (dmod s 11 - 1) hn
    have h2 := mnewNo' (dmod s 11 - 1) hn
    have h3 := msameF [] (by decide) (fun l hl => by cases hl)
    generalize dmod s 11 = m at hm hm3 h1 h2
    refine fun_of_vc tabOk mixOk Try.func10 rfl (by rfl) (rs := [.tmp 4]) rfl rfl 108 ?_; rw [Try.ntmps10]
    (conv => whnf); repeat ((first | refine And.intro DrawOk.go ?_ | refine And.intro rfl ?_ | refine And.intro (fun _ => ?_) (fun h => Bool.noConfusion h) | refine And.intro (fun h => Bool.noConfusion h) (fun _ => ?_)); conv => whnf)
    refine ⟨_, _, lt, ?_⟩
    (conv => whnf); repeat ((first | refine And.intro DrawOk.go ?_ | refine And.intro rfl ?_ | refine And.intro (fun _ => ?_) (fun h => Bool.noConfusion h) | refine And.intro (fun h => Bool.noConfusion h) (fun _ => ?_)); conv => whnf)
    refine ⟨_, _, hr, ?_⟩
    (conv => whnf); repeat ((first | refine And.intro DrawOk.go ?_ | refine And.intro rfl ?_ | refine And.intro (fun _ => ?_) (fun h => Bool.noConfusion h) | refine And.intro (fun h => Bool.noConfusion h) (fun _ => ?_)); conv => whnf)
    refine ⟨_, _, hm, ?_⟩
    (conv => whnf); repeat ((first | refine And.intro DrawOk.go ?_ | refine And.intro rfl ?_ | refine And.intro (fun _ => ?_) (fun h => Bool.noConfusion h) | refine And.intro (fun h => Bool.noConfusion h) (fun _ => ?_)); conv => whnf)
    rw [hm3]
    refine ⟨_, _, h1, ?_⟩
    (conv => whnf); repeat ((first | refine And.intro DrawOk.go ?_ | refine And.intro rfl ?_ | refine And.intro (fun _ => ?_) (fun h => Bool.noConfusion h) | refine And.intro (fun h => Bool.noConfusion h) (fun _ => ?_)); conv => whnf)
    refine ⟨_, _, hm, ?_⟩
    (conv => whnf); repeat ((first | refine And.intro DrawOk.go ?_ | refine And.intro rfl ?_ | refine And.intro (fun _ => ?_) (fun h => Bool.noConfusion h) | refine And.intro (fun h => Bool.noConfusion h) (fun _ => ?_)); conv => whnf)
    rw [hm3]
    refine ⟨_, _, h2, ?_⟩
    (conv => whnf); repeat ((first | refine And.intro DrawOk.go ?_ | refine And.intro rfl ?_ | refine And.intro (fun _ => ?_) (fun h => Bool.noConfusion h) | refine And.intro (fun h => Bool.noConfusion h) (fun _ => ?_)); conv => whnf)
    refine ⟨_, _, h3, ?_⟩
    (conv => whnf); repeat ((first | refine And.intro DrawOk.go ?_ | refine And.intro rfl ?_ | refine And.intro (fun _ => ?_) (fun h => Bool.noConfusion h) | refine And.intro (fun h => Bool.noConfusion h) (fun _ => ?_)); conv => whnf)
    refine vc_loop [5, 7, 8] [20] (X := Nat) (fun i gs => [(10, ATint i)]) (fun _ _ => []) (fun i => i ≤ 25) (fun i => 25 - i) _ (Ghost.refl _) 0 (Nat.zero_le _) ?_ ?_
    · (refine And.intro rfl (And.intro rfl ?_)); (repeat' (first | exact trivial | exact rfl | apply And.intro | (refine congrArg (Value.int .i64) (w64_nat ?_); omega)))
    intro gs i hi
    have hr2 := restF L 0 hl (Nat.zero_le _)
    (conv => whnf); repeat ((first | refine And.intro DrawOk.go ?_ | refine And.intro rfl ?_ | refine And.intro (fun _ => ?_) (fun h => Bool.noConfusion h) | refine And.intro (fun h => Bool.noConfusion h) (fun _ => ?_)); conv => whnf)
    repeat' (first | ((refine And.intro (fun h => ?_) (fun h => ?_)) <;> (try simp at h) <;> ((conv => whnf); repeat ((first | refine And.intro DrawOk.go ?_ | refine And.intro rfl ?_ | refine And.intro (fun _ => ?_) (fun h => Bool.noConfusion h) | refine And.intro (fun h => Bool.noConfusion h) (fun _ => ?_)); conv => whnf))) | (refine ⟨_, _, hr2, ?_⟩; ((conv => whnf); repeat ((first | refine And.intro DrawOk.go ?_ | refine And.intro rfl ?_ | refine And.intro (fun _ => ?_) (fun h => Bool.noConfusion h) | refine And.intro (fun h => Bool.noConfusion h) (fun _ => ?_)); conv => whnf))) | (refine ⟨_, _, hw, ?_⟩; ((conv => whnf); repeat ((first | refine And.intro DrawOk.go ?_ | refine And.intro rfl ?_ | refine And.intro (fun _ => ?_) (fun h => Bool.noConfusion h) | refine And.intro (fun h => Bool.noConfusion h) (fun _ => ?_)); conv => whnf))) | fail)
    all_goals
      (refine Exists.intro [] (And.intro List.nodup_nil ?_); ((conv => whnf); repeat ((first | refine And.intro DrawOk.go ?_ | refine And.intro rfl ?_ | refine And.intro (fun _ => ?_) (fun h => Bool.noConfusion h) | refine And.intro (fun h => Bool.noConfusion h) (fun _ => ?_)); conv => whnf))
       rfl)
  obtain ⟨n, hn2⟩ : ∃ n : Nat, dmod s 11 - 1 = n := ⟨(dmod s 11 - 1).toNat, by omega⟩
  have h1 := mnewF n (by omega) (by omega)
  have h2 := mnewF' n (by omega) (by omega)
  have hP := mnew_P n (by omega) 0
  have h3 := msameF (mnew n) (hP.ok (by decide)).1 (fun l hl => Nat.le_trans (hP.2 l hl).1 (by decide))
  have hm3 := hm3.trans hn2
  generalize dmod s 11 = m at hm hm3
  generalize mnew n = N0 at h1 h2 h3 hP
  refine fun_of_vc (tabXOk [4000073]) mixOk Try.func10 rfl (by rfl) (rs := [.tmp 4]) rfl rfl 108 ?_; rw [Try.ntmps10]
  (conv => whnf); repeat ((first | refine And.intro DrawOk.go ?_ | refine And.intro rfl ?_ | refine And.intro (fun _ => ?_) (fun h => Bool.noConfusion h) | refine And.intro (fun h => Bool.noConfusion h) (fun _ => ?_)); conv => whnf)
  refine ⟨_, _, lt, ?_⟩
  (conv => whnf); repeat ((first | refine And.intro DrawOk.go ?_ | refine And.intro rfl ?_ | refine And.intro (fun _ => ?_) (fun h => Bool.noConfusion h) | refine And.intro (fun h => Bool.noConfusion h) (fun _ => ?_)); conv => whnf)
  refine ⟨_, _, hr, ?_⟩
  (conv => whnf); repeat ((first | refine And.intro DrawOk.go ?_ | refine And.intro rfl ?_ | refine And.intro (fun _ => ?_) (fun h => Bool.noConfusion h) | refine And.intro (fun h => Bool.noConfusion h) (fun _ => ?_)); conv => whnf)
  refine ⟨_, _, hm, ?_⟩
  (conv => whnf); repeat ((first | refine And.intro DrawOk.go ?_ | refine And.intro rfl ?_ | refine And.intro (fun _ => ?_) (fun h => Bool.noConfusion h) | refine And.intro (fun h => Bool.noConfusion h) (fun _ => ?_)); conv => whnf)
  rw [hm3]
  refine ⟨_, _, h1, ?_⟩
  (conv => whnf); repeat ((first | refine And.intro DrawOk.go ?_ | refine And.intro rfl ?_ | refine And.intro (fun _ => ?_) (fun h => Bool.noConfusion h) | refine And.intro (fun h => Bool.noConfusion h) (fun _ => ?_)); conv => whnf)
  refine ⟨_, _, hm, ?_⟩
  (conv => whnf); repeat ((first | refine And.intro DrawOk.go ?_ | refine And.intro rfl ?_ | refine And.intro (fun _ => ?_) (fun h => Bool.noConfusion h) | refine And.intro (fun h => Bool.noConfusion h) (fun _ => ?_)); conv => whnf)
  rw [hm3]
  refine ⟨_, _, h2, ?_⟩
  (conv => whnf); repeat ((first | refine And.intro DrawOk.go ?_ | refine And.intro rfl ?_ | refine And.intro (fun _ => ?_) (fun h => Bool.noConfusion h) | refine And.intro (fun h => Bool.noConfusion h) (fun _ => ?_)); conv => whnf)
  refine ⟨_, _, h3, ?_⟩
  (conv => whnf); repeat ((first | refine And.intro DrawOk.go ?_ | refine And.intro rfl ?_ | refine And.intro (fun _ => ?_) (fun h => Bool.noConfusion h) | refine And.intro (fun h => Bool.noConfusion h) (fun _ => ?_)); conv => whnf)
  refine vc_loop [5, 7, 8] [] (X := Nat × Nat × List (List Ety)) (fun x gs => [(10, ATint x.1)]) (fun x gs => [(20, .var 1 (dcs L x.2.1)), (8, .var 1 [.i (.sl (mR x.2.2))])]) (fun x => x.1 ≤ 25 ∧ x.2.1 ≤ L.length ∧ mP x.1 x.2.2) (fun x => 25 - x.1) _ (Ghost.refl _) (0, 0, N0) ⟨Nat.zero_le _, Nat.zero_le _, hP⟩ ?_ ?_
  · (refine And.intro rfl (And.intro rfl ?_)); (repeat' (first | exact trivial | exact rfl | apply And.intro | (refine congrArg (Value.int .i64) (w64_nat ?_); omega)))
  rintro gs ⟨i, k, N⟩ ⟨hi, hk, hN⟩
  dsimp only at hi hk hN ⊢
  have hr2 := restF L k hl hk
  have hR := d9_right L k
  (conv => whnf); repeat ((first | refine And.intro DrawOk.go ?_ | refine And.intro rfl ?_ | refine And.intro (fun _ => ?_) (fun h => Bool.noConfusion h) | refine And.intro (fun h => Bool.noConfusion h) (fun _ => ?_)); conv => whnf)
  refine And.intro (fun h => ?_) (fun h => ?_)
  rotate_left
  · (conv => whnf); repeat ((first | refine And.intro DrawOk.go ?_ | refine And.intro rfl ?_ | refine And.intro (fun _ => ?_) (fun h => Bool.noConfusion h) | refine And.intro (fun h => Bool.noConfusion h) (fun _ => ?_)); conv => whnf)
    refine ⟨_, _, hw, ?_⟩
    (conv => whnf); repeat ((first | refine And.intro DrawOk.go ?_ | refine And.intro rfl ?_ | refine And.intro (fun _ => ?_) (fun h => Bool.noConfusion h) | refine And.intro (fun h => Bool.noConfusion h) (fun _ => ?_)); conv => whnf)
    refine Exists.intro [] (And.intro List.nodup_nil ?_); ((conv => whnf); repeat ((first | refine And.intro DrawOk.go ?_ | refine And.intro rfl ?_ | refine And.intro (fun _ => ?_) (fun h => Bool.noConfusion h) | refine And.intro (fun h => Bool.noConfusion h) (fun _ => ?_)); conv => whnf))
    rfl
  have hlt : i < 25 := by have := of_decide_eq_true h; omega
  (conv => whnf); repeat ((first | refine And.intro DrawOk.go ?_ | refine And.intro rfl ?_ | refine And.intro (fun _ => ?_) (fun h => Bool.noConfusion h) | refine And.intro (fun h => Bool.noConfusion h) (fun _ => ?_)); conv => whnf)
  refine ⟨_, _, hr2, ?_⟩
  (conv => whnf); repeat ((first | refine And.intro DrawOk.go ?_ | refine And.intro rfl ?_ | refine And.intro (fun _ => ?_) (fun h => Bool.noConfusion h) | refine And.intro (fun h => Bool.noConfusion h) (fun _ => ?_)); conv => whnf)
  refine And.intro (fun h4 => ?_) (fun h4 => ?_)
  rotate_left
  · (conv => whnf); repeat ((first | refine And.intro DrawOk.go ?_ | refine And.intro rfl ?_ | refine And.intro (fun _ => ?_) (fun h => Bool.noConfusion h) | refine And.intro (fun h => Bool.noConfusion h) (fun _ => ?_)); conv => whnf)
    refine ⟨_, _, hw, ?_⟩
    (conv => whnf); repeat ((first | refine And.intro DrawOk.go ?_ | refine And.intro rfl ?_ | refine And.intro (fun _ => ?_) (fun h => Bool.noConfusion h) | refine And.intro (fun h => Bool.noConfusion h) (fun _ => ?_)); conv => whnf)
    refine Exists.intro [] (And.intro List.nodup_nil ?_); ((conv => whnf); repeat ((first | refine And.intro DrawOk.go ?_ | refine And.intro rfl ?_ | refine And.intro (fun _ => ?_) (fun h => Bool.noConfusion h) | refine And.intro (fun h => Bool.noConfusion h) (fun _ => ?_)); conv => whnf))
    rfl
  have hE := m9F L k hl
  have hk2 := d9k_le hk
  have hok := hN.ok (by omega)
  generalize d9k L k = k2 at hE hk2
  generalize d9 L k = x at hE hR
  obtain ⟨b, kd, v, mv, z, o⟩ := x
  have hlo := mlookF' N b hok
  generalize mlook N b = F at hlo
  obtain ⟨⟨yb, yk, yv, ym, yz, yo⟩, ok⟩ := F
  dsimp only at hlo
  (conv => whnf); repeat ((first | refine And.intro DrawOk.go ?_ | refine And.intro rfl ?_ | refine And.intro (fun _ => ?_) (fun h => Bool.noConfusion h) | refine And.intro (fun h => Bool.noConfusion h) (fun _ => ?_)); conv => whnf)
  refine ⟨_, _, hE, ?_⟩
  (conv => whnf); repeat ((first | refine And.intro DrawOk.go ?_ | refine And.intro rfl ?_ | refine And.intro (fun _ => ?_) (fun h => Bool.noConfusion h) | refine And.intro (fun h => Bool.noConfusion h) (fun _ => ?_)); conv => whnf)
  refine vc_join [5, 7, 8, 10, 11, 12] [8] (X := Int × Int × Int × Nat) (fun _ _ => []) (fun x _ => [(20, .var 1 (dcs L x.2.2.2)), (11, .var (gs 11 + 1) [.i (.sc (.int .i64 b)), .i (.sc (.int .i64 kd)), .i (.sc (.int .i64 x.1)), .i (.sc (.int .i64 mv)), .i (.sc (.int .i64 z)), .i (.sc (.int .i64 o))]), (12, .var (gs 12 + 1) [.i (.sc (.int .i64 x.2.1)), .i (.sc (.int .i64 x.2.2.1))])]) (fun x => x.2.2.2 ≤ L.length) ?_ ?_
  · (conv => whnf); repeat ((first | refine And.intro DrawOk.go ?_ | refine And.intro rfl ?_ | refine And.intro (fun _ => ?_) (fun h => Bool.noConfusion h) | refine And.intro (fun h => Bool.noConfusion h) (fun _ => ?_)); conv => whnf)
    refine ⟨_, _, hlo, ?_⟩
    cases ok with
    | false =>
      (conv => whnf); repeat ((first | refine And.intro DrawOk.go ?_ | refine And.intro rfl ?_ | refine And.intro (fun _ => ?_) (fun h => Bool.noConfusion h) | refine And.intro (fun h => Bool.noConfusion h) (fun _ => ?_)); conv => whnf)
      refine joined (v, z, o, k2) hk2 ?_
      (refine And.intro rfl (And.intro rfl ?_)); (repeat' (first | exact trivial | exact rfl | apply And.intro | (refine congrArg (Value.int .i64) (w64_nat ?_); omega)))
    | true =>
      have hx1 := nextF L k2 2 hl
      have hx2 := nextF L (dnx L k2) 2 hl
      have hk3 := dnx_le hk2
      have hk4 := dnx_le hk3
      generalize dval L k2 2 = d1 at hx1
      generalize dnx L k2 = k3 at hx1 hx2 hk3 hk4
      generalize dval L k3 2 = d2 at hx2
      generalize dnx L k3 = k4 at hx2 hk4
      (conv => whnf); repeat ((first | refine And.intro DrawOk.go ?_ | refine And.intro rfl ?_ | refine And.intro (fun _ => ?_) (fun h => Bool.noConfusion h) | refine And.intro (fun h => Bool.noConfusion h) (fun _ => ?_)); conv => whnf)
      refine ⟨_, _, hx1, ?_⟩
      (conv => whnf); repeat ((first | refine And.intro DrawOk.go ?_ | refine And.intro rfl ?_ | refine And.intro (fun _ => ?_) (fun h => Bool.noConfusion h) | refine And.intro (fun h => Bool.noConfusion h) (fun _ => ?_)); conv => whnf)
      refine And.intro (fun h5 => ?_) (fun h5 => ?_)
      · (conv => whnf); repeat ((first | refine And.intro DrawOk.go ?_ | refine And.intro rfl ?_ | refine And.intro (fun _ => ?_) (fun h => Bool.noConfusion h) | refine And.intro (fun h => Bool.noConfusion h) (fun _ => ?_)); conv => whnf)
        refine ⟨_, _, hx2, ?_⟩
        (conv => whnf); repeat ((first | refine And.intro DrawOk.go ?_ | refine And.intro rfl ?_ | refine And.intro (fun _ => ?_) (fun h => Bool.noConfusion h) | refine And.intro (fun h => Bool.noConfusion h) (fun _ => ?_)); conv => whnf)
        refine joined (iwrap .i64 (yv + d2), yz, yo, k4) hk4 ?_
        (refine And.intro rfl (And.intro rfl ?_)); (repeat' (first | exact trivial | exact rfl | apply And.intro | (refine congrArg (Value.int .i64) (w64_nat ?_); omega)))
      · (conv => whnf); repeat ((first | refine And.intro DrawOk.go ?_ | refine And.intro rfl ?_ | refine And.intro (fun _ => ?_) (fun h => Bool.noConfusion h) | refine And.intro (fun h => Bool.noConfusion h) (fun _ => ?_)); conv => whnf)
        refine joined (v, z, o, k3) hk3 ?_
        (refine And.intro rfl (And.intro rfl ?_)); (repeat' (first | exact trivial | exact rfl | apply And.intro | (refine congrArg (Value.int .i64) (w64_nat ?_); omega)))
  rintro gs2 ⟨v', fz, fo, k3⟩ hk3
  dsimp only at hk3 ⊢
  have hx1 := nextF L k3 30 hl
  have hx2 := nextF L (dnx L k3) 5 hl
  have hk4 := dnx_le hk3
  have hk5 := dnx_le hk4
  generalize dval L k3 30 = d1 at hx1
  generalize dnx L k3 = k4 at hx1 hx2 hk4 hk5
  generalize dval L k4 5 = d2 at hx2
  generalize dnx L k4 = k5 at hx2 hk5
  have hag := magreeF N hok hN.mB b kd v' mv z o b v' d1 fz fo d2 1
  have hin := minstF' N b kd v' mv z o hok
  have hNi := hN.inst (e := ⟨b, kd, v', mv, z, o⟩) (by have := hR.2.2.1; dsimp only at this ⊢; omega)
  generalize minst N ⟨b, kd, v', mv, z, o⟩ = F2 at hin hNi
  obtain ⟨N2, ⟨fb, fk, fv, fm, fz2, fo2⟩, ok2⟩ := F2
  dsimp only at hin hNi
  clear hok hN hlo hR
  (conv => whnf); repeat ((first | refine And.intro DrawOk.go ?_ | refine And.intro rfl ?_ | refine And.intro (fun _ => ?_) (fun h => Bool.noConfusion h) | refine And.intro (fun h => Bool.noConfusion h) (fun _ => ?_)); conv => whnf)
  refine ⟨_, _, hx1, ?_⟩
  (conv => whnf); repeat ((first | refine And.intro DrawOk.go ?_ | refine And.intro rfl ?_ | refine And.intro (fun _ => ?_) (fun h => Bool.noConfusion h) | refine And.intro (fun h => Bool.noConfusion h) (fun _ => ?_)); conv => whnf)
  refine ⟨_, _, hx2, ?_⟩
  (conv => whnf); repeat ((first | refine And.intro DrawOk.go ?_ | refine And.intro rfl ?_ | refine And.intro (fun _ => ?_) (fun h => Bool.noConfusion h) | refine And.intro (fun h => Bool.noConfusion h) (fun _ => ?_)); conv => whnf)
  refine ⟨_, _, hag, ?_⟩
  (conv => whnf); repeat ((first | refine And.intro DrawOk.go ?_ | refine And.intro rfl ?_ | refine And.intro (fun _ => ?_) (fun h => Bool.noConfusion h) | refine And.intro (fun h => Bool.noConfusion h) (fun _ => ?_)); conv => whnf)
  refine ⟨_, _, hin, ?_⟩
  (conv => whnf); repeat ((first | refine And.intro DrawOk.go ?_ | refine And.intro rfl ?_ | refine And.intro (fun _ => ?_) (fun h => Bool.noConfusion h) | refine And.intro (fun h => Bool.noConfusion h) (fun _ => ?_)); conv => whnf)
  refine again (i + 1, k5, N2) ⟨hlt, hk5, hNi⟩ (Nat.sub_lt_sub_left hlt (Nat.lt_succ_self i)) ?_
  (refine And.intro rfl (And.intro rfl ?_)); (repeat' (first | exact trivial | exact rfl | apply And.intro | (refine congrArg (Value.int .i64) (w64_nat ?_); omega)))
  all_goals exact congrArg (Value.int .i64) (w64_nat (by omega))
end Go.Proofs.Ytgjcljjgifnjdaa.Ab
namespace Go.Proofs.Ytgjcljjgifnjdaa
set_option linter.unusedVariables false
set_option linter.unusedSimpArgs false
open Ab
set_option maxRecDepth 100000 in
theorem l2pMade.walk {H : Type} {enc : TypeId × Value → H} {W : World} {base : Nat} (v : Value) (d : DataW H) (p : List MemPlace) (hv : Value.okWide Try.prog W .any base 22 v)
    (h : DataW.Trod enc Try.prog W 0 (fun _ => true) true 22 v d p) (hw : ∀ n ∈ d.weights Try.prog 22, n ≤ 140737488351232)
    (a2 : Int) (_w2 : (Lit.int .i64 a2).wf = true)
    (W' : World) (hW : W' = W := by rfl) : Calls Try.prog 10 #[v, .int .i64 a2] W' (True1 W') := by
  subst hW
  obtain ⟨es, _, q1, q2⟩ := open_sl tabOk 3 (t := 22) (by decide +kernel) rfl hv h
  obtain ⟨xs, rfl⟩ := ints_of (d := 2) es (fun r hr => (q1 r hr).2)
  have b3 := slice_bound tabOk (e := 3) rfl h hw (q2 (fun _ _ => undef) (fun _ => 0))
  rw [bytesOf_eq tabOk (fun h => TK.noConfusion h)] at b3
  have b3' : (wV xs).length * 8 ≤ 140737488351232 := b3
  exact law_of_fun (l2pMadeF xs a2 (by simp [wV] at b3'; omega)) rfl (reps_get (vs := [_, _]) ⟨q2 _ _, .sc _ rfl, trivial⟩)
end Go.Proofs.Ytgjcljjgifnjdaa
