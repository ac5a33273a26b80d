/- Commands made of numbers. No condition. -/
import Derived.Test.YtikchieadclbhaaGreatDoorZ43
import Derived.Test.YtikchieadclbhaaGreatDoorZ27
namespace Go.Proofs.YtikchieadclbhaaGreatDoor.Ab
set_option linter.unusedVariables false
set_option linter.unusedSimpArgs false
open Go.RowKit

set_option maxRecDepth 100000 in
set_option maxHeartbeats 16000000 in
theorem commandF (L : List Int) (k : Nat) (b : Int) (hl : L.length ≤ 1000000) : ∃ (x : Int × Int × ByteArray) (k' : Nat), FunP Tryz.prog 19 (dcs L k) [i64V b] (dcs L k') (.v (cmV x.1 x.2.1 x.2.2)) ∧ k ≤ k' ∧ (k ≤ L.length → k' ≤ L.length) ∧ x.2.2.size ≤ 16 := by
  have n1 := nextF L k 4 hl
  have n2 := nextF L (dnx L k) b hl
  have g1 := dnx_ge L k
  have g2 := dnx_ge L (dnx L k)
  have l2 : k ≤ L.length → dnx L (dnx L k) ≤ L.length := fun h => dnx_le (dnx_le h)
  have r1 := dval_in L k (n := 4) (by decide) (by decide)
  generalize dval L k 4 = v1 at n1 r1
  generalize dval L (dnx L k) b = v2 at n2
  generalize dnx L k = k1 at n1 n2 g1 g2 l2
  generalize dnx L k1 = k2 at n2 g2 l2
  have n3 := nextF L k2 60 hl
  have hv := valF (dval L k2 60)
  have hvs := vval_size (dval L k2 60)
  have g3 := dnx_ge L k2
  have l3 : k ≤ L.length → dnx L k2 ≤ L.length := fun h => dnx_le (l2 h)
  generalize vval (dval L k2 60) = V at hv hvs
  generalize dval L k2 60 = v3 at n3 hv
  generalize dnx L k2 = k3 at n3 g3 l3
  have n4 := nextF L k2 20 hl
  have n5 := nextF L k3 20 hl
  have g4 := dnx_ge L k2
  have l4 : k ≤ L.length → dnx L k2 ≤ L.length := fun h => dnx_le (l2 h)
  have g5 := dnx_ge L k3
  have l5 : k ≤ L.length → dnx L k3 ≤ L.length := fun h => dnx_le (l3 h)
  generalize dval L k2 20 = v4 at n4
  generalize dval L k3 20 = v5 at n5
  generalize dnx L k2 = k4 at n4 g4 l4
  generalize dnx L k3 = k5 at n5 g5 l5
  have hD : ∀ D : ByteArray, (D = V ∨ D = ByteArray.empty) → D.size ≤ 16 := by
    rintro D (rfl | rfl)
    · exact Nat.le_of_eq hvs
    · exact Nat.zero_le _
  have hc : v1 = 0 ∨ v1 = 1 ∨ v1 = 2 ∨ v1 = 3 := by omega
  rcases hc with rfl | rfl | rfl | rfl
  · by_cases h18 : v4 = 18
    · subst h18
      refine ⟨(1, b, ByteArray.empty), k4, ?_, by omega, (by first | exact l4 | exact l5), hD ByteArray.empty (by first | exact Or.inl rfl | exact Or.inr rfl)⟩
      refine funP_of_vc tabOk mixOk Tryz.func19 rfl (by rfl) (rs := [.cell 4 39]) rfl rfl rfl rfl rfl 38 ?_; rw [Tryz.ntmps19]
      (conv=>whnf);repeat((first|refine zD ?_|refine zA ?_|refine zT ?_|refine zF ?_);conv=>whnf)
      refine ⟨_, _, n1, ?_⟩
      (conv=>whnf);repeat((first|refine zD ?_|refine zA ?_|refine zT ?_|refine zF ?_);conv=>whnf)
      refine ⟨_, _, n2, ?_⟩
      (conv=>whnf);repeat((first|refine zD ?_|refine zA ?_|refine zT ?_|refine zF ?_);conv=>whnf)
      rw [show iwrap .i64 (1 + 0) = 1 from (w64_in (by decide)).trans (by decide)]
      (conv=>whnf);repeat((first|refine zD ?_|refine zA ?_|refine zT ?_|refine zF ?_);conv=>whnf)
      first
        | (refine ⟨_, _, n3, ?_⟩
           (conv=>whnf);repeat((first|refine zD ?_|refine zA ?_|refine zT ?_|refine zF ?_);conv=>whnf)
           refine ⟨_, _, hv, ?_⟩
           (conv=>whnf);repeat((first|refine zD ?_|refine zA ?_|refine zT ?_|refine zF ?_);conv=>whnf))
        | skip
      refine ⟨_, _, n4, ?_⟩
      (conv=>whnf);repeat((first|refine zD ?_|refine zA ?_|refine zT ?_|refine zF ?_);conv=>whnf)
      rfl
    by_cases h19 : v4 = 19
    · subst h19
      refine ⟨(1, v2, ⟨#[97, 98, 99]⟩), k4, ?_, by omega, (by first | exact l4 | exact l5), Nat.le_of_ble_eq_true rfl⟩
      refine funP_of_vc tabOk mixOk Tryz.func19 rfl (by rfl) (rs := [.cell 4 39]) rfl rfl rfl rfl rfl 38 ?_; rw [Tryz.ntmps19]
      (conv=>whnf);repeat((first|refine zD ?_|refine zA ?_|refine zT ?_|refine zF ?_);conv=>whnf)
      refine ⟨_, _, n1, ?_⟩
      (conv=>whnf);repeat((first|refine zD ?_|refine zA ?_|refine zT ?_|refine zF ?_);conv=>whnf)
      refine ⟨_, _, n2, ?_⟩
      (conv=>whnf);repeat((first|refine zD ?_|refine zA ?_|refine zT ?_|refine zF ?_);conv=>whnf)
      rw [show iwrap .i64 (1 + 0) = 1 from (w64_in (by decide)).trans (by decide)]
      (conv=>whnf);repeat((first|refine zD ?_|refine zA ?_|refine zT ?_|refine zF ?_);conv=>whnf)
      first
        | (refine ⟨_, _, n3, ?_⟩
           (conv=>whnf);repeat((first|refine zD ?_|refine zA ?_|refine zT ?_|refine zF ?_);conv=>whnf)
           refine ⟨_, _, hv, ?_⟩
           (conv=>whnf);repeat((first|refine zD ?_|refine zA ?_|refine zT ?_|refine zF ?_);conv=>whnf))
        | skip
      refine ⟨_, _, n4, ?_⟩
      (conv=>whnf);repeat((first|refine zD ?_|refine zA ?_|refine zT ?_|refine zF ?_);conv=>whnf)
      rfl
    · refine ⟨(1, v2, ByteArray.empty), k4, ?_, by omega, (by first | exact l4 | exact l5), hD ByteArray.empty (by first | exact Or.inl rfl | exact Or.inr rfl)⟩
      refine funP_of_vc tabOk mixOk Tryz.func19 rfl (by rfl) (rs := [.cell 4 39]) rfl rfl rfl rfl rfl 38 ?_; rw [Tryz.ntmps19]
      (conv=>whnf);repeat((first|refine zD ?_|refine zA ?_|refine zT ?_|refine zF ?_);conv=>whnf)
      refine ⟨_, _, n1, ?_⟩
      (conv=>whnf);repeat((first|refine zD ?_|refine zA ?_|refine zT ?_|refine zF ?_);conv=>whnf)
      refine ⟨_, _, n2, ?_⟩
      (conv=>whnf);repeat((first|refine zD ?_|refine zA ?_|refine zT ?_|refine zF ?_);conv=>whnf)
      rw [show iwrap .i64 (1 + 0) = 1 from (w64_in (by decide)).trans (by decide)]
      (conv=>whnf);repeat((first|refine zD ?_|refine zA ?_|refine zT ?_|refine zF ?_);conv=>whnf)
      first
        | (refine ⟨_, _, n3, ?_⟩
           (conv=>whnf);repeat((first|refine zD ?_|refine zA ?_|refine zT ?_|refine zF ?_);conv=>whnf)
           refine ⟨_, _, hv, ?_⟩
           (conv=>whnf);repeat((first|refine zD ?_|refine zA ?_|refine zT ?_|refine zF ?_);conv=>whnf))
        | skip
      refine ⟨_, _, n4, ?_⟩
      (conv=>whnf);repeat((first|refine zD ?_|refine zA ?_|refine zT ?_|refine zF ?_);conv=>whnf)
      refine And.intro (fun h => absurd (by simpa using h) h18) (fun _ => ?_)
      (conv=>whnf);repeat((first|refine zD ?_|refine zA ?_|refine zT ?_|refine zF ?_);conv=>whnf)
      refine And.intro (fun h => absurd (by simpa using h) h19) (fun _ => ?_)
      (conv=>whnf);repeat((first|refine zD ?_|refine zA ?_|refine zT ?_|refine zF ?_);conv=>whnf)
      rfl
  · by_cases h18 : v5 = 18
    · subst h18
      refine ⟨(2, b, V), k5, ?_, by omega, (by first | exact l4 | exact l5), hD V (by first | exact Or.inl rfl | exact Or.inr rfl)⟩
      refine funP_of_vc tabOk mixOk Tryz.func19 rfl (by rfl) (rs := [.cell 4 39]) rfl rfl rfl rfl rfl 38 ?_; rw [Tryz.ntmps19]
      (conv=>whnf);repeat((first|refine zD ?_|refine zA ?_|refine zT ?_|refine zF ?_);conv=>whnf)
      refine ⟨_, _, n1, ?_⟩
      (conv=>whnf);repeat((first|refine zD ?_|refine zA ?_|refine zT ?_|refine zF ?_);conv=>whnf)
      refine ⟨_, _, n2, ?_⟩
      (conv=>whnf);repeat((first|refine zD ?_|refine zA ?_|refine zT ?_|refine zF ?_);conv=>whnf)
      rw [show iwrap .i64 (1 + 1) = 2 from (w64_in (by decide)).trans (by decide)]
      (conv=>whnf);repeat((first|refine zD ?_|refine zA ?_|refine zT ?_|refine zF ?_);conv=>whnf)
      first
        | (refine ⟨_, _, n3, ?_⟩
           (conv=>whnf);repeat((first|refine zD ?_|refine zA ?_|refine zT ?_|refine zF ?_);conv=>whnf)
           refine ⟨_, _, hv, ?_⟩
           (conv=>whnf);repeat((first|refine zD ?_|refine zA ?_|refine zT ?_|refine zF ?_);conv=>whnf))
        | skip
      refine ⟨_, _, n5, ?_⟩
      (conv=>whnf);repeat((first|refine zD ?_|refine zA ?_|refine zT ?_|refine zF ?_);conv=>whnf)
      rfl
    by_cases h19 : v5 = 19
    · subst h19
      refine ⟨(2, v2, ⟨#[97, 98, 99]⟩), k5, ?_, by omega, (by first | exact l4 | exact l5), Nat.le_of_ble_eq_true rfl⟩
      refine funP_of_vc tabOk mixOk Tryz.func19 rfl (by rfl) (rs := [.cell 4 39]) rfl rfl rfl rfl rfl 38 ?_; rw [Tryz.ntmps19]
      (conv=>whnf);repeat((first|refine zD ?_|refine zA ?_|refine zT ?_|refine zF ?_);conv=>whnf)
      refine ⟨_, _, n1, ?_⟩
      (conv=>whnf);repeat((first|refine zD ?_|refine zA ?_|refine zT ?_|refine zF ?_);conv=>whnf)
      refine ⟨_, _, n2, ?_⟩
      (conv=>whnf);repeat((first|refine zD ?_|refine zA ?_|refine zT ?_|refine zF ?_);conv=>whnf)
      rw [show iwrap .i64 (1 + 1) = 2 from (w64_in (by decide)).trans (by decide)]
      (conv=>whnf);repeat((first|refine zD ?_|refine zA ?_|refine zT ?_|refine zF ?_);conv=>whnf)
      first
        | (refine ⟨_, _, n3, ?_⟩
           (conv=>whnf);repeat((first|refine zD ?_|refine zA ?_|refine zT ?_|refine zF ?_);conv=>whnf)
           refine ⟨_, _, hv, ?_⟩
           (conv=>whnf);repeat((first|refine zD ?_|refine zA ?_|refine zT ?_|refine zF ?_);conv=>whnf))
        | skip
      refine ⟨_, _, n5, ?_⟩
      (conv=>whnf);repeat((first|refine zD ?_|refine zA ?_|refine zT ?_|refine zF ?_);conv=>whnf)
      rfl
    · refine ⟨(2, v2, V), k5, ?_, by omega, (by first | exact l4 | exact l5), hD V (by first | exact Or.inl rfl | exact Or.inr rfl)⟩
      refine funP_of_vc tabOk mixOk Tryz.func19 rfl (by rfl) (rs := [.cell 4 39]) rfl rfl rfl rfl rfl 38 ?_; rw [Tryz.ntmps19]
      (conv=>whnf);repeat((first|refine zD ?_|refine zA ?_|refine zT ?_|refine zF ?_);conv=>whnf)
      refine ⟨_, _, n1, ?_⟩
      (conv=>whnf);repeat((first|refine zD ?_|refine zA ?_|refine zT ?_|refine zF ?_);conv=>whnf)
      refine ⟨_, _, n2, ?_⟩
      (conv=>whnf);repeat((first|refine zD ?_|refine zA ?_|refine zT ?_|refine zF ?_);conv=>whnf)
      rw [show iwrap .i64 (1 + 1) = 2 from (w64_in (by decide)).trans (by decide)]
      (conv=>whnf);repeat((first|refine zD ?_|refine zA ?_|refine zT ?_|refine zF ?_);conv=>whnf)
      first
        | (refine ⟨_, _, n3, ?_⟩
           (conv=>whnf);repeat((first|refine zD ?_|refine zA ?_|refine zT ?_|refine zF ?_);conv=>whnf)
           refine ⟨_, _, hv, ?_⟩
           (conv=>whnf);repeat((first|refine zD ?_|refine zA ?_|refine zT ?_|refine zF ?_);conv=>whnf))
        | skip
      refine ⟨_, _, n5, ?_⟩
      (conv=>whnf);repeat((first|refine zD ?_|refine zA ?_|refine zT ?_|refine zF ?_);conv=>whnf)
      refine And.intro (fun h => absurd (by simpa using h) h18) (fun _ => ?_)
      (conv=>whnf);repeat((first|refine zD ?_|refine zA ?_|refine zT ?_|refine zF ?_);conv=>whnf)
      refine And.intro (fun h => absurd (by simpa using h) h19) (fun _ => ?_)
      (conv=>whnf);repeat((first|refine zD ?_|refine zA ?_|refine zT ?_|refine zF ?_);conv=>whnf)
      rfl
  · by_cases h18 : v4 = 18
    · subst h18
      refine ⟨(3, b, ByteArray.empty), k4, ?_, by omega, (by first | exact l4 | exact l5), hD ByteArray.empty (by first | exact Or.inl rfl | exact Or.inr rfl)⟩
      refine funP_of_vc tabOk mixOk Tryz.func19 rfl (by rfl) (rs := [.cell 4 39]) rfl rfl rfl rfl rfl 38 ?_; rw [Tryz.ntmps19]
      (conv=>whnf);repeat((first|refine zD ?_|refine zA ?_|refine zT ?_|refine zF ?_);conv=>whnf)
      refine ⟨_, _, n1, ?_⟩
      (conv=>whnf);repeat((first|refine zD ?_|refine zA ?_|refine zT ?_|refine zF ?_);conv=>whnf)
      refine ⟨_, _, n2, ?_⟩
      (conv=>whnf);repeat((first|refine zD ?_|refine zA ?_|refine zT ?_|refine zF ?_);conv=>whnf)
      rw [show iwrap .i64 (1 + 2) = 3 from (w64_in (by decide)).trans (by decide)]
      (conv=>whnf);repeat((first|refine zD ?_|refine zA ?_|refine zT ?_|refine zF ?_);conv=>whnf)
      first
        | (refine ⟨_, _, n3, ?_⟩
           (conv=>whnf);repeat((first|refine zD ?_|refine zA ?_|refine zT ?_|refine zF ?_);conv=>whnf)
           refine ⟨_, _, hv, ?_⟩
           (conv=>whnf);repeat((first|refine zD ?_|refine zA ?_|refine zT ?_|refine zF ?_);conv=>whnf))
        | skip
      refine ⟨_, _, n4, ?_⟩
      (conv=>whnf);repeat((first|refine zD ?_|refine zA ?_|refine zT ?_|refine zF ?_);conv=>whnf)
      rfl
    by_cases h19 : v4 = 19
    · subst h19
      refine ⟨(3, v2, ⟨#[97, 98, 99]⟩), k4, ?_, by omega, (by first | exact l4 | exact l5), Nat.le_of_ble_eq_true rfl⟩
      refine funP_of_vc tabOk mixOk Tryz.func19 rfl (by rfl) (rs := [.cell 4 39]) rfl rfl rfl rfl rfl 38 ?_; rw [Tryz.ntmps19]
      (conv=>whnf);repeat((first|refine zD ?_|refine zA ?_|refine zT ?_|refine zF ?_);conv=>whnf)
      refine ⟨_, _, n1, ?_⟩
      (conv=>whnf);repeat((first|refine zD ?_|refine zA ?_|refine zT ?_|refine zF ?_);conv=>whnf)
      refine ⟨_, _, n2, ?_⟩
      (conv=>whnf);repeat((first|refine zD ?_|refine zA ?_|refine zT ?_|refine zF ?_);conv=>whnf)
      rw [show iwrap .i64 (1 + 2) = 3 from (w64_in (by decide)).trans (by decide)]
      (conv=>whnf);repeat((first|refine zD ?_|refine zA ?_|refine zT ?_|refine zF ?_);conv=>whnf)
      first
        | (refine ⟨_, _, n3, ?_⟩
           (conv=>whnf);repeat((first|refine zD ?_|refine zA ?_|refine zT ?_|refine zF ?_);conv=>whnf)
           refine ⟨_, _, hv, ?_⟩
           (conv=>whnf);repeat((first|refine zD ?_|refine zA ?_|refine zT ?_|refine zF ?_);conv=>whnf))
        | skip
      refine ⟨_, _, n4, ?_⟩
      (conv=>whnf);repeat((first|refine zD ?_|refine zA ?_|refine zT ?_|refine zF ?_);conv=>whnf)
      rfl
    · refine ⟨(3, v2, ByteArray.empty), k4, ?_, by omega, (by first | exact l4 | exact l5), hD ByteArray.empty (by first | exact Or.inl rfl | exact Or.inr rfl)⟩
      refine funP_of_vc tabOk mixOk Tryz.func19 rfl (by rfl) (rs := [.cell 4 39]) rfl rfl rfl rfl rfl 38 ?_; rw [Tryz.ntmps19]
      (conv=>whnf);repeat((first|refine zD ?_|refine zA ?_|refine zT ?_|refine zF ?_);conv=>whnf)
      refine ⟨_, _, n1, ?_⟩
      (conv=>whnf);repeat((first|refine zD ?_|refine zA ?_|refine zT ?_|refine zF ?_);conv=>whnf)
      refine ⟨_, _, n2, ?_⟩
      (conv=>whnf);repeat((first|refine zD ?_|refine zA ?_|refine zT ?_|refine zF ?_);conv=>whnf)
      rw [show iwrap .i64 (1 + 2) = 3 from (w64_in (by decide)).trans (by decide)]
      (conv=>whnf);repeat((first|refine zD ?_|refine zA ?_|refine zT ?_|refine zF ?_);conv=>whnf)
      first
        | (refine ⟨_, _, n3, ?_⟩
           (conv=>whnf);repeat((first|refine zD ?_|refine zA ?_|refine zT ?_|refine zF ?_);conv=>whnf)
           refine ⟨_, _, hv, ?_⟩
           (conv=>whnf);repeat((first|refine zD ?_|refine zA ?_|refine zT ?_|refine zF ?_);conv=>whnf))
        | skip
      refine ⟨_, _, n4, ?_⟩
      (conv=>whnf);repeat((first|refine zD ?_|refine zA ?_|refine zT ?_|refine zF ?_);conv=>whnf)
      refine And.intro (fun h => absurd (by simpa using h) h18) (fun _ => ?_)
      (conv=>whnf);repeat((first|refine zD ?_|refine zA ?_|refine zT ?_|refine zF ?_);conv=>whnf)
      refine And.intro (fun h => absurd (by simpa using h) h19) (fun _ => ?_)
      (conv=>whnf);repeat((first|refine zD ?_|refine zA ?_|refine zT ?_|refine zF ?_);conv=>whnf)
      rfl
  · by_cases h18 : v4 = 18
    · subst h18
      refine ⟨(4, b, ByteArray.empty), k4, ?_, by omega, (by first | exact l4 | exact l5), hD ByteArray.empty (by first | exact Or.inl rfl | exact Or.inr rfl)⟩
      refine funP_of_vc tabOk mixOk Tryz.func19 rfl (by rfl) (rs := [.cell 4 39]) rfl rfl rfl rfl rfl 38 ?_; rw [Tryz.ntmps19]
      (conv=>whnf);repeat((first|refine zD ?_|refine zA ?_|refine zT ?_|refine zF ?_);conv=>whnf)
      refine ⟨_, _, n1, ?_⟩
      (conv=>whnf);repeat((first|refine zD ?_|refine zA ?_|refine zT ?_|refine zF ?_);conv=>whnf)
      refine ⟨_, _, n2, ?_⟩
      (conv=>whnf);repeat((first|refine zD ?_|refine zA ?_|refine zT ?_|refine zF ?_);conv=>whnf)
      rw [show iwrap .i64 (1 + 3) = 4 from (w64_in (by decide)).trans (by decide)]
      (conv=>whnf);repeat((first|refine zD ?_|refine zA ?_|refine zT ?_|refine zF ?_);conv=>whnf)
      first
        | (refine ⟨_, _, n3, ?_⟩
           (conv=>whnf);repeat((first|refine zD ?_|refine zA ?_|refine zT ?_|refine zF ?_);conv=>whnf)
           refine ⟨_, _, hv, ?_⟩
           (conv=>whnf);repeat((first|refine zD ?_|refine zA ?_|refine zT ?_|refine zF ?_);conv=>whnf))
        | skip
      refine ⟨_, _, n4, ?_⟩
      (conv=>whnf);repeat((first|refine zD ?_|refine zA ?_|refine zT ?_|refine zF ?_);conv=>whnf)
      rfl
    by_cases h19 : v4 = 19
    · subst h19
      refine ⟨(4, 0, ⟨#[97, 98, 99]⟩), k4, ?_, by omega, (by first | exact l4 | exact l5), Nat.le_of_ble_eq_true rfl⟩
      refine funP_of_vc tabOk mixOk Tryz.func19 rfl (by rfl) (rs := [.cell 4 39]) rfl rfl rfl rfl rfl 38 ?_; rw [Tryz.ntmps19]
      (conv=>whnf);repeat((first|refine zD ?_|refine zA ?_|refine zT ?_|refine zF ?_);conv=>whnf)
      refine ⟨_, _, n1, ?_⟩
      (conv=>whnf);repeat((first|refine zD ?_|refine zA ?_|refine zT ?_|refine zF ?_);conv=>whnf)
      refine ⟨_, _, n2, ?_⟩
      (conv=>whnf);repeat((first|refine zD ?_|refine zA ?_|refine zT ?_|refine zF ?_);conv=>whnf)
      rw [show iwrap .i64 (1 + 3) = 4 from (w64_in (by decide)).trans (by decide)]
      (conv=>whnf);repeat((first|refine zD ?_|refine zA ?_|refine zT ?_|refine zF ?_);conv=>whnf)
      first
        | (refine ⟨_, _, n3, ?_⟩
           (conv=>whnf);repeat((first|refine zD ?_|refine zA ?_|refine zT ?_|refine zF ?_);conv=>whnf)
           refine ⟨_, _, hv, ?_⟩
           (conv=>whnf);repeat((first|refine zD ?_|refine zA ?_|refine zT ?_|refine zF ?_);conv=>whnf))
        | skip
      refine ⟨_, _, n4, ?_⟩
      (conv=>whnf);repeat((first|refine zD ?_|refine zA ?_|refine zT ?_|refine zF ?_);conv=>whnf)
      rfl
    · refine ⟨(4, 0, ByteArray.empty), k4, ?_, by omega, (by first | exact l4 | exact l5), hD ByteArray.empty (by first | exact Or.inl rfl | exact Or.inr rfl)⟩
      refine funP_of_vc tabOk mixOk Tryz.func19 rfl (by rfl) (rs := [.cell 4 39]) rfl rfl rfl rfl rfl 38 ?_; rw [Tryz.ntmps19]
      (conv=>whnf);repeat((first|refine zD ?_|refine zA ?_|refine zT ?_|refine zF ?_);conv=>whnf)
      refine ⟨_, _, n1, ?_⟩
      (conv=>whnf);repeat((first|refine zD ?_|refine zA ?_|refine zT ?_|refine zF ?_);conv=>whnf)
      refine ⟨_, _, n2, ?_⟩
      (conv=>whnf);repeat((first|refine zD ?_|refine zA ?_|refine zT ?_|refine zF ?_);conv=>whnf)
      rw [show iwrap .i64 (1 + 3) = 4 from (w64_in (by decide)).trans (by decide)]
      (conv=>whnf);repeat((first|refine zD ?_|refine zA ?_|refine zT ?_|refine zF ?_);conv=>whnf)
      first
        | (refine ⟨_, _, n3, ?_⟩
           (conv=>whnf);repeat((first|refine zD ?_|refine zA ?_|refine zT ?_|refine zF ?_);conv=>whnf)
           refine ⟨_, _, hv, ?_⟩
           (conv=>whnf);repeat((first|refine zD ?_|refine zA ?_|refine zT ?_|refine zF ?_);conv=>whnf))
        | skip
      refine ⟨_, _, n4, ?_⟩
      (conv=>whnf);repeat((first|refine zD ?_|refine zA ?_|refine zT ?_|refine zF ?_);conv=>whnf)
      refine And.intro (fun h => absurd (by simpa using h) h18) (fun _ => ?_)
      (conv=>whnf);repeat((first|refine zD ?_|refine zA ?_|refine zT ?_|refine zF ?_);conv=>whnf)
      refine And.intro (fun h => absurd (by simpa using h) h19) (fun _ => ?_)
      (conv=>whnf);repeat((first|refine zD ?_|refine zA ?_|refine zT ?_|refine zF ?_);conv=>whnf)
      rfl
end Go.Proofs.YtikchieadclbhaaGreatDoor.Ab
