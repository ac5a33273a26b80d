/- The line of a configuration. No condition. -/
import Derived.Test.YtikchieadclbhaaGreatDoorZ38
import Derived.Test.YtikchieadclbhaaGreatDoorZ39
namespace Go.Proofs.YtikchieadclbhaaGreatDoor.Ab
set_option linter.unusedVariables false
set_option linter.unusedSimpArgs false
open Go.RowKit

theorem cfChk_bad {c : Cf} (h : ¬ ((3 ≤ c.s ∧ c.s ≤ 64) ∧ (1 ≤ c.z ∧ c.z ≤ 32) ∧ (1 ≤ c.b ∧ c.b ≤ 128) ∧ (1 ≤ c.q ∧ c.q ≤ 4) ∧ (1 ≤ c.d ∧ c.d ≤ 8) ∧ (1 ≤ c.h ∧ c.h ≤ 8))) : cfChk c = 1 := by unfold cfChk; rw [if_neg (fun hh => h (cfOk_iff.1 hh))]
set_option maxRecDepth 100000 in
set_option maxHeartbeats 16000000 in
theorem cfChkF (c : Cf) : Fun Tryz.prog 20 [cfV c] [] (.v (i64V (cfChk c))) := by
  have hbad := @cfChk_bad c
  have hgood : cfOk c = true → cfChk c = if lyData c < 6 ∨ lyCap c < 1 then 11 else 0 := fun h => by unfold cfChk; rw [if_pos h]
  have hok := @cfOk_iff c
  have sh := shapeF c
  unfold lyV at sh
  generalize lySlot c = x1 at sh
  generalize lyFirst c = x2 at sh
  generalize lyData c = x3 at sh hgood
  generalize lyCap c = x4 at sh hgood
  generalize cfChk c = R at hbad hgood ⊢
  generalize cfOk c = B at hgood hok
  obtain ⟨z, s, b, q, d, h⟩ := c
  dsimp only at hbad hok sh
  refine fun_of_vc tabOk mixOk Tryz.func20 rfl (by rfl) (rs := [.tmp 2]) rfl rfl 59 ?_; rw [Tryz.ntmps20]
  (conv=>whnf);repeat((first|refine zD ?_|refine zA ?_|refine zT ?_|refine zF ?_);conv=>whnf)
  refine vc_loop [1, 3] [1, 3] (X := Nat) (fun k gs => [(26, ATint k)]) (fun _ _ => []) (fun k => k ≤ 6 ∧ (1 ≤ k → 3 ≤ s ∧ s ≤ 64) ∧ (2 ≤ k → 1 ≤ z ∧ z ≤ 32) ∧ (3 ≤ k → 1 ≤ b ∧ b ≤ 128) ∧ (4 ≤ k → 1 ≤ q ∧ q ≤ 4) ∧ (5 ≤ k → 1 ≤ d ∧ d ≤ 8) ∧ (6 ≤ k → 1 ≤ h ∧ h ≤ 8)) (fun k => 6 - k) _ (Ghost.refl _) 0 ⟨by omega, by omega, by omega, by omega, by omega, by omega, by omega⟩ ?_ ?_
  · (refine zA (zA ?_));(repeat' (first|exact trivial|exact rfl|apply And.intro|(refine congrArg (Value.int .i64) (w64_nat ?_);omega)))
  rintro gs k ⟨hk, h1, h2, h3, h4, h5, h6⟩
  have hk' : k = 0 ∨ k = 1 ∨ k = 2 ∨ k = 3 ∨ k = 4 ∨ k = 5 ∨ k = 6 := by omega
  rcases hk' with rfl | rfl | rfl | rfl | rfl | rfl | rfl
  rotate_right
  · have hB : B = true := hok.2 ⟨h1 (by omega), h2 (by omega), h3 (by omega), h4 (by omega), h5 (by omega), h6 (by omega)⟩
    have hR := hgood hB
    have sh' := sh (by have := (h1 (by omega)).1; omega)
    (conv=>whnf);repeat((first|refine zD ?_|refine zA ?_|refine zT ?_|refine zF ?_);conv=>whnf)
    repeat' (first | ((refine And.intro (fun h => ?_) (fun h => ?_)) <;> (try simp at h) <;> ((conv=>whnf);repeat((first|refine zD ?_|refine zA ?_|refine zT ?_|refine zF ?_);conv=>whnf))) | (refine ⟨_, _, sh', ?_⟩; ((conv=>whnf);repeat((first|refine zD ?_|refine zA ?_|refine zT ?_|refine zF ?_);conv=>whnf))) | fail)
    all_goals
      refine Exists.intro [] (And.intro List.nodup_nil ?_); ((conv=>whnf);repeat((first|refine zD ?_|refine zA ?_|refine zT ?_|refine zF ?_);conv=>whnf))
      first
        | (rw [hR, if_pos (by omega)]; rfl)
        | (rw [hR, if_neg (by omega)]; rfl)
  · (conv=>whnf);repeat((first|refine zD ?_|refine zA ?_|refine zT ?_|refine zF ?_);conv=>whnf)
    repeat' (first | ((refine And.intro (fun h => ?_) (fun h => ?_)) <;> (try simp at h) <;> ((conv=>whnf);repeat((first|refine zD ?_|refine zA ?_|refine zT ?_|refine zF ?_);conv=>whnf))) | (refine ⟨by show (0 : Int) ≤ 0; decide, by show (0 : Int).toNat < 6; decide, ?_⟩; ((conv=>whnf);repeat((first|refine zD ?_|refine zA ?_|refine zT ?_|refine zF ?_);conv=>whnf))) | (refine ⟨by show (0 : Int) ≤ 0; decide, by show (0 : Int).toNat < 3; decide, ?_⟩; ((conv=>whnf);repeat((first|refine zD ?_|refine zA ?_|refine zT ?_|refine zF ?_);conv=>whnf))) | (refine ⟨by show (0 : Int) ≤ 1; decide, by show (1 : Int).toNat < 3; decide, ?_⟩; ((conv=>whnf);repeat((first|refine zD ?_|refine zA ?_|refine zT ?_|refine zF ?_);conv=>whnf))) | (refine ⟨by show (0 : Int) ≤ 2; decide, by show (2 : Int).toNat < 3; decide, ?_⟩; ((conv=>whnf);repeat((first|refine zD ?_|refine zA ?_|refine zT ?_|refine zF ?_);conv=>whnf))) | fail)
    all_goals first
      | (refine again (0 + 1) ⟨by omega, by omega, by omega, by omega, by omega, by omega, by omega⟩ (by omega) ?_
         (refine zA (zA ?_));(repeat' (first|exact trivial|exact rfl|apply And.intro|(refine congrArg (Value.int .i64) (w64_nat ?_);omega))))
      | (refine Exists.intro [] (And.intro List.nodup_nil ?_); ((conv=>whnf);repeat((first|refine zD ?_|refine zA ?_|refine zT ?_|refine zF ?_);conv=>whnf))
         rw [hbad (by omega)]
         rfl)
  · (conv=>whnf);repeat((first|refine zD ?_|refine zA ?_|refine zT ?_|refine zF ?_);conv=>whnf)
    repeat' (first | ((refine And.intro (fun h => ?_) (fun h => ?_)) <;> (try simp at h) <;> ((conv=>whnf);repeat((first|refine zD ?_|refine zA ?_|refine zT ?_|refine zF ?_);conv=>whnf))) | (refine ⟨by show (0 : Int) ≤ 1; decide, by show (1 : Int).toNat < 6; decide, ?_⟩; ((conv=>whnf);repeat((first|refine zD ?_|refine zA ?_|refine zT ?_|refine zF ?_);conv=>whnf))) | (refine ⟨by show (0 : Int) ≤ 0; decide, by show (0 : Int).toNat < 3; decide, ?_⟩; ((conv=>whnf);repeat((first|refine zD ?_|refine zA ?_|refine zT ?_|refine zF ?_);conv=>whnf))) | (refine ⟨by show (0 : Int) ≤ 1; decide, by show (1 : Int).toNat < 3; decide, ?_⟩; ((conv=>whnf);repeat((first|refine zD ?_|refine zA ?_|refine zT ?_|refine zF ?_);conv=>whnf))) | (refine ⟨by show (0 : Int) ≤ 2; decide, by show (2 : Int).toNat < 3; decide, ?_⟩; ((conv=>whnf);repeat((first|refine zD ?_|refine zA ?_|refine zT ?_|refine zF ?_);conv=>whnf))) | fail)
    all_goals first
      | (refine again (1 + 1) ⟨by omega, by omega, by omega, by omega, by omega, by omega, by omega⟩ (by omega) ?_
         (refine zA (zA ?_));(repeat' (first|exact trivial|exact rfl|apply And.intro|(refine congrArg (Value.int .i64) (w64_nat ?_);omega))))
      | (refine Exists.intro [] (And.intro List.nodup_nil ?_); ((conv=>whnf);repeat((first|refine zD ?_|refine zA ?_|refine zT ?_|refine zF ?_);conv=>whnf))
         rw [hbad (by omega)]
         rfl)
  · (conv=>whnf);repeat((first|refine zD ?_|refine zA ?_|refine zT ?_|refine zF ?_);conv=>whnf)
    repeat' (first | ((refine And.intro (fun h => ?_) (fun h => ?_)) <;> (try simp at h) <;> ((conv=>whnf);repeat((first|refine zD ?_|refine zA ?_|refine zT ?_|refine zF ?_);conv=>whnf))) | (refine ⟨by show (0 : Int) ≤ 2; decide, by show (2 : Int).toNat < 6; decide, ?_⟩; ((conv=>whnf);repeat((first|refine zD ?_|refine zA ?_|refine zT ?_|refine zF ?_);conv=>whnf))) | (refine ⟨by show (0 : Int) ≤ 0; decide, by show (0 : Int).toNat < 3; decide, ?_⟩; ((conv=>whnf);repeat((first|refine zD ?_|refine zA ?_|refine zT ?_|refine zF ?_);conv=>whnf))) | (refine ⟨by show (0 : Int) ≤ 1; decide, by show (1 : Int).toNat < 3; decide, ?_⟩; ((conv=>whnf);repeat((first|refine zD ?_|refine zA ?_|refine zT ?_|refine zF ?_);conv=>whnf))) | (refine ⟨by show (0 : Int) ≤ 2; decide, by show (2 : Int).toNat < 3; decide, ?_⟩; ((conv=>whnf);repeat((first|refine zD ?_|refine zA ?_|refine zT ?_|refine zF ?_);conv=>whnf))) | fail)
    all_goals first
      | (refine again (2 + 1) ⟨by omega, by omega, by omega, by omega, by omega, by omega, by omega⟩ (by omega) ?_
         (refine zA (zA ?_));(repeat' (first|exact trivial|exact rfl|apply And.intro|(refine congrArg (Value.int .i64) (w64_nat ?_);omega))))
      | (refine Exists.intro [] (And.intro List.nodup_nil ?_); ((conv=>whnf);repeat((first|refine zD ?_|refine zA ?_|refine zT ?_|refine zF ?_);conv=>whnf))
         rw [hbad (by omega)]
         rfl)
  · (conv=>whnf);repeat((first|refine zD ?_|refine zA ?_|refine zT ?_|refine zF ?_);conv=>whnf)
    repeat' (first | ((refine And.intro (fun h => ?_) (fun h => ?_)) <;> (try simp at h) <;> ((conv=>whnf);repeat((first|refine zD ?_|refine zA ?_|refine zT ?_|refine zF ?_);conv=>whnf))) | (refine ⟨by show (0 : Int) ≤ 3; decide, by show (3 : Int).toNat < 6; decide, ?_⟩; ((conv=>whnf);repeat((first|refine zD ?_|refine zA ?_|refine zT ?_|refine zF ?_);conv=>whnf))) | (refine ⟨by show (0 : Int) ≤ 0; decide, by show (0 : Int).toNat < 3; decide, ?_⟩; ((conv=>whnf);repeat((first|refine zD ?_|refine zA ?_|refine zT ?_|refine zF ?_);conv=>whnf))) | (refine ⟨by show (0 : Int) ≤ 1; decide, by show (1 : Int).toNat < 3; decide, ?_⟩; ((conv=>whnf);repeat((first|refine zD ?_|refine zA ?_|refine zT ?_|refine zF ?_);conv=>whnf))) | (refine ⟨by show (0 : Int) ≤ 2; decide, by show (2 : Int).toNat < 3; decide, ?_⟩; ((conv=>whnf);repeat((first|refine zD ?_|refine zA ?_|refine zT ?_|refine zF ?_);conv=>whnf))) | fail)
    all_goals first
      | (refine again (3 + 1) ⟨by omega, by omega, by omega, by omega, by omega, by omega, by omega⟩ (by omega) ?_
         (refine zA (zA ?_));(repeat' (first|exact trivial|exact rfl|apply And.intro|(refine congrArg (Value.int .i64) (w64_nat ?_);omega))))
      | (refine Exists.intro [] (And.intro List.nodup_nil ?_); ((conv=>whnf);repeat((first|refine zD ?_|refine zA ?_|refine zT ?_|refine zF ?_);conv=>whnf))
         rw [hbad (by omega)]
         rfl)
  · (conv=>whnf);repeat((first|refine zD ?_|refine zA ?_|refine zT ?_|refine zF ?_);conv=>whnf)
    repeat' (first | ((refine And.intro (fun h => ?_) (fun h => ?_)) <;> (try simp at h) <;> ((conv=>whnf);repeat((first|refine zD ?_|refine zA ?_|refine zT ?_|refine zF ?_);conv=>whnf))) | (refine ⟨by show (0 : Int) ≤ 4; decide, by show (4 : Int).toNat < 6; decide, ?_⟩; ((conv=>whnf);repeat((first|refine zD ?_|refine zA ?_|refine zT ?_|refine zF ?_);conv=>whnf))) | (refine ⟨by show (0 : Int) ≤ 0; decide, by show (0 : Int).toNat < 3; decide, ?_⟩; ((conv=>whnf);repeat((first|refine zD ?_|refine zA ?_|refine zT ?_|refine zF ?_);conv=>whnf))) | (refine ⟨by show (0 : Int) ≤ 1; decide, by show (1 : Int).toNat < 3; decide, ?_⟩; ((conv=>whnf);repeat((first|refine zD ?_|refine zA ?_|refine zT ?_|refine zF ?_);conv=>whnf))) | (refine ⟨by show (0 : Int) ≤ 2; decide, by show (2 : Int).toNat < 3; decide, ?_⟩; ((conv=>whnf);repeat((first|refine zD ?_|refine zA ?_|refine zT ?_|refine zF ?_);conv=>whnf))) | fail)
    all_goals first
      | (refine again (4 + 1) ⟨by omega, by omega, by omega, by omega, by omega, by omega, by omega⟩ (by omega) ?_
         (refine zA (zA ?_));(repeat' (first|exact trivial|exact rfl|apply And.intro|(refine congrArg (Value.int .i64) (w64_nat ?_);omega))))
      | (refine Exists.intro [] (And.intro List.nodup_nil ?_); ((conv=>whnf);repeat((first|refine zD ?_|refine zA ?_|refine zT ?_|refine zF ?_);conv=>whnf))
         rw [hbad (by omega)]
         rfl)
  · (conv=>whnf);repeat((first|refine zD ?_|refine zA ?_|refine zT ?_|refine zF ?_);conv=>whnf)
    repeat' (first | ((refine And.intro (fun h => ?_) (fun h => ?_)) <;> (try simp at h) <;> ((conv=>whnf);repeat((first|refine zD ?_|refine zA ?_|refine zT ?_|refine zF ?_);conv=>whnf))) | (refine ⟨by show (0 : Int) ≤ 5; decide, by show (5 : Int).toNat < 6; decide, ?_⟩; ((conv=>whnf);repeat((first|refine zD ?_|refine zA ?_|refine zT ?_|refine zF ?_);conv=>whnf))) | (refine ⟨by show (0 : Int) ≤ 0; decide, by show (0 : Int).toNat < 3; decide, ?_⟩; ((conv=>whnf);repeat((first|refine zD ?_|refine zA ?_|refine zT ?_|refine zF ?_);conv=>whnf))) | (refine ⟨by show (0 : Int) ≤ 1; decide, by show (1 : Int).toNat < 3; decide, ?_⟩; ((conv=>whnf);repeat((first|refine zD ?_|refine zA ?_|refine zT ?_|refine zF ?_);conv=>whnf))) | (refine ⟨by show (0 : Int) ≤ 2; decide, by show (2 : Int).toNat < 3; decide, ?_⟩; ((conv=>whnf);repeat((first|refine zD ?_|refine zA ?_|refine zT ?_|refine zF ?_);conv=>whnf))) | fail)
    all_goals first
      | (refine again (5 + 1) ⟨by omega, by omega, by omega, by omega, by omega, by omega, by omega⟩ (by omega) ?_
         (refine zA (zA ?_));(repeat' (first|exact trivial|exact rfl|apply And.intro|(refine congrArg (Value.int .i64) (w64_nat ?_);omega))))
      | (refine Exists.intro [] (And.intro List.nodup_nil ?_); ((conv=>whnf);repeat((first|refine zD ?_|refine zA ?_|refine zT ?_|refine zF ?_);conv=>whnf))
         rw [hbad (by omega)]
         rfl)
end Go.Proofs.YtikchieadclbhaaGreatDoor.Ab
namespace Go.Proofs.YtikchieadclbhaaGreatDoor.Ab
set_option linter.unusedVariables false
set_option linter.unusedSimpArgs false
open Go.RowKit

def in64 (n : Int) : Prop := -9223372036854775808 ≤ n ∧ n ≤ 9223372036854775807
theorem itoa_size {n : Int} (h : in64 n) : (itoS n).size ≤ 20 := by
  show (Lib.itoa n).length ≤ 20
  unfold in64 at h
  unfold Lib.itoa
  split
  · have hd := dec_len 18 (-n).toNat (by omega)
    have e : n.natAbs = (-n).toNat := by omega
    rw [List.length_cons]
    first
      | omega
      | (rw [e]; omega)
  · have hd := dec_len 18 n.toNat (by omega)
    omega
theorem itoSF64 {n : Int} (h : in64 n) : Fun Tryz.prog 34 [i64V n] [] (.v (strV (itoS n))) := itoaF n h.1 h.2
theorem num64 (w : List UInt8) : in64 (num w) := by
  unfold num
  split
  · rename_i v h
    exact Lib.atoiAll_bounds h
  · exact ⟨by decide, by decide⟩
theorem fit64 {n : Int} (h : fit n = true) : in64 n := by
  have := fit_iff.1 h
  exact ⟨by omega, by omega⟩
def bConf : ByteArray := ⟨#[99, 111, 110, 102, 105, 103]⟩
def cfB (c : Cf) : List ByteArray := bConf :: (cfL c).map itoS
theorem cfB_W (c : Cf) : (cfB c).map (·.data.toList) = cfW c := rfl
theorem confJ (c : Cf) (h : ∀ n ∈ cfL c, in64 n) : Fun Tryz.prog 38 [slV (sV (cfB c)), strV ⟨#[32]⟩] [] (.v (strV (sS (cLine c)))) := by
  have := joinF 32 (cfB c) 20 (by decide) (by simp [cfB, cfL]) (fun x hx => by
    rcases List.mem_cons.1 hx with rfl | hx
    · decide
    · obtain ⟨n, hn, rfl⟩ := List.mem_map.1 hx
      exact itoa_size (h n hn))
  rw [cfB_W] at this
  exact this
set_option maxRecDepth 100000 in
set_option maxHeartbeats 16000000 in
theorem confF (c : Cf) (h : ∀ n ∈ cfL c, in64 n) : Fun Tryz.prog 21 [cfV c] [] (.v (strV (sS (cLine c)))) := by
  have hj := confJ c h
  obtain ⟨n0, n1, n2, n3, n4, n5⟩ := c
  have h0 := itoSF64 (h n0 (by simp [cfL]))
  have h1 := itoSF64 (h n1 (by simp [cfL]))
  have h2 := itoSF64 (h n2 (by simp [cfL]))
  have h3 := itoSF64 (h n3 (by simp [cfL]))
  have h4 := itoSF64 (h n4 (by simp [cfL]))
  have h5 := itoSF64 (h n5 (by simp [cfL]))
  unfold cfB cfL at hj
  simp only [List.map_cons, List.map_nil] at hj
  generalize sS (cLine ⟨n0, n1, n2, n3, n4, n5⟩) = R at hj ⊢
  clear h
  generalize itoS n0 = d0 at h0 hj
  generalize itoS n1 = d1 at h1 hj
  generalize itoS n2 = d2 at h2 hj
  generalize itoS n3 = d3 at h3 hj
  generalize itoS n4 = d4 at h4 hj
  generalize itoS n5 = d5 at h5 hj
  refine fun_of_vc tabOk mixOk Tryz.func21 rfl (by rfl) (rs := [.tmp 2]) rfl rfl 35 ?_; rw [Tryz.ntmps21]
  (conv=>whnf);repeat((first|refine zD ?_|refine zA ?_|refine zT ?_|refine zF ?_);conv=>whnf)
  refine vc_loop [19] [] (X := Nat) (fun i gs => [(20, ATint i), (3, .v (.c (.own 6 (gs 6))))]) (fun i gs => [(6, .row (gs 6) 9 1 (sV ([bConf, d0, d1, d2, d3, d4, d5].take (i + 1))))]) (fun i => i ≤ 6) (fun i => 6 - i) _ (Ghost.refl _) 0 (by decide) ?_ ?_
  · (refine zA (zA ?_));(repeat' (first|exact trivial|with_reducible exact cvB_refl _|exact rfl|apply And.intro))
  intro gs i hi
  have hi : i ≤ 6 := hi
  have hc : i = 0 ∨ i = 1 ∨ i = 2 ∨ i = 3 ∨ i = 4 ∨ i = 5 ∨ i = 6 := by omega
  rcases hc with rfl | rfl | rfl | rfl | rfl | rfl | rfl
  · (conv=>whnf);repeat((first|refine zD ?_|refine zA ?_|refine zT ?_|refine zF ?_);conv=>whnf)
    refine ⟨by show (0 : Int) ≤ 0; decide, by show (0 : Int).toNat < 6; decide, ?_⟩
    (conv=>whnf);repeat((first|refine zD ?_|refine zA ?_|refine zT ?_|refine zF ?_);conv=>whnf)
    refine ⟨_, _, h0, ?_⟩
    (conv=>whnf);repeat((first|refine zD ?_|refine zA ?_|refine zT ?_|refine zF ?_);conv=>whnf)
    refine ⟨sSz [d0], ?_⟩
    (conv=>whnf);repeat((first|refine zD ?_|refine zA ?_|refine zT ?_|refine zF ?_);conv=>whnf)
    refine ⟨bytes_le (by decide) (Nat.le_of_ble_eq_true rfl), ?_⟩
    (conv=>whnf);repeat((first|refine zD ?_|refine zA ?_|refine zT ?_|refine zF ?_);conv=>whnf)
    refine again 1 (by decide) (by decide) ?_
    (refine zA (zA ?_));(repeat' (first|exact trivial|with_reducible exact cvB_refl _|exact rfl|apply And.intro))
    all_goals first
      | exact congrArg (Value.int .i64) (w64_nat (k := 0) (by decide))
      | exact congrArg (Blk.row _ _ _) rfl
  · (conv=>whnf);repeat((first|refine zD ?_|refine zA ?_|refine zT ?_|refine zF ?_);conv=>whnf)
    refine ⟨by show (0 : Int) ≤ 1; decide, by show (1 : Int).toNat < 6; decide, ?_⟩
    (conv=>whnf);repeat((first|refine zD ?_|refine zA ?_|refine zT ?_|refine zF ?_);conv=>whnf)
    refine ⟨_, _, h1, ?_⟩
    (conv=>whnf);repeat((first|refine zD ?_|refine zA ?_|refine zT ?_|refine zF ?_);conv=>whnf)
    refine ⟨sSz [d1], ?_⟩
    (conv=>whnf);repeat((first|refine zD ?_|refine zA ?_|refine zT ?_|refine zF ?_);conv=>whnf)
    refine ⟨bytes_le (by decide) (Nat.le_of_ble_eq_true rfl), ?_⟩
    (conv=>whnf);repeat((first|refine zD ?_|refine zA ?_|refine zT ?_|refine zF ?_);conv=>whnf)
    refine again 2 (by decide) (by decide) ?_
    (refine zA (zA ?_));(repeat' (first|exact trivial|with_reducible exact cvB_refl _|exact rfl|apply And.intro))
    all_goals first
      | exact congrArg (Value.int .i64) (w64_nat (k := 1) (by decide))
      | exact congrArg (Blk.row _ _ _) rfl
  · (conv=>whnf);repeat((first|refine zD ?_|refine zA ?_|refine zT ?_|refine zF ?_);conv=>whnf)
    refine ⟨by show (0 : Int) ≤ 2; decide, by show (2 : Int).toNat < 6; decide, ?_⟩
    (conv=>whnf);repeat((first|refine zD ?_|refine zA ?_|refine zT ?_|refine zF ?_);conv=>whnf)
    refine ⟨_, _, h2, ?_⟩
    (conv=>whnf);repeat((first|refine zD ?_|refine zA ?_|refine zT ?_|refine zF ?_);conv=>whnf)
    refine ⟨sSz [d2], ?_⟩
    (conv=>whnf);repeat((first|refine zD ?_|refine zA ?_|refine zT ?_|refine zF ?_);conv=>whnf)
    refine ⟨bytes_le (by decide) (Nat.le_of_ble_eq_true rfl), ?_⟩
    (conv=>whnf);repeat((first|refine zD ?_|refine zA ?_|refine zT ?_|refine zF ?_);conv=>whnf)
    refine again 3 (by decide) (by decide) ?_
    (refine zA (zA ?_));(repeat' (first|exact trivial|with_reducible exact cvB_refl _|exact rfl|apply And.intro))
    all_goals first
      | exact congrArg (Value.int .i64) (w64_nat (k := 2) (by decide))
      | exact congrArg (Blk.row _ _ _) rfl
  · (conv=>whnf);repeat((first|refine zD ?_|refine zA ?_|refine zT ?_|refine zF ?_);conv=>whnf)
    refine ⟨by show (0 : Int) ≤ 3; decide, by show (3 : Int).toNat < 6; decide, ?_⟩
    (conv=>whnf);repeat((first|refine zD ?_|refine zA ?_|refine zT ?_|refine zF ?_);conv=>whnf)
    refine ⟨_, _, h3, ?_⟩
    (conv=>whnf);repeat((first|refine zD ?_|refine zA ?_|refine zT ?_|refine zF ?_);conv=>whnf)
    refine ⟨sSz [d3], ?_⟩
    (conv=>whnf);repeat((first|refine zD ?_|refine zA ?_|refine zT ?_|refine zF ?_);conv=>whnf)
    refine ⟨bytes_le (by decide) (Nat.le_of_ble_eq_true rfl), ?_⟩
    (conv=>whnf);repeat((first|refine zD ?_|refine zA ?_|refine zT ?_|refine zF ?_);conv=>whnf)
    refine again 4 (by decide) (by decide) ?_
    (refine zA (zA ?_));(repeat' (first|exact trivial|with_reducible exact cvB_refl _|exact rfl|apply And.intro))
    all_goals first
      | exact congrArg (Value.int .i64) (w64_nat (k := 3) (by decide))
      | exact congrArg (Blk.row _ _ _) rfl
  · (conv=>whnf);repeat((first|refine zD ?_|refine zA ?_|refine zT ?_|refine zF ?_);conv=>whnf)
    refine ⟨by show (0 : Int) ≤ 4; decide, by show (4 : Int).toNat < 6; decide, ?_⟩
    (conv=>whnf);repeat((first|refine zD ?_|refine zA ?_|refine zT ?_|refine zF ?_);conv=>whnf)
    refine ⟨_, _, h4, ?_⟩
    (conv=>whnf);repeat((first|refine zD ?_|refine zA ?_|refine zT ?_|refine zF ?_);conv=>whnf)
    refine ⟨sSz [d4], ?_⟩
    (conv=>whnf);repeat((first|refine zD ?_|refine zA ?_|refine zT ?_|refine zF ?_);conv=>whnf)
    refine ⟨bytes_le (by decide) (Nat.le_of_ble_eq_true rfl), ?_⟩
    (conv=>whnf);repeat((first|refine zD ?_|refine zA ?_|refine zT ?_|refine zF ?_);conv=>whnf)
    refine again 5 (by decide) (by decide) ?_
    (refine zA (zA ?_));(repeat' (first|exact trivial|with_reducible exact cvB_refl _|exact rfl|apply And.intro))
    all_goals first
      | exact congrArg (Value.int .i64) (w64_nat (k := 4) (by decide))
      | exact congrArg (Blk.row _ _ _) rfl
  · (conv=>whnf);repeat((first|refine zD ?_|refine zA ?_|refine zT ?_|refine zF ?_);conv=>whnf)
    refine ⟨by show (0 : Int) ≤ 5; decide, by show (5 : Int).toNat < 6; decide, ?_⟩
    (conv=>whnf);repeat((first|refine zD ?_|refine zA ?_|refine zT ?_|refine zF ?_);conv=>whnf)
    refine ⟨_, _, h5, ?_⟩
    (conv=>whnf);repeat((first|refine zD ?_|refine zA ?_|refine zT ?_|refine zF ?_);conv=>whnf)
    refine ⟨sSz [d5], ?_⟩
    (conv=>whnf);repeat((first|refine zD ?_|refine zA ?_|refine zT ?_|refine zF ?_);conv=>whnf)
    refine ⟨bytes_le (by decide) (Nat.le_of_ble_eq_true rfl), ?_⟩
    (conv=>whnf);repeat((first|refine zD ?_|refine zA ?_|refine zT ?_|refine zF ?_);conv=>whnf)
    refine again 6 (by decide) (by decide) ?_
    (refine zA (zA ?_));(repeat' (first|exact trivial|with_reducible exact cvB_refl _|exact rfl|apply And.intro))
    all_goals first
      | exact congrArg (Value.int .i64) (w64_nat (k := 5) (by decide))
      | exact congrArg (Blk.row _ _ _) rfl
  · (conv=>whnf);repeat((first|refine zD ?_|refine zA ?_|refine zT ?_|refine zF ?_);conv=>whnf)
    refine ⟨_, _, hj, ?_⟩
    (conv=>whnf);repeat((first|refine zD ?_|refine zA ?_|refine zT ?_|refine zF ?_);conv=>whnf)
    refine Exists.intro [] (And.intro List.nodup_nil ?_); ((conv=>whnf);repeat((first|refine zD ?_|refine zA ?_|refine zT ?_|refine zF ?_);conv=>whnf))
    rfl
end Go.Proofs.YtikchieadclbhaaGreatDoor.Ab
