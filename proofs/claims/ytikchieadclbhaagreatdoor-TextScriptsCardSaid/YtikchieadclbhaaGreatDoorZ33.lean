/- The document's line. No condition. -/
import Derived.Test.YtikchieadclbhaaGreatDoorZ32
namespace Go.Proofs.YtikchieadclbhaaGreatDoor.Ab
set_option linter.unusedVariables false
set_option linter.unusedSimpArgs false
open Go.RowKit

def fineB (n cb : Int) (kp : List Int) : Bool := fit n && fit cb && decide (kp.length ≤ 32) && kp.all fit
theorem tline_notfine {k n ck cb : Int} {cd : List UInt8} {kp : List Int} (h : fineB n cb kp = false) : tline ⟨k, n, ck, cb, cd, kp⟩ = [] := by
  cases hn : fit n with
  | false => exact tline_unfit hn
  | true =>
    have h2 : fit cb = false ∨ ¬ (kp.length ≤ 32 ∧ kp.all fit = true) := by
      unfold fineB at h
      rw [hn] at h
      cases hb : fit cb with
      | false => exact Or.inl rfl
      | true =>
        right
        rintro ⟨h3, h4⟩
        rw [hb, h4, decide_eq_true h3] at h
        cases h
    have hkp : ¬ (kp.length ≤ 32 ∧ kp.all fit = true) → kp ≠ [] := fun h e => h (by subst e; exact ⟨by decide, rfl⟩)
    by_cases h1 : k = 1
    · subst h1
      refine tline_wrong ?_
      rcases h2 with h2 | h2
      · exact Or.inr (decide_eq_false (fun g => by have := g.2.2.1; rw [h2] at this; cases this))
      · exact Or.inl (hkp h2)
    by_cases hc : ck = 0 ∧ cb = 0 ∧ cd = []
    · obtain ⟨rfl, rfl, rfl⟩ := hc
      have h2 := h2.resolve_left (by decide)
      by_cases h4 : k = 4
      · subst h4
        rw [tline_crash hn]
        unfold crL
        rw [if_neg h2]
        split <;> rfl
      · exact tline_keep h1 h4 (hkp h2)
    · exact tline_cmd h1 hc
set_option maxRecDepth 100000 in
set_option maxHeartbeats 16000000 in
theorem fineF (k n ck cb : Int) (s : ByteArray) (kp : List Int) : Fun Tryz.prog 41 [acB k n ck cb s kp] [] (ATbool (fineB n cb kp)) := by
  have hn := smallF n
  have hb := smallF cb
  have hk := fun x => smallF x
  unfold fineB
  cases h1 : fit n with
  | false =>
    rw [h1] at hn
    refine fun_of_vc tabOk mixOk Tryz.func41 rfl (by rfl) (rs := [.tmp 2]) rfl rfl 39 ?_; rw [Tryz.ntmps41]
    (conv=>whnf);repeat((first|refine zD ?_|refine zA ?_|refine zT ?_|refine zF ?_);conv=>whnf)
    refine ⟨_, _, hn, ?_⟩
    (conv=>whnf);repeat((first|refine zD ?_|refine zA ?_|refine zT ?_|refine zF ?_);conv=>whnf)
    refine Exists.intro [] (And.intro List.nodup_nil ?_); ((conv=>whnf);repeat((first|refine zD ?_|refine zA ?_|refine zT ?_|refine zF ?_);conv=>whnf))
    rfl
  | true =>
    rw [h1] at hn
    cases h2 : fit cb with
    | false =>
      rw [h2] at hb
      refine fun_of_vc tabOk mixOk Tryz.func41 rfl (by rfl) (rs := [.tmp 2]) rfl rfl 39 ?_; rw [Tryz.ntmps41]
      (conv=>whnf);repeat((first|refine zD ?_|refine zA ?_|refine zT ?_|refine zF ?_);conv=>whnf)
      refine ⟨_, _, hn, ?_⟩
      (conv=>whnf);repeat((first|refine zD ?_|refine zA ?_|refine zT ?_|refine zF ?_);conv=>whnf)
      refine ⟨_, _, hb, ?_⟩
      (conv=>whnf);repeat((first|refine zD ?_|refine zA ?_|refine zT ?_|refine zF ?_);conv=>whnf)
      refine Exists.intro [] (And.intro List.nodup_nil ?_); ((conv=>whnf);repeat((first|refine zD ?_|refine zA ?_|refine zT ?_|refine zF ?_);conv=>whnf))
      rfl
    | true =>
      rw [h2] at hb
      by_cases h3 : kp.length ≤ 32
      · rw [decide_eq_true h3]
        have hno : ∀ x ∈ kp, fit x = false → kp.all fit = false := fun x hx h => List.all_eq_false.2 ⟨x, hx, by rw [h]; decide⟩
        refine fun_of_vc tabOk mixOk Tryz.func41 rfl (by rfl) (rs := [.tmp 2]) rfl rfl 39 ?_; rw [Tryz.ntmps41]
        (conv=>whnf);repeat((first|refine zD ?_|refine zA ?_|refine zT ?_|refine zF ?_);conv=>whnf)
        refine ⟨_, _, hn, ?_⟩
        (conv=>whnf);repeat((first|refine zD ?_|refine zA ?_|refine zT ?_|refine zF ?_);conv=>whnf)
        refine ⟨_, _, hb, ?_⟩
        (conv=>whnf);repeat((first|refine zD ?_|refine zA ?_|refine zT ?_|refine zF ?_);conv=>whnf)
        refine And.intro (fun h => ?_) (fun h => ?_)
        · exfalso
          have := of_decide_eq_true h
          simp [wV] at this
          omega
        clear h
        (conv=>whnf);repeat((first|refine zD ?_|refine zA ?_|refine zT ?_|refine zF ?_);conv=>whnf)
        refine vc_loop [1] [1] (X := Nat) (fun i gs => [(3, ATint i)]) (fun i gs => []) (fun i => i ≤ kp.length ∧ (kp.take i).all fit = true) (fun i => kp.length - i) _ (Ghost.refl _) 0 ⟨Nat.zero_le _, rfl⟩ ?_ ?_
        · (refine zA (zA ?_));(repeat' (first|exact trivial|with_reducible exact cvB_refl _|exact rfl|apply And.intro))
        intro gs i hi
        obtain ⟨hi, hfi⟩ := hi
        (conv=>whnf);repeat((first|refine zD ?_|refine zA ?_|refine zT ?_|refine zF ?_);conv=>whnf)
        refine And.intro (fun h => ?_) (fun h => ?_)
        · have hlt : i < kp.length := by simpa [wV] using h
          have hff := hk kp[i]
          have htk := take_snoc hlt
          cases hc : fit kp[i] with
          | false =>
            rw [hc] at hff
            rw [hno _ (List.getElem_mem hlt) hc]
            (conv=>whnf);repeat((first|refine zD ?_|refine zA ?_|refine zT ?_|refine zF ?_);conv=>whnf)
            refine ⟨by omega, _, wItem hlt, rfl, ?_⟩
            (conv=>whnf);repeat((first|refine zD ?_|refine zA ?_|refine zT ?_|refine zF ?_);conv=>whnf)
            refine ⟨_, _, hff, ?_⟩
            (conv=>whnf);repeat((first|refine zD ?_|refine zA ?_|refine zT ?_|refine zF ?_);conv=>whnf)
            refine Exists.intro [] (And.intro List.nodup_nil ?_); ((conv=>whnf);repeat((first|refine zD ?_|refine zA ?_|refine zT ?_|refine zF ?_);conv=>whnf))
            rfl
          | true =>
            rw [hc] at hff
            (conv=>whnf);repeat((first|refine zD ?_|refine zA ?_|refine zT ?_|refine zF ?_);conv=>whnf)
            refine ⟨by omega, _, wItem hlt, rfl, ?_⟩
            (conv=>whnf);repeat((first|refine zD ?_|refine zA ?_|refine zT ?_|refine zF ?_);conv=>whnf)
            refine ⟨_, _, hff, ?_⟩
            (conv=>whnf);repeat((first|refine zD ?_|refine zA ?_|refine zT ?_|refine zF ?_);conv=>whnf)
            refine again (i + 1) ⟨hlt, by rw [htk, List.all_append, hfi]; simp [hc]⟩ (Nat.sub_lt_sub_left hlt (Nat.lt_succ_self i)) ?_
            (refine zA (zA ?_));(repeat' (first|exact trivial|with_reducible exact cvB_refl _|exact rfl|apply And.intro))
            all_goals exact congrArg (Value.int .i64) (w64_nat (by omega))
        · obtain rfl : i = kp.length := by
            have : ¬ i < kp.length := by simpa [wV] using h
            omega
          rw [List.take_length] at hfi
          rw [hfi]
          (conv=>whnf);repeat((first|refine zD ?_|refine zA ?_|refine zT ?_|refine zF ?_);conv=>whnf)
          refine Exists.intro [] (And.intro List.nodup_nil ?_); ((conv=>whnf);repeat((first|refine zD ?_|refine zA ?_|refine zT ?_|refine zF ?_);conv=>whnf))
          rfl
      · rw [decide_eq_false h3]
        refine fun_of_vc tabOk mixOk Tryz.func41 rfl (by rfl) (rs := [.tmp 2]) rfl rfl 39 ?_; rw [Tryz.ntmps41]
        (conv=>whnf);repeat((first|refine zD ?_|refine zA ?_|refine zT ?_|refine zF ?_);conv=>whnf)
        refine ⟨_, _, hn, ?_⟩
        (conv=>whnf);repeat((first|refine zD ?_|refine zA ?_|refine zT ?_|refine zF ?_);conv=>whnf)
        refine ⟨_, _, hb, ?_⟩
        (conv=>whnf);repeat((first|refine zD ?_|refine zA ?_|refine zT ?_|refine zF ?_);conv=>whnf)
        refine And.intro (fun h => ?_) (fun h => ?_)
        · (conv=>whnf);repeat((first|refine zD ?_|refine zA ?_|refine zT ?_|refine zF ?_);conv=>whnf)
          refine Exists.intro [] (And.intro List.nodup_nil ?_); ((conv=>whnf);repeat((first|refine zD ?_|refine zA ?_|refine zT ?_|refine zF ?_);conv=>whnf))
          rfl
        · exfalso
          have := of_decide_eq_false h
          simp [wV] at this
          omega
end Go.Proofs.YtikchieadclbhaaGreatDoor.Ab
