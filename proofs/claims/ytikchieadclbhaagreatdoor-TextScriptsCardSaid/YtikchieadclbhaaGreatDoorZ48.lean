/- The document's script of a text. No condition. -/
import Derived.Test.YtikchieadclbhaaGreatDoorZ47
namespace Go.Proofs.YtikchieadclbhaaGreatDoor.Ab
set_option linter.unusedVariables false
set_option linter.unusedSimpArgs false
open Go.RowKit

theorem rpall_1 {p : List UInt8} : pall rheadE rcf [p] = ⟨cf0, [], 1, 18⟩ := rfl
theorem rpall_2 {p : List UInt8} {ls : List (List UInt8)} (h : ls ≠ []) : pall rheadE rcf (p :: ls) = if rheadE p = 0 then plines (rcf p) ls 2 [] else ⟨cf0, [], 1, rheadE p⟩ := by
  unfold pall
  dsimp only
  rw [if_neg h]
theorem rok_head {p : List UInt8} (h : rok p = true) : rconfC p = rcf p ∧ rheadE p = cfChk (rcf p) := by
  unfold rheadE
  rw [if_pos h]
  refine ⟨?_, rfl⟩
  unfold rok at h
  simp only [Bool.and_eq_true] at h
  unfold rconfC
  rw [if_pos h.1]
theorem rok_no {p : List UInt8} (h : rok p = false) : rheadE p = 18 := by unfold rheadE; rw [h]; rfl
set_option maxRecDepth 100000 in
set_option maxHeartbeats 16000000 in
theorem parseR (s : List UInt8) (hs : s.length ≤ 9223372036854775807) : Fun Tryz.prog 27 [strV (sS s)] [] (txV (rparse s)) := by
  by_cases hbig : 65536 < s.length
  · have e : rparse s = ⟨cf0, [], 0, 19⟩ := by unfold rparse parse; rw [if_pos hbig]
    rw [e]
    have hl : ((sS s).size : Int) > 65536 := by show ((s.length : Nat) : Int) > 65536; omega
    generalize sS s = S at hl ⊢
    refine fun_of_vc tabOk mixOk Tryz.func27 rfl (by rfl) (rs := [.cell 2 29, .tmp 3, .tmp 4, .tmp 5]) rfl rfl 94 ?_; rw [Tryz.ntmps27]
    (conv=>whnf);repeat((first|refine zD ?_|refine zA ?_|refine zT ?_|refine zF ?_);conv=>whnf)
    refine And.intro (fun _ => ?_) (fun g => absurd hl (of_decide_eq_false g))
    (conv=>whnf);repeat((first|refine zD ?_|refine zA ?_|refine zT ?_|refine zF ?_);conv=>whnf)
    refine Exists.intro [] (And.intro List.nodup_nil ?_); ((conv=>whnf);repeat((first|refine zD ?_|refine zA ?_|refine zT ?_|refine zF ?_);conv=>whnf))
    rfl
  · have hT : rparse s = pall rheadE rcf (spl 10 s) := by unfold rparse parse; rw [if_neg hbig]
    generalize rparse s = T at hT ⊢
    have hl : ¬ ((sS s).size : Int) > 65536 := by show ¬ ((s.length : Nat) : Int) > 65536; omega
    have hcut := cutF 10 (sS s) (by show s.length ≤ 1000000; omega)
    have hps : (pcs 10 (sS s)).map (·.data.toList) = spl 10 s := pcs_spl 10 (sS s)
    have hpl := pcs_len 10 (sS s)
    have hpl : (pcs 10 (sS s)).length ≤ 65537 := by
      have : (sS s).size = s.length := rfl
      omega
    have hpm : ∀ w ∈ pcs 10 (sS s), w.size ≤ 65536 := fun w hw => by
      have := pcs_mem hw
      have : (sS s).size = s.length := rfl
      omega
    have hpn := pcs_ne 10 (sS s)
    generalize pcs 10 (sS s) = P at hcut hps hpl hpm hpn
    rw [← hps] at hT
    clear hps
    refine fun_of_vc tabOk mixOk Tryz.func27 rfl (by rfl) (rs := [.cell 2 29, .tmp 3, .tmp 4, .tmp 5]) rfl rfl 94 ?_; rw [Tryz.ntmps27]
    (conv=>whnf);repeat((first|refine zD ?_|refine zA ?_|refine zT ?_|refine zF ?_);conv=>whnf)
    refine And.intro (fun g => absurd (of_decide_eq_true g) hl) (fun _ => ?_)
    (conv=>whnf);repeat((first|refine zD ?_|refine zA ?_|refine zT ?_|refine zF ?_);conv=>whnf)
    refine ⟨_, _, hcut, ?_⟩
    (conv=>whnf);repeat((first|refine zD ?_|refine zA ?_|refine zT ?_|refine zF ?_);conv=>whnf)
    refine vc_loop [2, 7] [2] (X := Nat × Cf × List Ac) (fun x gs => [(9, ATint x.1), (6, .v (.c (.own 20 (gs 20)))), (8, .v (.c (.own 88 (gs 88))))]) (fun x gs => [(7, .var (0 + 1) (cfC x.2.1)), (20, .row (gs 20) 9 1 (sV P)), (88, .row (gs 88) 41 6 (acR x.2.2))]) (fun x => x.1 < P.length ∧ x.2.2.length ≤ 2000 ∧ ((x.1 = 0 ∧ x.2.1 = cf0 ∧ x.2.2 = []) ∨ (1 ≤ x.1 ∧ plines x.2.1 ((P.drop x.1).map (·.data.toList)) ((x.1 + 1 : Nat) : Int) x.2.2 = T))) (fun x => P.length - x.1) _ (Ghost.ownNil 8 88 41 6 rfl (Nat.le_of_ble_eq_true rfl)) (0, cf0, []) ⟨List.length_pos_iff.2 hpn, Nat.zero_le _, Or.inl ⟨rfl, rfl, rfl⟩⟩ ?_ ?_
    · (refine zA (zA ?_));(repeat' (first|exact trivial|with_reducible exact cvB_refl _|exact rfl|apply And.intro))
    rintro gs ⟨i, c, out⟩ ⟨hi, ho, hinv⟩
    dsimp only at hi ho hinv ⊢
    have hw := List.getElem_mem hi
    have hdr := List.drop_eq_getElem_cons hi
    have hws := hpm _ hw
    have w5 := w64_nat (k := i) (by omega)
    have wl : iwrap .i64 (((sV P).length : Int) - 1) = ((P.length - 1 : Nat) : Int) := by
      rw [sLen]
      exact (w64_in (by omega)).trans (by omega)
    have hit := sItem hi
    (conv=>whnf);repeat((first|refine zD ?_|refine zA ?_|refine zT ?_|refine zF ?_);conv=>whnf)
    refine And.intro (fun _ => ?_) (fun g => absurd (of_decide_eq_false g) (by rw [sLen]; omega))
    (conv=>whnf);repeat((first|refine zD ?_|refine zA ?_|refine zT ?_|refine zF ?_);conv=>whnf)
    rw [wl]
    rcases hinv with ⟨rfl, rfl, rfl⟩ | ⟨hi1, hinv⟩
    · have hP : P.map (·.data.toList) = P[0].data.toList :: (P.drop 1).map (·.data.toList) := by
        rw [List.drop_zero] at hdr
        conv => lhs; rw [hdr]
        rfl
      rw [hP] at hT
      by_cases h1 : P.length = 1
      · have e1 : (P.drop 1).map (·.data.toList) = [] := by rw [List.drop_of_length_le (by omega)]; rfl
        rw [e1, rpall_1] at hT
        subst hT
        have hem : (P[0].toList == (⟨#[]⟩ : ByteArray).toList) = decide (P[0].data.toList = []) := empty_iff P[0]
        refine And.intro (fun _ => ?_) (fun g => absurd g (by rw [h1]; decide))
        (conv=>whnf);repeat((first|refine zD ?_|refine zA ?_|refine zT ?_|refine zF ?_);conv=>whnf)
        refine ⟨by decide, lt_of_get hit, ?_⟩
        (conv=>whnf);repeat((first|refine zD ?_|refine zA ?_|refine zT ?_|refine zF ?_);conv=>whnf)
        refine ⟨_, hit, ?_⟩
        (conv=>whnf);repeat((first|refine zD ?_|refine zA ?_|refine zT ?_|refine zF ?_);conv=>whnf)
        refine And.intro (fun g => ?_) (fun g => ?_)
        · (conv=>whnf);repeat((first|refine zD ?_|refine zA ?_|refine zT ?_|refine zF ?_);conv=>whnf)
          refine Exists.intro [] (And.intro List.nodup_nil ?_); ((conv=>whnf);repeat((first|refine zD ?_|refine zA ?_|refine zT ?_|refine zF ?_);conv=>whnf))
          exact congrArg (fun n => AT.tup [cfV cf0, slV (acR []), i64V n, i64V 18]) w5
        · (conv=>whnf);repeat((first|refine zD ?_|refine zA ?_|refine zT ?_|refine zF ?_);conv=>whnf)
          refine Exists.intro [] (And.intro List.nodup_nil ?_); ((conv=>whnf);repeat((first|refine zD ?_|refine zA ?_|refine zT ?_|refine zF ?_);conv=>whnf))
          exact congrArg (fun n => AT.tup [cfV cf0, slV (acR []), i64V n, i64V 18]) w5
      · have hne : (P.drop 1).map (·.data.toList) ≠ [] := fun g => by
          have := congrArg List.length g
          simp at this
          omega
        rw [rpall_2 hne] at hT
        have hcf := rconfF P[0] (by omega)
        have hlt : ¬ ((0 : Nat) : Int) = ((P.length - 1 : Nat) : Int) := by omega
        refine And.intro (fun g => absurd (by simpa only [beq_iff_eq] using g) hlt) (fun _ => ?_)
        cases hk : rok P[0].data.toList with
        | false =>
          rw [rok_no hk, if_neg (by decide)] at hT
          subst hT
          rw [hk] at hcf
          generalize rconfC P[0].data.toList = C at hcf
          (conv=>whnf);repeat((first|refine zD ?_|refine zA ?_|refine zT ?_|refine zF ?_);conv=>whnf)
          refine ⟨by decide, lt_of_get hit, ?_⟩
          (conv=>whnf);repeat((first|refine zD ?_|refine zA ?_|refine zT ?_|refine zF ?_);conv=>whnf)
          refine ⟨_, hit, ?_⟩
          (conv=>whnf);repeat((first|refine zD ?_|refine zA ?_|refine zT ?_|refine zF ?_);conv=>whnf)
          refine ⟨_, _, hcf, ?_⟩
          (conv=>whnf);repeat((first|refine zD ?_|refine zA ?_|refine zT ?_|refine zF ?_);conv=>whnf)
          refine Exists.intro [] (And.intro List.nodup_nil ?_); ((conv=>whnf);repeat((first|refine zD ?_|refine zA ?_|refine zT ?_|refine zF ?_);conv=>whnf))
          rfl
        | true =>
          obtain ⟨e1, e2⟩ := rok_head hk
          rw [hk, e1] at hcf
          rw [e2] at hT
          have hck := cfChkF' (rcf P[0].data.toList)
          generalize rcf P[0].data.toList = C at hcf hck hT
          by_cases h0 : cfChk C = 0
          · rw [if_pos h0] at hT
            rw [h0] at hck
            (conv=>whnf);repeat((first|refine zD ?_|refine zA ?_|refine zT ?_|refine zF ?_);conv=>whnf)
            refine ⟨by decide, lt_of_get hit, ?_⟩
            (conv=>whnf);repeat((first|refine zD ?_|refine zA ?_|refine zT ?_|refine zF ?_);conv=>whnf)
            refine ⟨_, hit, ?_⟩
            (conv=>whnf);repeat((first|refine zD ?_|refine zA ?_|refine zT ?_|refine zF ?_);conv=>whnf)
            refine ⟨_, _, hcf, ?_⟩
            (conv=>whnf);repeat((first|refine zD ?_|refine zA ?_|refine zT ?_|refine zF ?_);conv=>whnf)
            refine ⟨_, _, hck, ?_⟩
            (conv=>whnf);repeat((first|refine zD ?_|refine zA ?_|refine zT ?_|refine zF ?_);conv=>whnf)
            refine again (1, C, []) ⟨by dsimp only; omega, Nat.zero_le _, Or.inr ⟨Nat.le_refl 1, hT.symm⟩⟩ (by dsimp only; omega) ?_
            (refine zA (zA ?_));(repeat' (first|exact trivial|with_reducible exact cvB_refl _|exact rfl|apply And.intro))
            all_goals exact congrArg (Value.int .i64) (w64_nat (k := 0) (by decide))
          · rw [if_neg h0] at hT
            generalize cfChk C = e0 at hck hT h0
            subst hT
            (conv=>whnf);repeat((first|refine zD ?_|refine zA ?_|refine zT ?_|refine zF ?_);conv=>whnf)
            refine ⟨by decide, lt_of_get hit, ?_⟩
            (conv=>whnf);repeat((first|refine zD ?_|refine zA ?_|refine zT ?_|refine zF ?_);conv=>whnf)
            refine ⟨_, hit, ?_⟩
            (conv=>whnf);repeat((first|refine zD ?_|refine zA ?_|refine zT ?_|refine zF ?_);conv=>whnf)
            refine ⟨_, _, hcf, ?_⟩
            (conv=>whnf);repeat((first|refine zD ?_|refine zA ?_|refine zT ?_|refine zF ?_);conv=>whnf)
            refine ⟨_, _, hck, ?_⟩
            (conv=>whnf);repeat((first|refine zD ?_|refine zA ?_|refine zT ?_|refine zF ?_);conv=>whnf)
            refine And.intro (fun _ => ?_) (fun g => absurd (by simpa using g) h0)
            (conv=>whnf);repeat((first|refine zD ?_|refine zA ?_|refine zT ?_|refine zF ?_);conv=>whnf)
            refine Exists.intro [] (And.intro List.nodup_nil ?_); ((conv=>whnf);repeat((first|refine zD ?_|refine zA ?_|refine zT ?_|refine zF ?_);conv=>whnf))
            rfl
    · rw [hdr, List.map_cons] at hinv
      have hi0 : ¬ (i : Int) = 0 := by omega
      by_cases h1 : i = P.length - 1
      · have e1 : (P.drop (i + 1)).map (·.data.toList) = [] := by rw [List.drop_of_length_le (by omega)]; rfl
        rw [e1, plines_1] at hinv
        have hem : (P[i].toList == (⟨#[]⟩ : ByteArray).toList) = decide (P[i].data.toList = []) := empty_iff P[i]
        have hpos : (i : Int) > 0 := by omega
        refine And.intro (fun _ => ?_) (fun g => absurd (congrArg (fun n : Nat => (n : Int)) h1) (by simpa only [beq_eq_false_iff_ne] using g))
        by_cases hr : P[i].data.toList = []
        · rw [decide_eq_true hr] at hem
          rw [if_pos hr] at hinv
          subst hinv
          (conv=>whnf);repeat((first|refine zD ?_|refine zA ?_|refine zT ?_|refine zF ?_);conv=>whnf)
          refine ⟨by omega, lt_of_get hit, ?_⟩
          (conv=>whnf);repeat((first|refine zD ?_|refine zA ?_|refine zT ?_|refine zF ?_);conv=>whnf)
          refine ⟨_, hit, ?_⟩
          (conv=>whnf);repeat((first|refine zD ?_|refine zA ?_|refine zT ?_|refine zF ?_);conv=>whnf)
          refine And.intro (fun _ => ?_) (fun g => absurd g (by rw [hem]; decide))
          (conv=>whnf);repeat((first|refine zD ?_|refine zA ?_|refine zT ?_|refine zF ?_);conv=>whnf)
          refine And.intro (fun _ => ?_) (fun g => absurd hpos (of_decide_eq_false g))
          (conv=>whnf);repeat((first|refine zD ?_|refine zA ?_|refine zT ?_|refine zF ?_);conv=>whnf)
          refine Exists.intro [] (And.intro List.nodup_nil ?_); ((conv=>whnf);repeat((first|refine zD ?_|refine zA ?_|refine zT ?_|refine zF ?_);conv=>whnf))
          rfl
        · rw [decide_eq_false hr] at hem
          rw [if_neg hr] at hinv
          subst hinv
          (conv=>whnf);repeat((first|refine zD ?_|refine zA ?_|refine zT ?_|refine zF ?_);conv=>whnf)
          refine ⟨by omega, lt_of_get hit, ?_⟩
          (conv=>whnf);repeat((first|refine zD ?_|refine zA ?_|refine zT ?_|refine zF ?_);conv=>whnf)
          refine ⟨_, hit, ?_⟩
          (conv=>whnf);repeat((first|refine zD ?_|refine zA ?_|refine zT ?_|refine zF ?_);conv=>whnf)
          refine And.intro (fun g => absurd g (by rw [hem]; decide)) (fun _ => ?_)
          (conv=>whnf);repeat((first|refine zD ?_|refine zA ?_|refine zT ?_|refine zF ?_);conv=>whnf)
          refine Exists.intro [] (And.intro List.nodup_nil ?_); ((conv=>whnf);repeat((first|refine zD ?_|refine zA ?_|refine zT ?_|refine zF ?_);conv=>whnf))
          exact congrArg (fun n => AT.tup [cfV cf0, slV (acR []), i64V n, i64V 18]) w5
      · have hne : (P.drop (i + 1)).map (·.data.toList) ≠ [] := fun g => by
          have := congrArg List.length g
          simp at this
          omega
        rw [plines_2 hne] at hinv
        have hlt : ¬ (i : Int) = ((P.length - 1 : Nat) : Int) := by omega
        have hh := readR P[i] (by omega)
        rw [← read_same] at hh
        have her := tread_err P[i].data.toList
        generalize tread P[i].data.toList = A at hh hinv her
        obtain ⟨a, e0⟩ := A
        dsimp only at her hinv
        refine And.intro (fun g => absurd (by simpa only [beq_iff_eq] using g) hlt) (fun _ => ?_)
        by_cases h0 : e0 = 0
        · subst h0
          rw [if_pos rfl] at hinv
          by_cases hfull : out.length = 2000
          · rw [if_pos hfull] at hinv
            subst hinv
            (conv=>whnf);repeat((first|refine zD ?_|refine zA ?_|refine zT ?_|refine zF ?_);conv=>whnf)
            refine And.intro (fun g => absurd (by simpa using g) hi0) (fun _ => ?_)
            (conv=>whnf);repeat((first|refine zD ?_|refine zA ?_|refine zT ?_|refine zF ?_);conv=>whnf)
            refine ⟨by omega, lt_of_get hit, ?_⟩
            (conv=>whnf);repeat((first|refine zD ?_|refine zA ?_|refine zT ?_|refine zF ?_);conv=>whnf)
            refine ⟨_, hit, ?_⟩
            (conv=>whnf);repeat((first|refine zD ?_|refine zA ?_|refine zT ?_|refine zF ?_);conv=>whnf)
            refine ⟨_, _, hh, ?_⟩
            (conv=>whnf);repeat((first|refine zD ?_|refine zA ?_|refine zT ?_|refine zF ?_);conv=>whnf)
            refine And.intro (fun _ => ?_) (fun g => absurd (show ((acR out).length : Int) = 2000 by rw [acLen, hfull]; rfl) (by simpa only [beq_eq_false_iff_ne] using g))
            (conv=>whnf);repeat((first|refine zD ?_|refine zA ?_|refine zT ?_|refine zF ?_);conv=>whnf)
            refine Exists.intro [] (And.intro List.nodup_nil ?_); ((conv=>whnf);repeat((first|refine zD ?_|refine zA ?_|refine zT ?_|refine zF ?_);conv=>whnf))
            exact congrArg (fun n => AT.tup [cfV cf0, slV (acR []), i64V n, i64V 19]) w5
          · rw [if_neg hfull] at hinv
            (conv=>whnf);repeat((first|refine zD ?_|refine zA ?_|refine zT ?_|refine zF ?_);conv=>whnf)
            refine And.intro (fun g => absurd (by simpa using g) hi0) (fun _ => ?_)
            (conv=>whnf);repeat((first|refine zD ?_|refine zA ?_|refine zT ?_|refine zF ?_);conv=>whnf)
            refine ⟨by omega, lt_of_get hit, ?_⟩
            (conv=>whnf);repeat((first|refine zD ?_|refine zA ?_|refine zT ?_|refine zF ?_);conv=>whnf)
            refine ⟨_, hit, ?_⟩
            (conv=>whnf);repeat((first|refine zD ?_|refine zA ?_|refine zT ?_|refine zF ?_);conv=>whnf)
            refine ⟨_, _, hh, ?_⟩
            (conv=>whnf);repeat((first|refine zD ?_|refine zA ?_|refine zT ?_|refine zF ?_);conv=>whnf)
            refine And.intro (fun g => absurd (by
              have : ((acR out).length : Int) = 2000 := by simpa only [beq_iff_eq] using g
              rw [acLen] at this
              omega) hfull) (fun _ => ?_)
            (conv=>whnf);repeat((first|refine zD ?_|refine zA ?_|refine zT ?_|refine zF ?_);conv=>whnf)
            refine ⟨acSz [a], ?_⟩
            (conv=>whnf);repeat((first|refine zD ?_|refine zA ?_|refine zT ?_|refine zF ?_);conv=>whnf)
            refine ⟨bytes_le (by decide) (ac_b (a := out) (b := [a]) (by omega) (by simp)), ?_⟩
            (conv=>whnf);repeat((first|refine zD ?_|refine zA ?_|refine zT ?_|refine zF ?_);conv=>whnf)
            refine again (i + 1, c, out ++ [a]) ⟨by dsimp only; omega, by simp; omega, Or.inr ⟨by dsimp only; omega, by rw [← hinv]; rfl⟩⟩ (by dsimp only; omega) ?_
            (refine zA (zA ?_));(repeat' (first|exact trivial|with_reducible exact cvB_refl _|exact rfl|apply And.intro))
            all_goals first
              | exact congrArg (Value.int .i64) w5
              | exact congrArg (Blk.row _ _ _) (acApp out [a])
        · rw [if_neg h0] at hinv
          have h18 := her h0
          subst h18
          subst hinv
          (conv=>whnf);repeat((first|refine zD ?_|refine zA ?_|refine zT ?_|refine zF ?_);conv=>whnf)
          refine And.intro (fun g => absurd (by simpa using g) hi0) (fun _ => ?_)
          (conv=>whnf);repeat((first|refine zD ?_|refine zA ?_|refine zT ?_|refine zF ?_);conv=>whnf)
          refine ⟨by omega, lt_of_get hit, ?_⟩
          (conv=>whnf);repeat((first|refine zD ?_|refine zA ?_|refine zT ?_|refine zF ?_);conv=>whnf)
          refine ⟨_, hit, ?_⟩
          (conv=>whnf);repeat((first|refine zD ?_|refine zA ?_|refine zT ?_|refine zF ?_);conv=>whnf)
          refine ⟨_, _, hh, ?_⟩
          (conv=>whnf);repeat((first|refine zD ?_|refine zA ?_|refine zT ?_|refine zF ?_);conv=>whnf)
          refine Exists.intro [] (And.intro List.nodup_nil ?_); ((conv=>whnf);repeat((first|refine zD ?_|refine zA ?_|refine zT ?_|refine zF ?_);conv=>whnf))
          exact congrArg (fun n => AT.tup [cfV cf0, slV (acR []), i64V n, i64V 18]) w5
end Go.Proofs.YtikchieadclbhaaGreatDoor.Ab
