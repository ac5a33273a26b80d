/- The document's action of a line. No condition. -/
import Derived.Test.YtikchieadclbhaaGreatDoorZ36
namespace Go.Proofs.YtikchieadclbhaaGreatDoor.Ab
set_option linter.unusedVariables false
set_option linter.unusedSimpArgs false
open Go.RowKit

theorem zero_iff {ck cb : Int} {s : ByteArray} : (ck = 0 ∧ cb = 0 ∧ s.data.toList = []) ↔ (ck = 0 ∧ cb = 0 ∧ s = ByteArray.empty) := by
  constructor
  · rintro ⟨h1, h2, h3⟩; exact ⟨h1, h2, sL_inj h3⟩
  · rintro ⟨h1, h2, h3⟩; exact ⟨h1, h2, by rw [h3]; rfl⟩
set_option maxRecDepth 100000 in
set_option maxHeartbeats 16000000 in
theorem lineR_2 (n ck cb : Int) (s : ByteArray) (kp : List Int) (hk : kp.length ≤ 1000000) (hfi : fineB n cb kp = true) : Fun Tryz.prog 24 [acB 2 n ck cb s kp] [] (.v (strV (sS (tline ⟨2, n, ck, cb, s.data.toList, kp⟩)))) := by
  have hfn := fineF 2 n ck cb s kp
  rw [hfi] at hfn
  have hf : fit n = true := by
    cases h : fit n with
    | true => rfl
    | false => unfold fineB at hfi; rw [h] at hfi; cases hfi
  by_cases h : (ck = 0 ∧ cb = 0 ∧ s = ByteArray.empty) ∧ kp = []
  · obtain ⟨⟨rfl, rfl, rfl⟩, rfl⟩ := h
    have hs := sameR_yes 2 n 0 0 ByteArray.empty [] (by decide)
    have e0 := tline_rest (k := 2) hf (by decide) (by decide)
    rw [if_pos rfl] at e0
    have e : sS (tline ⟨2, n, 0, 0, ByteArray.empty.data.toList, []⟩) = ⟨#[115, 116, 101, 112, 32]⟩ ++ itoS n := by
      apply sL_inj
      rw [sL_append]
      exact e0
    rw [e]
    have hd := dR n hf
    have hds := itoS_size hf
    generalize itoS n = D at hd hds ⊢
    refine fun_of_vc tabOk mixOk Tryz.func24 rfl (by rfl) (rs := [.tmp 2]) rfl rfl 101 ?_; rw [Tryz.ntmps24]
    (conv=>whnf);repeat((first|refine zD ?_|refine zA ?_|refine zT ?_|refine zF ?_);conv=>whnf)
    refine ⟨_, _, hfn, ?_⟩
    (conv=>whnf);repeat((first|refine zD ?_|refine zA ?_|refine zT ?_|refine zF ?_);conv=>whnf)
    refine ⟨_, _, hs, ?_⟩
    (conv=>whnf);repeat((first|refine zD ?_|refine zA ?_|refine zT ?_|refine zF ?_);conv=>whnf)
    refine ⟨_, _, hd, ?_⟩
    (conv=>whnf);repeat((first|refine zD ?_|refine zA ?_|refine zT ?_|refine zF ?_);conv=>whnf)
    refine ⟨by show 5 + D.size ≤ _; omega, ?_⟩
    (conv=>whnf);repeat((first|refine zD ?_|refine zA ?_|refine zT ?_|refine zF ?_);conv=>whnf)
    refine Exists.intro [] (And.intro List.nodup_nil ?_); ((conv=>whnf);repeat((first|refine zD ?_|refine zA ?_|refine zT ?_|refine zF ?_);conv=>whnf))
    rfl
  · have e : tline ⟨2, n, ck, cb, s.data.toList, kp⟩ = [] := by
      by_cases hc : ck = 0 ∧ cb = 0 ∧ s.data.toList = []
      · obtain ⟨rfl, rfl, h3⟩ := hc
        rw [h3]
        exact tline_keep (by decide) (by decide) (fun g => h ⟨⟨rfl, rfl, sL_inj h3⟩, g⟩)
      · exact tline_cmd (by decide) hc
    rw [e]
    have hs := sameR_no 2 n ck cb s kp 0 0 ByteArray.empty [] n (by
      by_cases hc : ck = 0 ∧ cb = 0 ∧ s = ByteArray.empty
      · exact Or.inr (Or.inr (fun g => h ⟨hc, List.length_eq_zero_iff.1 g⟩))
      · exact Or.inr (Or.inl hc))
    refine fun_of_vc tabOk mixOk Tryz.func24 rfl (by rfl) (rs := [.tmp 2]) rfl rfl 101 ?_; rw [Tryz.ntmps24]
    (conv=>whnf);repeat((first|refine zD ?_|refine zA ?_|refine zT ?_|refine zF ?_);conv=>whnf)
    refine ⟨_, _, hfn, ?_⟩
    (conv=>whnf);repeat((first|refine zD ?_|refine zA ?_|refine zT ?_|refine zF ?_);conv=>whnf)
    refine ⟨_, _, hs, ?_⟩
    (conv=>whnf);repeat((first|refine zD ?_|refine zA ?_|refine zT ?_|refine zF ?_);conv=>whnf)
    refine Exists.intro [] (And.intro List.nodup_nil ?_); ((conv=>whnf);repeat((first|refine zD ?_|refine zA ?_|refine zT ?_|refine zF ?_);conv=>whnf))
    rfl
set_option maxRecDepth 100000 in
set_option maxHeartbeats 16000000 in
theorem lineR_3 (n ck cb : Int) (s : ByteArray) (kp : List Int) (hk : kp.length ≤ 1000000) (hfi : fineB n cb kp = true) : Fun Tryz.prog 24 [acB 3 n ck cb s kp] [] (.v (strV (sS (tline ⟨3, n, ck, cb, s.data.toList, kp⟩)))) := by
  have hfn := fineF 3 n ck cb s kp
  rw [hfi] at hfn
  have hf : fit n = true := by
    cases h : fit n with
    | true => rfl
    | false => unfold fineB at hfi; rw [h] at hfi; cases hfi
  by_cases h : n = 0 ∧ (ck = 0 ∧ cb = 0 ∧ s = ByteArray.empty) ∧ kp = []
  · obtain ⟨rfl, ⟨rfl, rfl, rfl⟩, rfl⟩ := h
    have hs := sameR_yes 3 0 0 0 ByteArray.empty [] (by decide)
    have e : tline ⟨3, 0, 0, 0, ByteArray.empty.data.toList, []⟩ = wSave := by
      refine (tline_rest (k := 3) hf (by decide) (by decide)).trans ?_
      rfl
    rw [e]
    refine fun_of_vc tabOk mixOk Tryz.func24 rfl (by rfl) (rs := [.tmp 2]) rfl rfl 101 ?_; rw [Tryz.ntmps24]
    (conv=>whnf);repeat((first|refine zD ?_|refine zA ?_|refine zT ?_|refine zF ?_);conv=>whnf)
    refine ⟨_, _, hfn, ?_⟩
    (conv=>whnf);repeat((first|refine zD ?_|refine zA ?_|refine zT ?_|refine zF ?_);conv=>whnf)
    refine ⟨_, _, hs, ?_⟩
    (conv=>whnf);repeat((first|refine zD ?_|refine zA ?_|refine zT ?_|refine zF ?_);conv=>whnf)
    refine Exists.intro [] (And.intro List.nodup_nil ?_); ((conv=>whnf);repeat((first|refine zD ?_|refine zA ?_|refine zT ?_|refine zF ?_);conv=>whnf))
    rfl
  · have e : tline ⟨3, n, ck, cb, s.data.toList, kp⟩ = [] := by
      by_cases hc : ck = 0 ∧ cb = 0 ∧ s.data.toList = []
      · obtain ⟨rfl, rfl, h3⟩ := hc
        rw [h3]
        by_cases hkp : kp = []
        · subst hkp
          rw [tline_rest hf (by decide) (by decide), if_neg (by decide), if_pos (fun g => h ⟨g, ⟨rfl, rfl, sL_inj h3⟩, rfl⟩)]
        · exact tline_keep (by decide) (by decide) hkp
      · exact tline_cmd (by decide) hc
    rw [e]
    have hs := sameR_no 3 n ck cb s kp 0 0 ByteArray.empty [] 0 (by
      by_cases hn : n = 0
      · by_cases hc : ck = 0 ∧ cb = 0 ∧ s = ByteArray.empty
        · exact Or.inr (Or.inr (fun g => h ⟨hn, hc, List.length_eq_zero_iff.1 g⟩))
        · exact Or.inr (Or.inl hc)
      · exact Or.inl hn)
    refine fun_of_vc tabOk mixOk Tryz.func24 rfl (by rfl) (rs := [.tmp 2]) rfl rfl 101 ?_; rw [Tryz.ntmps24]
    (conv=>whnf);repeat((first|refine zD ?_|refine zA ?_|refine zT ?_|refine zF ?_);conv=>whnf)
    refine ⟨_, _, hfn, ?_⟩
    (conv=>whnf);repeat((first|refine zD ?_|refine zA ?_|refine zT ?_|refine zF ?_);conv=>whnf)
    refine ⟨_, _, hs, ?_⟩
    (conv=>whnf);repeat((first|refine zD ?_|refine zA ?_|refine zT ?_|refine zF ?_);conv=>whnf)
    refine Exists.intro [] (And.intro List.nodup_nil ?_); ((conv=>whnf);repeat((first|refine zD ?_|refine zA ?_|refine zT ?_|refine zF ?_);conv=>whnf))
    rfl
set_option maxRecDepth 100000 in
set_option maxHeartbeats 16000000 in
theorem lineR_5 (n ck cb : Int) (s : ByteArray) (kp : List Int) (hk : kp.length ≤ 1000000) (hfi : fineB n cb kp = true) : Fun Tryz.prog 24 [acB 5 n ck cb s kp] [] (.v (strV (sS (tline ⟨5, n, ck, cb, s.data.toList, kp⟩)))) := by
  have hfn := fineF 5 n ck cb s kp
  rw [hfi] at hfn
  have hf : fit n = true := by
    cases h : fit n with
    | true => rfl
    | false => unfold fineB at hfi; rw [h] at hfi; cases hfi
  by_cases h : n = 0 ∧ (ck = 0 ∧ cb = 0 ∧ s = ByteArray.empty) ∧ kp = []
  · obtain ⟨rfl, ⟨rfl, rfl, rfl⟩, rfl⟩ := h
    have hs := sameR_yes 5 0 0 0 ByteArray.empty [] (by decide)
    have e : tline ⟨5, 0, 0, 0, ByteArray.empty.data.toList, []⟩ = wClose := by
      refine (tline_rest (k := 5) hf (by decide) (by decide)).trans ?_
      rfl
    rw [e]
    refine fun_of_vc tabOk mixOk Tryz.func24 rfl (by rfl) (rs := [.tmp 2]) rfl rfl 101 ?_; rw [Tryz.ntmps24]
    (conv=>whnf);repeat((first|refine zD ?_|refine zA ?_|refine zT ?_|refine zF ?_);conv=>whnf)
    refine ⟨_, _, hfn, ?_⟩
    (conv=>whnf);repeat((first|refine zD ?_|refine zA ?_|refine zT ?_|refine zF ?_);conv=>whnf)
    refine ⟨_, _, hs, ?_⟩
    (conv=>whnf);repeat((first|refine zD ?_|refine zA ?_|refine zT ?_|refine zF ?_);conv=>whnf)
    refine Exists.intro [] (And.intro List.nodup_nil ?_); ((conv=>whnf);repeat((first|refine zD ?_|refine zA ?_|refine zT ?_|refine zF ?_);conv=>whnf))
    rfl
  · have e : tline ⟨5, n, ck, cb, s.data.toList, kp⟩ = [] := by
      by_cases hc : ck = 0 ∧ cb = 0 ∧ s.data.toList = []
      · obtain ⟨rfl, rfl, h3⟩ := hc
        rw [h3]
        by_cases hkp : kp = []
        · subst hkp
          rw [tline_rest hf (by decide) (by decide), if_neg (by decide), if_pos (fun g => h ⟨g, ⟨rfl, rfl, sL_inj h3⟩, rfl⟩)]
        · exact tline_keep (by decide) (by decide) hkp
      · exact tline_cmd (by decide) hc
    rw [e]
    have hs := sameR_no 5 n ck cb s kp 0 0 ByteArray.empty [] 0 (by
      by_cases hn : n = 0
      · by_cases hc : ck = 0 ∧ cb = 0 ∧ s = ByteArray.empty
        · exact Or.inr (Or.inr (fun g => h ⟨hn, hc, List.length_eq_zero_iff.1 g⟩))
        · exact Or.inr (Or.inl hc)
      · exact Or.inl hn)
    refine fun_of_vc tabOk mixOk Tryz.func24 rfl (by rfl) (rs := [.tmp 2]) rfl rfl 101 ?_; rw [Tryz.ntmps24]
    (conv=>whnf);repeat((first|refine zD ?_|refine zA ?_|refine zT ?_|refine zF ?_);conv=>whnf)
    refine ⟨_, _, hfn, ?_⟩
    (conv=>whnf);repeat((first|refine zD ?_|refine zA ?_|refine zT ?_|refine zF ?_);conv=>whnf)
    refine ⟨_, _, hs, ?_⟩
    (conv=>whnf);repeat((first|refine zD ?_|refine zA ?_|refine zT ?_|refine zF ?_);conv=>whnf)
    refine Exists.intro [] (And.intro List.nodup_nil ?_); ((conv=>whnf);repeat((first|refine zD ?_|refine zA ?_|refine zT ?_|refine zF ?_);conv=>whnf))
    rfl
set_option maxRecDepth 100000 in
set_option maxHeartbeats 16000000 in
theorem lineR_4 (n ck cb : Int) (s : ByteArray) (kp : List Int) (hk : kp.length ≤ 1000000) (hfi : fineB n cb kp = true) : Fun Tryz.prog 24 [acB 4 n ck cb s kp] [] (.v (strV (sS (tline ⟨4, n, ck, cb, s.data.toList, kp⟩)))) := by
  have hfn := fineF 4 n ck cb s kp
  rw [hfi] at hfn
  have hf : fit n = true := by
    cases h : fit n with
    | true => rfl
    | false => unfold fineB at hfi; rw [h] at hfi; cases hfi
  have hkf : kp.length ≤ 32 ∧ kp.all fit = true := by
    unfold fineB at hfi
    simp only [Bool.and_eq_true, decide_eq_true_eq] at hfi
    exact ⟨hfi.1.2, hfi.2⟩
  by_cases h : n = 0 ∧ (ck = 0 ∧ cb = 0 ∧ s = ByteArray.empty)
  · obtain ⟨rfl, rfl, rfl, rfl⟩ := h
    have hs := sameR_yes 4 0 0 0 ByteArray.empty kp hk
    have e0 : tline ⟨4, 0, 0, 0, ByteArray.empty.data.toList, kp⟩ = crL kp := by
      refine (tline_crash hf).trans ?_
      rw [if_pos rfl]
    rw [e0]
    cases kp with
    | nil =>
      refine fun_of_vc tabOk mixOk Tryz.func24 rfl (by rfl) (rs := [.tmp 2]) rfl rfl 101 ?_; rw [Tryz.ntmps24]
      (conv=>whnf);repeat((first|refine zD ?_|refine zA ?_|refine zT ?_|refine zF ?_);conv=>whnf)
      refine ⟨_, _, hfn, ?_⟩
      (conv=>whnf);repeat((first|refine zD ?_|refine zA ?_|refine zT ?_|refine zF ?_);conv=>whnf)
      refine ⟨_, _, hs, ?_⟩
      (conv=>whnf);repeat((first|refine zD ?_|refine zA ?_|refine zT ?_|refine zF ?_);conv=>whnf)
      refine Exists.intro [] (And.intro List.nodup_nil ?_); ((conv=>whnf);repeat((first|refine zD ?_|refine zA ?_|refine zT ?_|refine zF ?_);conv=>whnf))
      rfl
    | cons x l =>
      have hj := keepsF (x :: l) hkf.1 hkf.2
      have hjs := kpS_size hkf.2 hkf.1
      have e : sS (crL (x :: l)) = ⟨#[99, 114, 97, 115, 104, 32]⟩ ++ kpS (x :: l) := by
        apply sL_inj
        rw [sL_append]
        show crL (x :: l) = _
        unfold crL
        rw [if_pos hkf, if_neg (List.cons_ne_nil _ _)]
        rfl
      rw [e]
      generalize kpS (x :: l) = J at hj hjs ⊢
      refine fun_of_vc tabOk mixOk Tryz.func24 rfl (by rfl) (rs := [.tmp 2]) rfl rfl 101 ?_; rw [Tryz.ntmps24]
      (conv=>whnf);repeat((first|refine zD ?_|refine zA ?_|refine zT ?_|refine zF ?_);conv=>whnf)
      refine ⟨_, _, hfn, ?_⟩
      (conv=>whnf);repeat((first|refine zD ?_|refine zA ?_|refine zT ?_|refine zF ?_);conv=>whnf)
      refine ⟨_, _, hs, ?_⟩
      (conv=>whnf);repeat((first|refine zD ?_|refine zA ?_|refine zT ?_|refine zF ?_);conv=>whnf)
      first
        | (refine And.intro (fun h => absurd h (by simp [wV]; omega)) (fun _ => ?_)
           (conv=>whnf);repeat((first|refine zD ?_|refine zA ?_|refine zT ?_|refine zF ?_);conv=>whnf))
        | skip
      refine ⟨_, _, hj, ?_⟩
      (conv=>whnf);repeat((first|refine zD ?_|refine zA ?_|refine zT ?_|refine zF ?_);conv=>whnf)
      refine ⟨by show 6 + J.size ≤ _; omega, ?_⟩
      (conv=>whnf);repeat((first|refine zD ?_|refine zA ?_|refine zT ?_|refine zF ?_);conv=>whnf)
      refine Exists.intro [] (And.intro List.nodup_nil ?_); ((conv=>whnf);repeat((first|refine zD ?_|refine zA ?_|refine zT ?_|refine zF ?_);conv=>whnf))
      rfl
  · have e : tline ⟨4, n, ck, cb, s.data.toList, kp⟩ = [] := by
      by_cases hc : ck = 0 ∧ cb = 0 ∧ s.data.toList = []
      · obtain ⟨rfl, rfl, h3⟩ := hc
        rw [h3, tline_crash hf, if_neg (fun g => h ⟨g, rfl, rfl, sL_inj h3⟩)]
      · exact tline_cmd (by decide) hc
    rw [e]
    have hs := sameR_no 4 n ck cb s kp 0 0 ByteArray.empty kp 0 (by
      by_cases hn : n = 0
      · exact Or.inr (Or.inl (fun hc => h ⟨hn, hc⟩))
      · exact Or.inl hn)
    refine fun_of_vc tabOk mixOk Tryz.func24 rfl (by rfl) (rs := [.tmp 2]) rfl rfl 101 ?_; rw [Tryz.ntmps24]
    (conv=>whnf);repeat((first|refine zD ?_|refine zA ?_|refine zT ?_|refine zF ?_);conv=>whnf)
    refine ⟨_, _, hfn, ?_⟩
    (conv=>whnf);repeat((first|refine zD ?_|refine zA ?_|refine zT ?_|refine zF ?_);conv=>whnf)
    refine ⟨_, _, hs, ?_⟩
    (conv=>whnf);repeat((first|refine zD ?_|refine zA ?_|refine zT ?_|refine zF ?_);conv=>whnf)
    refine Exists.intro [] (And.intro List.nodup_nil ?_); ((conv=>whnf);repeat((first|refine zD ?_|refine zA ?_|refine zT ?_|refine zF ?_);conv=>whnf))
    rfl
set_option maxRecDepth 100000 in
set_option maxHeartbeats 16000000 in
theorem lineR_no (k n ck cb : Int) (s : ByteArray) (kp : List Int) (hfi : fineB n cb kp = true) (h1 : k ≠ 1) (h2 : k ≠ 2) (h3 : k ≠ 3) (h4 : k ≠ 4) (h5 : k ≠ 5) : Fun Tryz.prog 24 [acB k n ck cb s kp] [] (.v (strV (sS (tline ⟨k, n, ck, cb, s.data.toList, kp⟩)))) := by
  have hfn := fineF k n ck cb s kp
  rw [hfi] at hfn
  have hf : fit n = true := by
    cases h : fit n with
    | true => rfl
    | false => unfold fineB at hfi; rw [h] at hfi; cases hfi
  have e : tline ⟨k, n, ck, cb, s.data.toList, kp⟩ = [] := by
    by_cases hc : ck = 0 ∧ cb = 0 ∧ s.data.toList = []
    · obtain ⟨rfl, rfl, hd⟩ := hc
      rw [hd]
      by_cases hkp : kp = []
      · subst hkp
        rw [tline_rest hf h1 h4, if_neg h2, if_neg h3, if_neg h5]
        split <;> rfl
      · exact tline_keep h1 h4 hkp
    · exact tline_cmd h1 hc
  rw [e]
  refine fun_of_vc tabOk mixOk Tryz.func24 rfl (by rfl) (rs := [.tmp 2]) rfl rfl 101 ?_; rw [Tryz.ntmps24]
  (conv=>whnf);repeat((first|refine zD ?_|refine zA ?_|refine zT ?_|refine zF ?_);conv=>whnf)
  refine ⟨_, _, hfn, ?_⟩
  (conv=>whnf);repeat((first|refine zD ?_|refine zA ?_|refine zT ?_|refine zF ?_);conv=>whnf)
  refine And.intro (fun h => absurd (by simpa using h) h2) (fun _ => ?_)
  (conv=>whnf);repeat((first|refine zD ?_|refine zA ?_|refine zT ?_|refine zF ?_);conv=>whnf)
  refine And.intro (fun h => absurd (by simpa using h) h3) (fun _ => ?_)
  (conv=>whnf);repeat((first|refine zD ?_|refine zA ?_|refine zT ?_|refine zF ?_);conv=>whnf)
  refine And.intro (fun h => absurd (by simpa using h) h5) (fun _ => ?_)
  (conv=>whnf);repeat((first|refine zD ?_|refine zA ?_|refine zT ?_|refine zF ?_);conv=>whnf)
  refine And.intro (fun h => absurd (by simpa using h) h4) (fun _ => ?_)
  (conv=>whnf);repeat((first|refine zD ?_|refine zA ?_|refine zT ?_|refine zF ?_);conv=>whnf)
  refine And.intro (fun h => absurd (by simpa using h) h1) (fun _ => ?_)
  (conv=>whnf);repeat((first|refine zD ?_|refine zA ?_|refine zT ?_|refine zF ?_);conv=>whnf)
  refine Exists.intro [] (And.intro List.nodup_nil ?_); ((conv=>whnf);repeat((first|refine zD ?_|refine zA ?_|refine zT ?_|refine zF ?_);conv=>whnf))
  rfl
theorem lineRB (k n ck cb : Int) (s : ByteArray) (kp : List Int) (hk : kp.length ≤ 1000000) : Fun Tryz.prog 24 [acB k n ck cb s kp] [] (.v (strV (sS (tline ⟨k, n, ck, cb, s.data.toList, kp⟩)))) := by
  cases hfi : fineB n cb kp with
  | false =>
    have hfn := fineF k n ck cb s kp
    rw [hfi] at hfn
    rw [tline_notfine hfi]
    refine fun_of_vc tabOk mixOk Tryz.func24 rfl (by rfl) (rs := [.tmp 2]) rfl rfl 101 ?_; rw [Tryz.ntmps24]
    (conv=>whnf);repeat((first|refine zD ?_|refine zA ?_|refine zT ?_|refine zF ?_);conv=>whnf)
    refine ⟨_, _, hfn, ?_⟩
    (conv=>whnf);repeat((first|refine zD ?_|refine zA ?_|refine zT ?_|refine zF ?_);conv=>whnf)
    refine Exists.intro [] (And.intro List.nodup_nil ?_); ((conv=>whnf);repeat((first|refine zD ?_|refine zA ?_|refine zT ?_|refine zF ?_);conv=>whnf))
    rfl
  | true =>
    by_cases h1 : k = 1
    · subst h1; exact lineR_1 n ck cb s kp hfi
    by_cases h2 : k = 2
    · subst h2; exact lineR_2 n ck cb s kp hk hfi
    by_cases h3 : k = 3
    · subst h3; exact lineR_3 n ck cb s kp hk hfi
    by_cases h4 : k = 4
    · subst h4; exact lineR_4 n ck cb s kp hk hfi
    by_cases h5 : k = 5
    · subst h5; exact lineR_5 n ck cb s kp hk hfi
    exact lineR_no k n ck cb s kp hfi h1 h2 h3 h4 h5
theorem lineR (a : Ac) (hk : a.kp.length ≤ 1000000) : Fun Tryz.prog 24 [acV a] [] (.v (strV (sS (tline a)))) := lineRB a.k a.n a.ck a.cb (sS a.cd) a.kp hk
end Go.Proofs.YtikchieadclbhaaGreatDoor.Ab
namespace Go.Proofs.YtikchieadclbhaaGreatDoor.Ab
set_option linter.unusedVariables false
set_option linter.unusedSimpArgs false
open Go.RowKit

def bE : ByteArray := ⟨#[]⟩
theorem readEnvR (s : ByteArray) (c : Ac) (hc : rcand s.data.toList = c) (hk : c.k ≠ 0) (hl : c.kp.length ≤ 1000000) : ∃ L : ByteArray, Fun Tryz.prog 24 [acV c] [] (.v (strV L)) ∧
    ((!(L.toList == s.toList)) = true → rread s.data.toList = (ac0, 18)) ∧
    ((!(L.toList == s.toList)) = false → rread s.data.toList = (c, 0)) := by
  refine ⟨sS (tline c), lineR c hl, fun h => ?_, fun h2 => ?_⟩
  · have h : ¬ tline c = s.data.toList := by
      rw [toList_eq, toList_eq] at h
      simpa [sL, sS] using h
    unfold rread
    rw [hc, if_neg (fun g => h g.2)]
  · have h2 : tline c = s.data.toList := by
      rw [toList_eq, toList_eq] at h2
      simpa [sL, sS] using h2
    unfold rread
    rw [hc, if_pos ⟨hk, h2⟩]
theorem rcand_pcs (s : ByteArray) {ws : List ByteArray} (h : pcs 32 s = ws) : rcand s.data.toList = rcandW (ws.map (·.data.toList)) := by
  unfold rcand
  rw [← pcs_spl, h]
/-- The words, and nothing behind them. -/
def lk (ws : List ByteArray) (k : Nat) : ByteArray := (ws ++ [bE, bE, bE]).getD k bE
theorem lk_at {ws : List ByteArray} {k : Nat} (h : k < ws.length + 3) : (sV ws ++ sV [bE, bE, bE])[k]? = some [.sc (.string (lk ws k))] := by
  have h2 : k < (ws ++ [bE, bE, bE]).length := by simp; omega
  rw [sApp]
  unfold lk
  rw [List.getD_eq_getElem?_getD, List.getElem?_eq_getElem h2]
  simp only [sV, List.getElem?_map, List.getElem?_eq_getElem h2]
  rfl
theorem lk_data (ws : List ByteArray) (k : Nat) : (lk ws k).data.toList = (ws.map (·.data.toList)).getD k [] := by
  unfold lk
  rw [List.getD_eq_getElem?_getD, List.getD_eq_getElem?_getD, List.getElem?_map]
  by_cases h : k < ws.length
  · rw [List.getElem?_append_left h, List.getElem?_eq_getElem h]; rfl
  · have h1 : ws[k]? = none := List.getElem?_eq_none (by omega)
    have h2 : ∀ j : Nat, (List.cons bE (List.cons bE (List.cons bE List.nil)))[j]?.getD bE = bE
      | 0 => rfl
      | 1 => rfl
      | 2 => rfl
      | _ + 3 => rfl
    rw [List.getElem?_append_right (by omega), h1, h2]
    rfl
theorem lt_of_get {α : Type} {l : List α} {k : Nat} {x : α} (h : l[k]? = some x) : k < l.length := (List.getElem?_eq_some_iff.1 h).1
theorem lk_size {s : ByteArray} (k : Nat) : (lk (pcs 32 s) k).size ≤ s.size := by
  unfold lk
  rw [List.getD_eq_getElem?_getD]
  cases h : (pcs 32 s ++ [bE, bE, bE])[k]? with
  | none => exact Nat.zero_le _
  | some w =>
    rcases List.mem_append.1 (List.mem_of_getElem? h) with g | g
    · exact pcs_mem g
    · have : w = bE := by simpa using g
      subst this
      exact Nat.zero_le _
/-- What the walk leans on. -/
theorem wordsEnvR (s : ByteArray) (hs : s.size ≤ 1000000) (w : ByteArray) (r : List ByteArray) (hw : pcs 32 s = w :: r) : ∃ (ws : List ByteArray) (l1 l2 l3 : ByteArray),
    Fun Tryz.prog 47 [strV s, .c (.i (.sc (.int .u8 32)))] [.row 0 9 1 (sV ws)] (.v (.c (.own 0 0))) ∧
    (sV ws ++ sV [bE, bE, bE])[Int.toNat 0]? = some [.sc (.string w)] ∧ (sV ws ++ sV [bE, bE, bE])[Int.toNat 1]? = some [.sc (.string l1)] ∧
    (sV ws ++ sV [bE, bE, bE])[Int.toNat 2]? = some [.sc (.string l2)] ∧ (sV ws ++ sV [bE, bE, bE])[Int.toNat 3]? = some [.sc (.string l3)] ∧
    (sV ws).length + (sV [bE, bE, bE]).length ≤ 2000000 ∧ l1.size ≤ s.size ∧ l3.size ≤ 1000000 ∧
    ((w :: r).map (·.data.toList)).getD 0 [] = w.data.toList ∧ ((w :: r).map (·.data.toList)).getD 1 [] = l1.data.toList ∧ ((w :: r).map (·.data.toList)).getD 2 [] = l2.data.toList ∧ ((w :: r).map (·.data.toList)).getD 3 [] = l3.data.toList := by
  have hl := pcs_len 32 s
  refine ⟨w :: r, lk (w :: r) 1, lk (w :: r) 2, lk (w :: r) 3, hw ▸ cutF 32 s hs, ?_, lk_at (k := 1) (by rw [List.length_cons]; omega), lk_at (k := 2) (by rw [List.length_cons]; omega), lk_at (k := 3) (by rw [List.length_cons]; omega), ?_, ?_, ?_, rfl, (lk_data _ _).symm, (lk_data _ _).symm, (lk_data _ _).symm⟩
  · exact lk_at (k := 0) (by simp)
  · rw [hw] at hl
    rw [sLen, sLen]
    simp only [List.length_cons, List.length_nil] at hl ⊢
    omega
  · rw [← hw]; exact lk_size 1
  · rw [← hw]; exact Nat.le_trans (lk_size 3) hs
set_option maxRecDepth 100000 in
set_option maxHeartbeats 16000000 in
theorem rr_step (s : ByteArray) (r : List ByteArray) (hs : s.size ≤ 1000000) (hw : pcs 32 s = bStep :: r) : Fun Tryz.prog 49 [strV s] [] (.tup [acV (rread s.data.toList).1, i64V (rread s.data.toList).2]) := by
  obtain ⟨ws, l1, l2, l3, hcut, i0, i1, i2, i3, hlen, hs1, hs3, d0, d1, d2, d3⟩ := wordsEnvR s hs _ _ hw
  have hn := numR l1
  obtain ⟨L, hL, e1, e2⟩ := readEnvR s ⟨2, rnum l1.data.toList, 0, 0, [], []⟩ (by rw [rcand_pcs s hw]; unfold rcandW; rw [d0, d1]; rfl) (show (2 : Int) ≠ 0 by decide) (Nat.zero_le _)
  generalize rread s.data.toList = R at e1 e2 ⊢
  clear hw d0 d1 d2 d3
  have hb := bytes_le (b := 16) (by decide) hlen
  refine fun_of_vc tabOk mixOk Tryz.func49 rfl (by rfl) (rs := [.cell 2 41, .tmp 3]) rfl rfl 111 ?_; rw [Tryz.ntmps49]
  (conv=>whnf);repeat((first|refine zD ?_|refine zA ?_|refine zT ?_|refine zF ?_);conv=>whnf)
  refine ⟨_, _, hcut, ?_⟩
  (conv=>whnf);repeat((first|refine zD ?_|refine zA ?_|refine zT ?_|refine zF ?_);conv=>whnf)
  refine ⟨sSz [bE, bE, bE], ?_⟩
  (conv=>whnf);repeat((first|refine zD ?_|refine zA ?_|refine zT ?_|refine zF ?_);conv=>whnf)
  refine ⟨hb, ?_⟩
  (conv=>whnf);repeat((first|refine zD ?_|refine zA ?_|refine zT ?_|refine zF ?_);conv=>whnf)
  refine ⟨by decide, lt_of_get i0, ?_⟩
  (conv=>whnf);repeat((first|refine zD ?_|refine zA ?_|refine zT ?_|refine zF ?_);conv=>whnf)
  refine ⟨_, i0, ?_⟩
  (conv=>whnf);repeat((first|refine zD ?_|refine zA ?_|refine zT ?_|refine zF ?_);conv=>whnf)
  refine And.intro (fun _ => ?_) (fun h => absurd h (by rw [eqS]; decide))
  (conv=>whnf);repeat((first|refine zD ?_|refine zA ?_|refine zT ?_|refine zF ?_);conv=>whnf)
  refine ⟨by decide, lt_of_get i1, ?_⟩
  (conv=>whnf);repeat((first|refine zD ?_|refine zA ?_|refine zT ?_|refine zF ?_);conv=>whnf)
  refine ⟨_, i1, ?_⟩
  (conv=>whnf);repeat((first|refine zD ?_|refine zA ?_|refine zT ?_|refine zF ?_);conv=>whnf)
  refine ⟨_, _, hn, ?_⟩
  (conv=>whnf);repeat((first|refine zD ?_|refine zA ?_|refine zT ?_|refine zF ?_);conv=>whnf)
  refine ⟨_, _, hL, ?_⟩
  (conv=>whnf);repeat((first|refine zD ?_|refine zA ?_|refine zT ?_|refine zF ?_);conv=>whnf)
  refine And.intro (fun h2 => ?_) (fun h2 => ?_)
  · (conv=>whnf);repeat((first|refine zD ?_|refine zA ?_|refine zT ?_|refine zF ?_);conv=>whnf)
    refine Exists.intro [] (And.intro List.nodup_nil ?_); ((conv=>whnf);repeat((first|refine zD ?_|refine zA ?_|refine zT ?_|refine zF ?_);conv=>whnf))
    rw [e1 h2]
    rfl
  · (conv=>whnf);repeat((first|refine zD ?_|refine zA ?_|refine zT ?_|refine zF ?_);conv=>whnf)
    refine Exists.intro [] (And.intro List.nodup_nil ?_); ((conv=>whnf);repeat((first|refine zD ?_|refine zA ?_|refine zT ?_|refine zF ?_);conv=>whnf))
    rw [e2 h2]
    rfl
set_option maxRecDepth 100000 in
set_option maxHeartbeats 16000000 in
theorem rr_save (s : ByteArray) (r : List ByteArray) (hs : s.size ≤ 1000000) (hw : pcs 32 s = bSave :: r) : Fun Tryz.prog 49 [strV s] [] (.tup [acV (rread s.data.toList).1, i64V (rread s.data.toList).2]) := by
  obtain ⟨ws, l1, l2, l3, hcut, i0, i1, i2, i3, hlen, hs1, hs3, d0, d1, d2, d3⟩ := wordsEnvR s hs _ _ hw
  obtain ⟨L, hL, e1, e2⟩ := readEnvR s ⟨3, 0, 0, 0, [], []⟩ (by rw [rcand_pcs s hw]; unfold rcandW; rw [d0, d1]; rfl) (show (3 : Int) ≠ 0 by decide) (Nat.zero_le _)
  generalize rread s.data.toList = R at e1 e2 ⊢
  clear hw d0 d1 d2 d3
  have hb := bytes_le (b := 16) (by decide) hlen
  refine fun_of_vc tabOk mixOk Tryz.func49 rfl (by rfl) (rs := [.cell 2 41, .tmp 3]) rfl rfl 111 ?_; rw [Tryz.ntmps49]
  (conv=>whnf);repeat((first|refine zD ?_|refine zA ?_|refine zT ?_|refine zF ?_);conv=>whnf)
  refine ⟨_, _, hcut, ?_⟩
  (conv=>whnf);repeat((first|refine zD ?_|refine zA ?_|refine zT ?_|refine zF ?_);conv=>whnf)
  refine ⟨sSz [bE, bE, bE], ?_⟩
  (conv=>whnf);repeat((first|refine zD ?_|refine zA ?_|refine zT ?_|refine zF ?_);conv=>whnf)
  refine ⟨hb, ?_⟩
  (conv=>whnf);repeat((first|refine zD ?_|refine zA ?_|refine zT ?_|refine zF ?_);conv=>whnf)
  refine ⟨by decide, lt_of_get i0, ?_⟩
  (conv=>whnf);repeat((first|refine zD ?_|refine zA ?_|refine zT ?_|refine zF ?_);conv=>whnf)
  refine ⟨_, i0, ?_⟩
  (conv=>whnf);repeat((first|refine zD ?_|refine zA ?_|refine zT ?_|refine zF ?_);conv=>whnf)
  refine And.intro (fun h => absurd h (by rw [eqS]; decide)) (fun _ => ?_)
  (conv=>whnf);repeat((first|refine zD ?_|refine zA ?_|refine zT ?_|refine zF ?_);conv=>whnf)
  refine And.intro (fun _ => ?_) (fun h => absurd h (by rw [eqS]; decide))
  (conv=>whnf);repeat((first|refine zD ?_|refine zA ?_|refine zT ?_|refine zF ?_);conv=>whnf)
  refine ⟨_, _, hL, ?_⟩
  (conv=>whnf);repeat((first|refine zD ?_|refine zA ?_|refine zT ?_|refine zF ?_);conv=>whnf)
  refine And.intro (fun h2 => ?_) (fun h2 => ?_)
  · (conv=>whnf);repeat((first|refine zD ?_|refine zA ?_|refine zT ?_|refine zF ?_);conv=>whnf)
    refine Exists.intro [] (And.intro List.nodup_nil ?_); ((conv=>whnf);repeat((first|refine zD ?_|refine zA ?_|refine zT ?_|refine zF ?_);conv=>whnf))
    rw [e1 h2]
    rfl
  · (conv=>whnf);repeat((first|refine zD ?_|refine zA ?_|refine zT ?_|refine zF ?_);conv=>whnf)
    refine Exists.intro [] (And.intro List.nodup_nil ?_); ((conv=>whnf);repeat((first|refine zD ?_|refine zA ?_|refine zT ?_|refine zF ?_);conv=>whnf))
    rw [e2 h2]
    rfl
set_option maxRecDepth 100000 in
set_option maxHeartbeats 16000000 in
theorem rr_close (s : ByteArray) (r : List ByteArray) (hs : s.size ≤ 1000000) (hw : pcs 32 s = bClose :: r) : Fun Tryz.prog 49 [strV s] [] (.tup [acV (rread s.data.toList).1, i64V (rread s.data.toList).2]) := by
  obtain ⟨ws, l1, l2, l3, hcut, i0, i1, i2, i3, hlen, hs1, hs3, d0, d1, d2, d3⟩ := wordsEnvR s hs _ _ hw
  obtain ⟨L, hL, e1, e2⟩ := readEnvR s ⟨5, 0, 0, 0, [], []⟩ (by rw [rcand_pcs s hw]; unfold rcandW; rw [d0, d1]; rfl) (show (5 : Int) ≠ 0 by decide) (Nat.zero_le _)
  generalize rread s.data.toList = R at e1 e2 ⊢
  clear hw d0 d1 d2 d3
  have hb := bytes_le (b := 16) (by decide) hlen
  refine fun_of_vc tabOk mixOk Tryz.func49 rfl (by rfl) (rs := [.cell 2 41, .tmp 3]) rfl rfl 111 ?_; rw [Tryz.ntmps49]
  (conv=>whnf);repeat((first|refine zD ?_|refine zA ?_|refine zT ?_|refine zF ?_);conv=>whnf)
  refine ⟨_, _, hcut, ?_⟩
  (conv=>whnf);repeat((first|refine zD ?_|refine zA ?_|refine zT ?_|refine zF ?_);conv=>whnf)
  refine ⟨sSz [bE, bE, bE], ?_⟩
  (conv=>whnf);repeat((first|refine zD ?_|refine zA ?_|refine zT ?_|refine zF ?_);conv=>whnf)
  refine ⟨hb, ?_⟩
  (conv=>whnf);repeat((first|refine zD ?_|refine zA ?_|refine zT ?_|refine zF ?_);conv=>whnf)
  refine ⟨by decide, lt_of_get i0, ?_⟩
  (conv=>whnf);repeat((first|refine zD ?_|refine zA ?_|refine zT ?_|refine zF ?_);conv=>whnf)
  refine ⟨_, i0, ?_⟩
  (conv=>whnf);repeat((first|refine zD ?_|refine zA ?_|refine zT ?_|refine zF ?_);conv=>whnf)
  refine And.intro (fun h => absurd h (by rw [eqS]; decide)) (fun _ => ?_)
  (conv=>whnf);repeat((first|refine zD ?_|refine zA ?_|refine zT ?_|refine zF ?_);conv=>whnf)
  refine And.intro (fun h => absurd h (by rw [eqS]; decide)) (fun _ => ?_)
  (conv=>whnf);repeat((first|refine zD ?_|refine zA ?_|refine zT ?_|refine zF ?_);conv=>whnf)
  refine And.intro (fun _ => ?_) (fun h => absurd h (by rw [eqS]; decide))
  (conv=>whnf);repeat((first|refine zD ?_|refine zA ?_|refine zT ?_|refine zF ?_);conv=>whnf)
  refine ⟨_, _, hL, ?_⟩
  (conv=>whnf);repeat((first|refine zD ?_|refine zA ?_|refine zT ?_|refine zF ?_);conv=>whnf)
  refine And.intro (fun h2 => ?_) (fun h2 => ?_)
  · (conv=>whnf);repeat((first|refine zD ?_|refine zA ?_|refine zT ?_|refine zF ?_);conv=>whnf)
    refine Exists.intro [] (And.intro List.nodup_nil ?_); ((conv=>whnf);repeat((first|refine zD ?_|refine zA ?_|refine zT ?_|refine zF ?_);conv=>whnf))
    rw [e1 h2]
    rfl
  · (conv=>whnf);repeat((first|refine zD ?_|refine zA ?_|refine zT ?_|refine zF ?_);conv=>whnf)
    refine Exists.intro [] (And.intro List.nodup_nil ?_); ((conv=>whnf);repeat((first|refine zD ?_|refine zA ?_|refine zT ?_|refine zF ?_);conv=>whnf))
    rw [e2 h2]
    rfl
set_option maxRecDepth 100000 in
set_option maxHeartbeats 16000000 in
theorem rr_crash0 (s : ByteArray) (r : List ByteArray) (h1 : ((bCrash :: r).map (·.data.toList)).getD 1 [] = []) (hs : s.size ≤ 1000000) (hw : pcs 32 s = bCrash :: r) : Fun Tryz.prog 49 [strV s] [] (.tup [acV (rread s.data.toList).1, i64V (rread s.data.toList).2]) := by
  obtain ⟨ws, l1, l2, l3, hcut, i0, i1, i2, i3, hlen, hs1, hs3, d0, d1, d2, d3⟩ := wordsEnvR s hs _ _ hw
  have l1e : l1.data.toList = [] := d1.symm.trans h1
  have l1q : (l1.toList == (⟨#[]⟩ : ByteArray).toList) = true := by rw [eqS]; exact decide_eq_true l1e
  clear h1
  obtain ⟨L, hL, e1, e2⟩ := readEnvR s ⟨4, 0, 0, 0, [], []⟩ (by rw [rcand_pcs s hw]; unfold rcandW; rw [d0, d1]; rw [if_neg (by decide), if_neg (by decide), if_neg (by decide), if_pos (by decide), if_pos l1e]) (show (4 : Int) ≠ 0 by decide) (Nat.zero_le _)
  generalize rread s.data.toList = R at e1 e2 ⊢
  clear hw d0 d1 d2 d3
  have hb := bytes_le (b := 16) (by decide) hlen
  refine fun_of_vc tabOk mixOk Tryz.func49 rfl (by rfl) (rs := [.cell 2 41, .tmp 3]) rfl rfl 111 ?_; rw [Tryz.ntmps49]
  (conv=>whnf);repeat((first|refine zD ?_|refine zA ?_|refine zT ?_|refine zF ?_);conv=>whnf)
  refine ⟨_, _, hcut, ?_⟩
  (conv=>whnf);repeat((first|refine zD ?_|refine zA ?_|refine zT ?_|refine zF ?_);conv=>whnf)
  refine ⟨sSz [bE, bE, bE], ?_⟩
  (conv=>whnf);repeat((first|refine zD ?_|refine zA ?_|refine zT ?_|refine zF ?_);conv=>whnf)
  refine ⟨hb, ?_⟩
  (conv=>whnf);repeat((first|refine zD ?_|refine zA ?_|refine zT ?_|refine zF ?_);conv=>whnf)
  refine ⟨by decide, lt_of_get i0, ?_⟩
  (conv=>whnf);repeat((first|refine zD ?_|refine zA ?_|refine zT ?_|refine zF ?_);conv=>whnf)
  refine ⟨_, i0, ?_⟩
  (conv=>whnf);repeat((first|refine zD ?_|refine zA ?_|refine zT ?_|refine zF ?_);conv=>whnf)
  refine And.intro (fun h => absurd h (by rw [eqS]; decide)) (fun _ => ?_)
  (conv=>whnf);repeat((first|refine zD ?_|refine zA ?_|refine zT ?_|refine zF ?_);conv=>whnf)
  refine And.intro (fun h => absurd h (by rw [eqS]; decide)) (fun _ => ?_)
  (conv=>whnf);repeat((first|refine zD ?_|refine zA ?_|refine zT ?_|refine zF ?_);conv=>whnf)
  refine And.intro (fun h => absurd h (by rw [eqS]; decide)) (fun _ => ?_)
  (conv=>whnf);repeat((first|refine zD ?_|refine zA ?_|refine zT ?_|refine zF ?_);conv=>whnf)
  refine And.intro (fun _ => ?_) (fun h => absurd h (by rw [eqS]; decide))
  (conv=>whnf);repeat((first|refine zD ?_|refine zA ?_|refine zT ?_|refine zF ?_);conv=>whnf)
  refine ⟨by decide, lt_of_get i1, ?_⟩
  (conv=>whnf);repeat((first|refine zD ?_|refine zA ?_|refine zT ?_|refine zF ?_);conv=>whnf)
  refine ⟨_, i1, ?_⟩
  (conv=>whnf);repeat((first|refine zD ?_|refine zA ?_|refine zT ?_|refine zF ?_);conv=>whnf)
  refine And.intro (fun h => absurd h (by rw [l1q]; decide)) (fun _ => ?_)
  (conv=>whnf);repeat((first|refine zD ?_|refine zA ?_|refine zT ?_|refine zF ?_);conv=>whnf)
  refine ⟨_, _, hL, ?_⟩
  (conv=>whnf);repeat((first|refine zD ?_|refine zA ?_|refine zT ?_|refine zF ?_);conv=>whnf)
  refine And.intro (fun h2 => ?_) (fun h2 => ?_)
  · (conv=>whnf);repeat((first|refine zD ?_|refine zA ?_|refine zT ?_|refine zF ?_);conv=>whnf)
    refine Exists.intro [] (And.intro List.nodup_nil ?_); ((conv=>whnf);repeat((first|refine zD ?_|refine zA ?_|refine zT ?_|refine zF ?_);conv=>whnf))
    rw [e1 h2]
    rfl
  · (conv=>whnf);repeat((first|refine zD ?_|refine zA ?_|refine zT ?_|refine zF ?_);conv=>whnf)
    refine Exists.intro [] (And.intro List.nodup_nil ?_); ((conv=>whnf);repeat((first|refine zD ?_|refine zA ?_|refine zT ?_|refine zF ?_);conv=>whnf))
    rw [e2 h2]
    rfl
set_option maxRecDepth 100000 in
set_option maxHeartbeats 16000000 in
theorem rr_crash1 (s : ByteArray) (r : List ByteArray) (h1 : ¬ ((bCrash :: r).map (·.data.toList)).getD 1 [] = []) (hs : s.size ≤ 900000) (hw : pcs 32 s = bCrash :: r) : Fun Tryz.prog 49 [strV s] [] (.tup [acV (rread s.data.toList).1, i64V (rread s.data.toList).2]) := by
  obtain ⟨ws, l1, l2, l3, hcut, i0, i1, i2, i3, hlen, hs1, hs3, d0, d1, d2, d3⟩ := wordsEnvR s (Nat.le_trans hs (by decide)) _ _ hw
  have l1e : ¬ l1.data.toList = [] := fun e => h1 (d1.trans e)
  have l1q : (l1.toList == (⟨#[]⟩ : ByteArray).toList) = false := by rw [eqS]; exact decide_eq_false l1e
  clear h1
  have hl1 : l1.size ≤ s.size := hs1
  have hpl := pcs_len 44 l1
  have hc2 := cutF 44 l1 (by omega)
  have hpm : ((spl 44 l1.data.toList).map rnum).length ≤ 1000000 := by rw [← pcs_spl, List.map_map, List.length_map]; omega
  obtain ⟨L, hL, e1, e2⟩ := readEnvR s ⟨4, 0, 0, 0, [], (spl 44 l1.data.toList).map rnum⟩ (by rw [rcand_pcs s hw]; unfold rcandW; rw [d0, d1]; rw [if_neg (by decide), if_neg (by decide), if_neg (by decide), if_pos (by decide), if_neg l1e]) (show (4 : Int) ≠ 0 by decide) hpm
  generalize rread s.data.toList = R at e1 e2 ⊢
  rw [← pcs_spl, List.map_map] at hL e2
  generalize pcs 44 l1 = ps at hpl hc2 hL e2
  clear hw d0 d1 d2 d3
  have hb := bytes_le (b := 16) (by decide) hlen
  refine fun_of_vc tabOk mixOk Tryz.func49 rfl (by rfl) (rs := [.cell 2 41, .tmp 3]) rfl rfl 111 ?_; rw [Tryz.ntmps49]
  (conv=>whnf);repeat((first|refine zD ?_|refine zA ?_|refine zT ?_|refine zF ?_);conv=>whnf)
  refine ⟨_, _, hcut, ?_⟩
  (conv=>whnf);repeat((first|refine zD ?_|refine zA ?_|refine zT ?_|refine zF ?_);conv=>whnf)
  refine ⟨sSz [bE, bE, bE], ?_⟩
  (conv=>whnf);repeat((first|refine zD ?_|refine zA ?_|refine zT ?_|refine zF ?_);conv=>whnf)
  refine ⟨hb, ?_⟩
  (conv=>whnf);repeat((first|refine zD ?_|refine zA ?_|refine zT ?_|refine zF ?_);conv=>whnf)
  refine ⟨by decide, lt_of_get i0, ?_⟩
  (conv=>whnf);repeat((first|refine zD ?_|refine zA ?_|refine zT ?_|refine zF ?_);conv=>whnf)
  refine ⟨_, i0, ?_⟩
  (conv=>whnf);repeat((first|refine zD ?_|refine zA ?_|refine zT ?_|refine zF ?_);conv=>whnf)
  refine And.intro (fun h => absurd h (by rw [eqS]; decide)) (fun _ => ?_)
  (conv=>whnf);repeat((first|refine zD ?_|refine zA ?_|refine zT ?_|refine zF ?_);conv=>whnf)
  refine And.intro (fun h => absurd h (by rw [eqS]; decide)) (fun _ => ?_)
  (conv=>whnf);repeat((first|refine zD ?_|refine zA ?_|refine zT ?_|refine zF ?_);conv=>whnf)
  refine And.intro (fun h => absurd h (by rw [eqS]; decide)) (fun _ => ?_)
  (conv=>whnf);repeat((first|refine zD ?_|refine zA ?_|refine zT ?_|refine zF ?_);conv=>whnf)
  refine And.intro (fun _ => ?_) (fun h => absurd h (by rw [eqS]; decide))
  (conv=>whnf);repeat((first|refine zD ?_|refine zA ?_|refine zT ?_|refine zF ?_);conv=>whnf)
  refine ⟨by decide, lt_of_get i1, ?_⟩
  (conv=>whnf);repeat((first|refine zD ?_|refine zA ?_|refine zT ?_|refine zF ?_);conv=>whnf)
  refine ⟨_, i1, ?_⟩
  (conv=>whnf);repeat((first|refine zD ?_|refine zA ?_|refine zT ?_|refine zF ?_);conv=>whnf)
  refine And.intro (fun _ => ?_) (fun h => absurd h (by rw [l1q]; decide))
  (conv=>whnf);repeat((first|refine zD ?_|refine zA ?_|refine zT ?_|refine zF ?_);conv=>whnf)
  refine ⟨by decide, lt_of_get i1, ?_⟩
  (conv=>whnf);repeat((first|refine zD ?_|refine zA ?_|refine zT ?_|refine zF ?_);conv=>whnf)
  refine ⟨_, i1, ?_⟩
  (conv=>whnf);repeat((first|refine zD ?_|refine zA ?_|refine zT ?_|refine zF ?_);conv=>whnf)
  refine ⟨_, _, hc2, ?_⟩
  (conv=>whnf);repeat((first|refine zD ?_|refine zA ?_|refine zT ?_|refine zF ?_);conv=>whnf)
  refine vc_loop [0, 2, 5] [2] (X := Nat) (fun i gs => [(7, ATint i), (6, .v (.c (.own 40 (gs 40))))]) (fun i gs => [(5, .var 1 [.i (.sc (.int .i64 4)), .i (.sc (.int .i64 0)), .i (.sc (.int .i64 0)), .i (.sc (.int .i64 0)), .i (.sc (.string ByteArray.empty)), .own 55 (gs 55)]), (40, .row (gs 40) 9 1 (sV ps)), (55, .row (gs 55) 3 1 (wV ((ps.take i).map (rnum ∘ fun x => x.data.toList))))]) (fun i => i ≤ ps.length) (fun i => ps.length - i) _ (Ghost.ownNilV 5 5 55 3 1 1 _ rfl rfl (Nat.le_of_ble_eq_true rfl) (by decide)) 0 (Nat.zero_le _) ?_ ?_
  · (refine zA (zA ?_));(repeat' (first|exact trivial|with_reducible exact cvB_refl _|exact rfl|apply And.intro))
  intro gs i hi
  have hi : i ≤ ps.length := hi
  (conv=>whnf);repeat((first|refine zD ?_|refine zA ?_|refine zT ?_|refine zF ?_);conv=>whnf)
  refine And.intro (fun h => ?_) (fun h => ?_)
  · have hlt : i < ps.length := by simpa [sV] using h
    have hn := numR ps[i]
    have htk := take_snoc hlt
    (conv=>whnf);repeat((first|refine zD ?_|refine zA ?_|refine zT ?_|refine zF ?_);conv=>whnf)
    refine ⟨by omega, lt_of_get (sItem hlt), ?_⟩
    (conv=>whnf);repeat((first|refine zD ?_|refine zA ?_|refine zT ?_|refine zF ?_);conv=>whnf)
    refine ⟨_, sItem hlt, ?_⟩
    (conv=>whnf);repeat((first|refine zD ?_|refine zA ?_|refine zT ?_|refine zF ?_);conv=>whnf)
    refine ⟨_, _, hn, ?_⟩
    (conv=>whnf);repeat((first|refine zD ?_|refine zA ?_|refine zT ?_|refine zF ?_);conv=>whnf)
    refine ⟨wSz [rnum ps[i].data.toList], ?_⟩
    (conv=>whnf);repeat((first|refine zD ?_|refine zA ?_|refine zT ?_|refine zF ?_);conv=>whnf)
    refine ⟨bytes_le (by decide) (by simp [wV]; omega), ?_⟩
    (conv=>whnf);repeat((first|refine zD ?_|refine zA ?_|refine zT ?_|refine zF ?_);conv=>whnf)
    refine again (i + 1) hlt (Nat.sub_lt_sub_left hlt (Nat.lt_succ_self i)) ?_
    (refine zA (zA ?_));(repeat' (first|exact trivial|with_reducible exact cvB_refl _|exact rfl|apply And.intro))
    all_goals first
      | exact congrArg (Value.int .i64) (w64_nat (by omega))
      | exact congrArg (Blk.row _ _ _) (by rw [htk, List.map_append]; simp [wV]; rfl)
  obtain rfl : i = ps.length := by
    have : ¬ i < ps.length := by simpa [sV] using h
    omega
  rw [List.take_length]
  clear hc2
  generalize ps.map (rnum ∘ fun x => x.data.toList) = kp at hL e2 ⊢
  (conv=>whnf);repeat((first|refine zD ?_|refine zA ?_|refine zT ?_|refine zF ?_);conv=>whnf)
  refine ⟨_, _, hL, ?_⟩
  (conv=>whnf);repeat((first|refine zD ?_|refine zA ?_|refine zT ?_|refine zF ?_);conv=>whnf)
  refine And.intro (fun h2 => ?_) (fun h2 => ?_)
  · (conv=>whnf);repeat((first|refine zD ?_|refine zA ?_|refine zT ?_|refine zF ?_);conv=>whnf)
    refine Exists.intro [] (And.intro List.nodup_nil ?_); ((conv=>whnf);repeat((first|refine zD ?_|refine zA ?_|refine zT ?_|refine zF ?_);conv=>whnf))
    rw [e1 h2]
    rfl
  · (conv=>whnf);repeat((first|refine zD ?_|refine zA ?_|refine zT ?_|refine zF ?_);conv=>whnf)
    refine Exists.intro [] (And.intro List.nodup_nil ?_); ((conv=>whnf);repeat((first|refine zD ?_|refine zA ?_|refine zT ?_|refine zF ?_);conv=>whnf))
    rw [e2 h2]
    rfl
set_option maxRecDepth 100000 in
set_option maxHeartbeats 16000000 in
theorem rr_bRead (s : ByteArray) (r : List ByteArray) (hs : s.size ≤ 1000000) (hw : pcs 32 s = bRead :: r) : Fun Tryz.prog 49 [strV s] [] (.tup [acV (rread s.data.toList).1, i64V (rread s.data.toList).2]) := by
  obtain ⟨ws, l1, l2, l3, hcut, i0, i1, i2, i3, hlen, hs1, hs3, d0, d1, d2, d3⟩ := wordsEnvR s hs _ _ hw
  have hK : ∀ k : Nat, 1 ≤ k → k ≤ 4 → ((knd k).toList == bRead.toList) = decide (k = 1) := fun k h1 h4 => by
    rw [eqS]
    have : k = 1 ∨ k = 2 ∨ k = 3 ∨ k = 4 := by omega
    rcases this with rfl | rfl | rfl | rfl <;> decide
  obtain ⟨g, g1, g2, g3, g5⟩ : ∃ g : Nat → Int, g 1 = 0 ∧ (∀ k : Nat, k = 1 → (k : Int) = g (k + 1)) ∧ (∀ k : Nat, ¬ k = 1 → g k = g (k + 1)) ∧ g 5 = 1 := by
    refine ⟨fun k => if 1 < k then 1 else 0, rfl, fun k h => by subst h; rfl, fun k h => ?_, rfl⟩
    dsimp only
    by_cases hk : 1 < k
    · rw [if_pos hk, if_pos (by omega)]
    · rw [if_neg hk, if_neg (by omega)]
  have hn1 := numR l1
  have hn2 := numR l2
  obtain ⟨L, hL, e1, e2⟩ := readEnvR s ⟨1, rnum l1.data.toList, 1, rnum l2.data.toList, [], []⟩ (by rw [rcand_pcs s hw]; unfold rcandW; rw [d0, d1, d2, d3]; rw [if_neg (by decide), if_neg (by decide), if_neg (by decide), if_neg (by decide), if_pos (by decide)]; rfl) (show (1 : Int) ≠ 0 by decide) (Nat.zero_le _)
  generalize rread s.data.toList = R at e1 e2 ⊢
  clear hw d0 d1 d2 d3
  have hb := bytes_le (b := 16) (by decide) hlen
  refine fun_of_vc tabOk mixOk Tryz.func49 rfl (by rfl) (rs := [.cell 2 41, .tmp 3]) rfl rfl 111 ?_; rw [Tryz.ntmps49]
  (conv=>whnf);repeat((first|refine zD ?_|refine zA ?_|refine zT ?_|refine zF ?_);conv=>whnf)
  refine ⟨_, _, hcut, ?_⟩
  (conv=>whnf);repeat((first|refine zD ?_|refine zA ?_|refine zT ?_|refine zF ?_);conv=>whnf)
  refine ⟨sSz [bE, bE, bE], ?_⟩
  (conv=>whnf);repeat((first|refine zD ?_|refine zA ?_|refine zT ?_|refine zF ?_);conv=>whnf)
  refine ⟨hb, ?_⟩
  (conv=>whnf);repeat((first|refine zD ?_|refine zA ?_|refine zT ?_|refine zF ?_);conv=>whnf)
  refine ⟨by decide, lt_of_get i0, ?_⟩
  (conv=>whnf);repeat((first|refine zD ?_|refine zA ?_|refine zT ?_|refine zF ?_);conv=>whnf)
  refine ⟨_, i0, ?_⟩
  (conv=>whnf);repeat((first|refine zD ?_|refine zA ?_|refine zT ?_|refine zF ?_);conv=>whnf)
  refine And.intro (fun h => absurd h (by rw [eqS]; decide)) (fun _ => ?_)
  (conv=>whnf);repeat((first|refine zD ?_|refine zA ?_|refine zT ?_|refine zF ?_);conv=>whnf)
  refine And.intro (fun h => absurd h (by rw [eqS]; decide)) (fun _ => ?_)
  (conv=>whnf);repeat((first|refine zD ?_|refine zA ?_|refine zT ?_|refine zF ?_);conv=>whnf)
  refine And.intro (fun h => absurd h (by rw [eqS]; decide)) (fun _ => ?_)
  (conv=>whnf);repeat((first|refine zD ?_|refine zA ?_|refine zT ?_|refine zF ?_);conv=>whnf)
  refine And.intro (fun h => absurd h (by rw [eqS]; decide)) (fun _ => ?_)
  (conv=>whnf);repeat((first|refine zD ?_|refine zA ?_|refine zT ?_|refine zF ?_);conv=>whnf)
  refine And.intro (fun _ => ?_) (fun h => absurd h (by rw [eqS]; decide))
  (conv=>whnf);repeat((first|refine zD ?_|refine zA ?_|refine zT ?_|refine zF ?_);conv=>whnf)
  refine And.intro (fun _ => ?_) (fun h => absurd h (by rw [eqS]; decide))
  (conv=>whnf);repeat((first|refine zD ?_|refine zA ?_|refine zT ?_|refine zF ?_);conv=>whnf)
  refine ⟨by decide, lt_of_get i1, ?_⟩
  (conv=>whnf);repeat((first|refine zD ?_|refine zA ?_|refine zT ?_|refine zF ?_);conv=>whnf)
  refine ⟨_, i1, ?_⟩
  (conv=>whnf);repeat((first|refine zD ?_|refine zA ?_|refine zT ?_|refine zF ?_);conv=>whnf)
  refine ⟨_, _, hn1, ?_⟩
  (conv=>whnf);repeat((first|refine zD ?_|refine zA ?_|refine zT ?_|refine zF ?_);conv=>whnf)
  refine ⟨by decide, lt_of_get i2, ?_⟩
  (conv=>whnf);repeat((first|refine zD ?_|refine zA ?_|refine zT ?_|refine zF ?_);conv=>whnf)
  refine ⟨_, i2, ?_⟩
  (conv=>whnf);repeat((first|refine zD ?_|refine zA ?_|refine zT ?_|refine zF ?_);conv=>whnf)
  refine ⟨_, _, hn2, ?_⟩
  (conv=>whnf);repeat((first|refine zD ?_|refine zA ?_|refine zT ?_|refine zF ?_);conv=>whnf)
  refine vc_loop [0, 2, 5] [2] (X := Nat) (fun k gs => [(8, ATint k), (4, .v (.c (.own 10 (gs 10))))]) (fun k gs => [(5, .var 1 [.i (.sc (.int .i64 1)), .i (.sc (.int .i64 (rnum l1.data.toList))), .i (.sc (.int .i64 (g k))), .i (.sc (.int .i64 (rnum l2.data.toList))), .i (.sc (.string ByteArray.empty)), .nl]), (10, .row (gs 10) 9 1 (sV ws ++ sV [bE, bE, bE]))]) (fun k => 1 ≤ k ∧ k ≤ 5) (fun k => 5 - k) _ (Ghost.refl _) 1 (by decide) ?_ ?_
  · (refine zA (zA ?_));(repeat' (first|exact trivial|with_reducible exact cvB_refl _|exact rfl|apply And.intro))
    all_goals exact congrArg (Value.int .i64) g1.symm
  intro gs k hk
  obtain ⟨k1, k5⟩ := hk
  (conv=>whnf);repeat((first|refine zD ?_|refine zA ?_|refine zT ?_|refine zF ?_);conv=>whnf)
  refine And.intro (fun h => ?_) (fun h => ?_)
  · have hlt : k ≤ 4 := by have := of_decide_eq_true h; omega
    have hkd := kindF' k 0 ByteArray.empty
    have hkk := hK k k1 hlt
    (conv=>whnf);repeat((first|refine zD ?_|refine zA ?_|refine zT ?_|refine zF ?_);conv=>whnf)
    refine ⟨_, _, hkd, ?_⟩
    (conv=>whnf);repeat((first|refine zD ?_|refine zA ?_|refine zT ?_|refine zF ?_);conv=>whnf)
    refine ⟨by decide, lt_of_get i0, ?_⟩
    (conv=>whnf);repeat((first|refine zD ?_|refine zA ?_|refine zT ?_|refine zF ?_);conv=>whnf)
    refine ⟨_, i0, ?_⟩
    (conv=>whnf);repeat((first|refine zD ?_|refine zA ?_|refine zT ?_|refine zF ?_);conv=>whnf)
    refine And.intro (fun h => ?_) (fun h => ?_)
    · have e := g2 k (of_decide_eq_true (hkk.symm.trans h))
      (conv=>whnf);repeat((first|refine zD ?_|refine zA ?_|refine zT ?_|refine zF ?_);conv=>whnf)
      refine again (k + 1) ⟨by omega, by omega⟩ (Nat.sub_lt_sub_left (by omega) (Nat.lt_succ_self k)) ?_
      (refine zA (zA ?_));(repeat' (first|exact trivial|with_reducible exact cvB_refl _|exact rfl|apply And.intro))
      all_goals first
        | exact congrArg (Value.int .i64) (w64_nat (by omega))
        | exact congrArg (Value.int .i64) e
    · have e := g3 k (of_decide_eq_false (hkk.symm.trans h))
      (conv=>whnf);repeat((first|refine zD ?_|refine zA ?_|refine zT ?_|refine zF ?_);conv=>whnf)
      refine again (k + 1) ⟨by omega, by omega⟩ (Nat.sub_lt_sub_left (by omega) (Nat.lt_succ_self k)) ?_
      (refine zA (zA ?_));(repeat' (first|exact trivial|with_reducible exact cvB_refl _|exact rfl|apply And.intro))
      all_goals first
        | exact congrArg (Value.int .i64) (w64_nat (by omega))
        | exact congrArg (Value.int .i64) e
  obtain rfl : k = 5 := by have := of_decide_eq_false h; omega
  rw [g5]
  clear hK g1 g2 g3 g5
  (conv=>whnf);repeat((first|refine zD ?_|refine zA ?_|refine zT ?_|refine zF ?_);conv=>whnf)
  refine ⟨by decide, lt_of_get i0, ?_⟩
  (conv=>whnf);repeat((first|refine zD ?_|refine zA ?_|refine zT ?_|refine zF ?_);conv=>whnf)
  refine ⟨_, i0, ?_⟩
  (conv=>whnf);repeat((first|refine zD ?_|refine zA ?_|refine zT ?_|refine zF ?_);conv=>whnf)
  refine And.intro (fun h => absurd h (by rw [eqS]; decide)) (fun _ => ?_)
  (conv=>whnf);repeat((first|refine zD ?_|refine zA ?_|refine zT ?_|refine zF ?_);conv=>whnf)
  refine ⟨_, _, hL, ?_⟩
  (conv=>whnf);repeat((first|refine zD ?_|refine zA ?_|refine zT ?_|refine zF ?_);conv=>whnf)
  refine And.intro (fun h2 => ?_) (fun h2 => ?_)
  · (conv=>whnf);repeat((first|refine zD ?_|refine zA ?_|refine zT ?_|refine zF ?_);conv=>whnf)
    refine Exists.intro [] (And.intro List.nodup_nil ?_); ((conv=>whnf);repeat((first|refine zD ?_|refine zA ?_|refine zT ?_|refine zF ?_);conv=>whnf))
    rw [e1 h2]
    rfl
  · (conv=>whnf);repeat((first|refine zD ?_|refine zA ?_|refine zT ?_|refine zF ?_);conv=>whnf)
    refine Exists.intro [] (And.intro List.nodup_nil ?_); ((conv=>whnf);repeat((first|refine zD ?_|refine zA ?_|refine zT ?_|refine zF ?_);conv=>whnf))
    rw [e2 h2]
    rfl
set_option maxRecDepth 100000 in
set_option maxHeartbeats 16000000 in
theorem rr_bWrite (s : ByteArray) (r : List ByteArray) (hs : s.size ≤ 1000000) (hw : pcs 32 s = bWrite :: r) : Fun Tryz.prog 49 [strV s] [] (.tup [acV (rread s.data.toList).1, i64V (rread s.data.toList).2]) := by
  obtain ⟨ws, l1, l2, l3, hcut, i0, i1, i2, i3, hlen, hs1, hs3, d0, d1, d2, d3⟩ := wordsEnvR s hs _ _ hw
  have hK : ∀ k : Nat, 1 ≤ k → k ≤ 4 → ((knd k).toList == bWrite.toList) = decide (k = 2) := fun k h1 h4 => by
    rw [eqS]
    have : k = 1 ∨ k = 2 ∨ k = 3 ∨ k = 4 := by omega
    rcases this with rfl | rfl | rfl | rfl <;> decide
  obtain ⟨g, g1, g2, g3, g5⟩ : ∃ g : Nat → Int, g 1 = 0 ∧ (∀ k : Nat, k = 2 → (k : Int) = g (k + 1)) ∧ (∀ k : Nat, ¬ k = 2 → g k = g (k + 1)) ∧ g 5 = 2 := by
    refine ⟨fun k => if 2 < k then 2 else 0, rfl, fun k h => by subst h; rfl, fun k h => ?_, rfl⟩
    dsimp only
    by_cases hk : 2 < k
    · rw [if_pos hk, if_pos (by omega)]
    · rw [if_neg hk, if_neg (by omega)]
  have hn1 := numR l1
  have hn2 := numR l2
  have hby := bytesR l3 hs3
  obtain ⟨L, hL, e1, e2⟩ := readEnvR s ⟨1, rnum l1.data.toList, 2, rnum l2.data.toList, rbytes l3.data.toList, []⟩ (by rw [rcand_pcs s hw]; unfold rcandW; rw [d0, d1, d2, d3]; rw [if_neg (by decide), if_neg (by decide), if_neg (by decide), if_neg (by decide), if_pos (by decide)]; rfl) (show (1 : Int) ≠ 0 by decide) (Nat.zero_le _)
  generalize rread s.data.toList = R at e1 e2 ⊢
  clear hw d0 d1 d2 d3
  have hb := bytes_le (b := 16) (by decide) hlen
  refine fun_of_vc tabOk mixOk Tryz.func49 rfl (by rfl) (rs := [.cell 2 41, .tmp 3]) rfl rfl 111 ?_; rw [Tryz.ntmps49]
  (conv=>whnf);repeat((first|refine zD ?_|refine zA ?_|refine zT ?_|refine zF ?_);conv=>whnf)
  refine ⟨_, _, hcut, ?_⟩
  (conv=>whnf);repeat((first|refine zD ?_|refine zA ?_|refine zT ?_|refine zF ?_);conv=>whnf)
  refine ⟨sSz [bE, bE, bE], ?_⟩
  (conv=>whnf);repeat((first|refine zD ?_|refine zA ?_|refine zT ?_|refine zF ?_);conv=>whnf)
  refine ⟨hb, ?_⟩
  (conv=>whnf);repeat((first|refine zD ?_|refine zA ?_|refine zT ?_|refine zF ?_);conv=>whnf)
  refine ⟨by decide, lt_of_get i0, ?_⟩
  (conv=>whnf);repeat((first|refine zD ?_|refine zA ?_|refine zT ?_|refine zF ?_);conv=>whnf)
  refine ⟨_, i0, ?_⟩
  (conv=>whnf);repeat((first|refine zD ?_|refine zA ?_|refine zT ?_|refine zF ?_);conv=>whnf)
  refine And.intro (fun h => absurd h (by rw [eqS]; decide)) (fun _ => ?_)
  (conv=>whnf);repeat((first|refine zD ?_|refine zA ?_|refine zT ?_|refine zF ?_);conv=>whnf)
  refine And.intro (fun h => absurd h (by rw [eqS]; decide)) (fun _ => ?_)
  (conv=>whnf);repeat((first|refine zD ?_|refine zA ?_|refine zT ?_|refine zF ?_);conv=>whnf)
  refine And.intro (fun h => absurd h (by rw [eqS]; decide)) (fun _ => ?_)
  (conv=>whnf);repeat((first|refine zD ?_|refine zA ?_|refine zT ?_|refine zF ?_);conv=>whnf)
  refine And.intro (fun h => absurd h (by rw [eqS]; decide)) (fun _ => ?_)
  (conv=>whnf);repeat((first|refine zD ?_|refine zA ?_|refine zT ?_|refine zF ?_);conv=>whnf)
  refine And.intro (fun h => absurd h (by rw [eqS]; decide)) (fun _ => ?_)
  (conv=>whnf);repeat((first|refine zD ?_|refine zA ?_|refine zT ?_|refine zF ?_);conv=>whnf)
  refine And.intro (fun _ => ?_) (fun h => absurd h (by rw [eqS]; decide))
  (conv=>whnf);repeat((first|refine zD ?_|refine zA ?_|refine zT ?_|refine zF ?_);conv=>whnf)
  refine And.intro (fun _ => ?_) (fun h => absurd h (by rw [eqS]; decide))
  (conv=>whnf);repeat((first|refine zD ?_|refine zA ?_|refine zT ?_|refine zF ?_);conv=>whnf)
  refine ⟨by decide, lt_of_get i1, ?_⟩
  (conv=>whnf);repeat((first|refine zD ?_|refine zA ?_|refine zT ?_|refine zF ?_);conv=>whnf)
  refine ⟨_, i1, ?_⟩
  (conv=>whnf);repeat((first|refine zD ?_|refine zA ?_|refine zT ?_|refine zF ?_);conv=>whnf)
  refine ⟨_, _, hn1, ?_⟩
  (conv=>whnf);repeat((first|refine zD ?_|refine zA ?_|refine zT ?_|refine zF ?_);conv=>whnf)
  refine ⟨by decide, lt_of_get i2, ?_⟩
  (conv=>whnf);repeat((first|refine zD ?_|refine zA ?_|refine zT ?_|refine zF ?_);conv=>whnf)
  refine ⟨_, i2, ?_⟩
  (conv=>whnf);repeat((first|refine zD ?_|refine zA ?_|refine zT ?_|refine zF ?_);conv=>whnf)
  refine ⟨_, _, hn2, ?_⟩
  (conv=>whnf);repeat((first|refine zD ?_|refine zA ?_|refine zT ?_|refine zF ?_);conv=>whnf)
  refine vc_loop [0, 2, 5] [2] (X := Nat) (fun k gs => [(8, ATint k), (4, .v (.c (.own 10 (gs 10))))]) (fun k gs => [(5, .var 1 [.i (.sc (.int .i64 1)), .i (.sc (.int .i64 (rnum l1.data.toList))), .i (.sc (.int .i64 (g k))), .i (.sc (.int .i64 (rnum l2.data.toList))), .i (.sc (.string ByteArray.empty)), .nl]), (10, .row (gs 10) 9 1 (sV ws ++ sV [bE, bE, bE]))]) (fun k => 1 ≤ k ∧ k ≤ 5) (fun k => 5 - k) _ (Ghost.refl _) 1 (by decide) ?_ ?_
  · (refine zA (zA ?_));(repeat' (first|exact trivial|with_reducible exact cvB_refl _|exact rfl|apply And.intro))
    all_goals exact congrArg (Value.int .i64) g1.symm
  intro gs k hk
  obtain ⟨k1, k5⟩ := hk
  (conv=>whnf);repeat((first|refine zD ?_|refine zA ?_|refine zT ?_|refine zF ?_);conv=>whnf)
  refine And.intro (fun h => ?_) (fun h => ?_)
  · have hlt : k ≤ 4 := by have := of_decide_eq_true h; omega
    have hkd := kindF' k 0 ByteArray.empty
    have hkk := hK k k1 hlt
    (conv=>whnf);repeat((first|refine zD ?_|refine zA ?_|refine zT ?_|refine zF ?_);conv=>whnf)
    refine ⟨_, _, hkd, ?_⟩
    (conv=>whnf);repeat((first|refine zD ?_|refine zA ?_|refine zT ?_|refine zF ?_);conv=>whnf)
    refine ⟨by decide, lt_of_get i0, ?_⟩
    (conv=>whnf);repeat((first|refine zD ?_|refine zA ?_|refine zT ?_|refine zF ?_);conv=>whnf)
    refine ⟨_, i0, ?_⟩
    (conv=>whnf);repeat((first|refine zD ?_|refine zA ?_|refine zT ?_|refine zF ?_);conv=>whnf)
    refine And.intro (fun h => ?_) (fun h => ?_)
    · have e := g2 k (of_decide_eq_true (hkk.symm.trans h))
      (conv=>whnf);repeat((first|refine zD ?_|refine zA ?_|refine zT ?_|refine zF ?_);conv=>whnf)
      refine again (k + 1) ⟨by omega, by omega⟩ (Nat.sub_lt_sub_left (by omega) (Nat.lt_succ_self k)) ?_
      (refine zA (zA ?_));(repeat' (first|exact trivial|with_reducible exact cvB_refl _|exact rfl|apply And.intro))
      all_goals first
        | exact congrArg (Value.int .i64) (w64_nat (by omega))
        | exact congrArg (Value.int .i64) e
    · have e := g3 k (of_decide_eq_false (hkk.symm.trans h))
      (conv=>whnf);repeat((first|refine zD ?_|refine zA ?_|refine zT ?_|refine zF ?_);conv=>whnf)
      refine again (k + 1) ⟨by omega, by omega⟩ (Nat.sub_lt_sub_left (by omega) (Nat.lt_succ_self k)) ?_
      (refine zA (zA ?_));(repeat' (first|exact trivial|with_reducible exact cvB_refl _|exact rfl|apply And.intro))
      all_goals first
        | exact congrArg (Value.int .i64) (w64_nat (by omega))
        | exact congrArg (Value.int .i64) e
  obtain rfl : k = 5 := by have := of_decide_eq_false h; omega
  rw [g5]
  clear hK g1 g2 g3 g5
  (conv=>whnf);repeat((first|refine zD ?_|refine zA ?_|refine zT ?_|refine zF ?_);conv=>whnf)
  refine ⟨by decide, lt_of_get i0, ?_⟩
  (conv=>whnf);repeat((first|refine zD ?_|refine zA ?_|refine zT ?_|refine zF ?_);conv=>whnf)
  refine ⟨_, i0, ?_⟩
  (conv=>whnf);repeat((first|refine zD ?_|refine zA ?_|refine zT ?_|refine zF ?_);conv=>whnf)
  refine And.intro (fun _ => ?_) (fun h => absurd h (by rw [eqS]; decide))
  (conv=>whnf);repeat((first|refine zD ?_|refine zA ?_|refine zT ?_|refine zF ?_);conv=>whnf)
  refine ⟨by decide, lt_of_get i3, ?_⟩
  (conv=>whnf);repeat((first|refine zD ?_|refine zA ?_|refine zT ?_|refine zF ?_);conv=>whnf)
  refine ⟨_, i3, ?_⟩
  (conv=>whnf);repeat((first|refine zD ?_|refine zA ?_|refine zT ?_|refine zF ?_);conv=>whnf)
  refine ⟨_, _, hby, ?_⟩
  (conv=>whnf);repeat((first|refine zD ?_|refine zA ?_|refine zT ?_|refine zF ?_);conv=>whnf)
  refine ⟨_, _, hL, ?_⟩
  (conv=>whnf);repeat((first|refine zD ?_|refine zA ?_|refine zT ?_|refine zF ?_);conv=>whnf)
  refine And.intro (fun h2 => ?_) (fun h2 => ?_)
  · (conv=>whnf);repeat((first|refine zD ?_|refine zA ?_|refine zT ?_|refine zF ?_);conv=>whnf)
    refine Exists.intro [] (And.intro List.nodup_nil ?_); ((conv=>whnf);repeat((first|refine zD ?_|refine zA ?_|refine zT ?_|refine zF ?_);conv=>whnf))
    rw [e1 h2]
    rfl
  · (conv=>whnf);repeat((first|refine zD ?_|refine zA ?_|refine zT ?_|refine zF ?_);conv=>whnf)
    refine Exists.intro [] (And.intro List.nodup_nil ?_); ((conv=>whnf);repeat((first|refine zD ?_|refine zA ?_|refine zT ?_|refine zF ?_);conv=>whnf))
    rw [e2 h2]
    rfl
set_option maxRecDepth 100000 in
set_option maxHeartbeats 16000000 in
theorem rr_bTrim (s : ByteArray) (r : List ByteArray) (hs : s.size ≤ 1000000) (hw : pcs 32 s = bTrim :: r) : Fun Tryz.prog 49 [strV s] [] (.tup [acV (rread s.data.toList).1, i64V (rread s.data.toList).2]) := by
  obtain ⟨ws, l1, l2, l3, hcut, i0, i1, i2, i3, hlen, hs1, hs3, d0, d1, d2, d3⟩ := wordsEnvR s hs _ _ hw
  have hK : ∀ k : Nat, 1 ≤ k → k ≤ 4 → ((knd k).toList == bTrim.toList) = decide (k = 3) := fun k h1 h4 => by
    rw [eqS]
    have : k = 1 ∨ k = 2 ∨ k = 3 ∨ k = 4 := by omega
    rcases this with rfl | rfl | rfl | rfl <;> decide
  obtain ⟨g, g1, g2, g3, g5⟩ : ∃ g : Nat → Int, g 1 = 0 ∧ (∀ k : Nat, k = 3 → (k : Int) = g (k + 1)) ∧ (∀ k : Nat, ¬ k = 3 → g k = g (k + 1)) ∧ g 5 = 3 := by
    refine ⟨fun k => if 3 < k then 3 else 0, rfl, fun k h => by subst h; rfl, fun k h => ?_, rfl⟩
    dsimp only
    by_cases hk : 3 < k
    · rw [if_pos hk, if_pos (by omega)]
    · rw [if_neg hk, if_neg (by omega)]
  have hn1 := numR l1
  have hn2 := numR l2
  obtain ⟨L, hL, e1, e2⟩ := readEnvR s ⟨1, rnum l1.data.toList, 3, rnum l2.data.toList, [], []⟩ (by rw [rcand_pcs s hw]; unfold rcandW; rw [d0, d1, d2, d3]; rw [if_neg (by decide), if_neg (by decide), if_neg (by decide), if_neg (by decide), if_pos (by decide)]; rfl) (show (1 : Int) ≠ 0 by decide) (Nat.zero_le _)
  generalize rread s.data.toList = R at e1 e2 ⊢
  clear hw d0 d1 d2 d3
  have hb := bytes_le (b := 16) (by decide) hlen
  refine fun_of_vc tabOk mixOk Tryz.func49 rfl (by rfl) (rs := [.cell 2 41, .tmp 3]) rfl rfl 111 ?_; rw [Tryz.ntmps49]
  (conv=>whnf);repeat((first|refine zD ?_|refine zA ?_|refine zT ?_|refine zF ?_);conv=>whnf)
  refine ⟨_, _, hcut, ?_⟩
  (conv=>whnf);repeat((first|refine zD ?_|refine zA ?_|refine zT ?_|refine zF ?_);conv=>whnf)
  refine ⟨sSz [bE, bE, bE], ?_⟩
  (conv=>whnf);repeat((first|refine zD ?_|refine zA ?_|refine zT ?_|refine zF ?_);conv=>whnf)
  refine ⟨hb, ?_⟩
  (conv=>whnf);repeat((first|refine zD ?_|refine zA ?_|refine zT ?_|refine zF ?_);conv=>whnf)
  refine ⟨by decide, lt_of_get i0, ?_⟩
  (conv=>whnf);repeat((first|refine zD ?_|refine zA ?_|refine zT ?_|refine zF ?_);conv=>whnf)
  refine ⟨_, i0, ?_⟩
  (conv=>whnf);repeat((first|refine zD ?_|refine zA ?_|refine zT ?_|refine zF ?_);conv=>whnf)
  refine And.intro (fun h => absurd h (by rw [eqS]; decide)) (fun _ => ?_)
  (conv=>whnf);repeat((first|refine zD ?_|refine zA ?_|refine zT ?_|refine zF ?_);conv=>whnf)
  refine And.intro (fun h => absurd h (by rw [eqS]; decide)) (fun _ => ?_)
  (conv=>whnf);repeat((first|refine zD ?_|refine zA ?_|refine zT ?_|refine zF ?_);conv=>whnf)
  refine And.intro (fun h => absurd h (by rw [eqS]; decide)) (fun _ => ?_)
  (conv=>whnf);repeat((first|refine zD ?_|refine zA ?_|refine zT ?_|refine zF ?_);conv=>whnf)
  refine And.intro (fun h => absurd h (by rw [eqS]; decide)) (fun _ => ?_)
  (conv=>whnf);repeat((first|refine zD ?_|refine zA ?_|refine zT ?_|refine zF ?_);conv=>whnf)
  refine And.intro (fun h => absurd h (by rw [eqS]; decide)) (fun _ => ?_)
  (conv=>whnf);repeat((first|refine zD ?_|refine zA ?_|refine zT ?_|refine zF ?_);conv=>whnf)
  refine And.intro (fun h => absurd h (by rw [eqS]; decide)) (fun _ => ?_)
  (conv=>whnf);repeat((first|refine zD ?_|refine zA ?_|refine zT ?_|refine zF ?_);conv=>whnf)
  refine And.intro (fun _ => ?_) (fun h => absurd h (by rw [eqS]; decide))
  (conv=>whnf);repeat((first|refine zD ?_|refine zA ?_|refine zT ?_|refine zF ?_);conv=>whnf)
  refine And.intro (fun _ => ?_) (fun h => absurd h (by rw [eqS]; decide))
  (conv=>whnf);repeat((first|refine zD ?_|refine zA ?_|refine zT ?_|refine zF ?_);conv=>whnf)
  refine ⟨by decide, lt_of_get i1, ?_⟩
  (conv=>whnf);repeat((first|refine zD ?_|refine zA ?_|refine zT ?_|refine zF ?_);conv=>whnf)
  refine ⟨_, i1, ?_⟩
  (conv=>whnf);repeat((first|refine zD ?_|refine zA ?_|refine zT ?_|refine zF ?_);conv=>whnf)
  refine ⟨_, _, hn1, ?_⟩
  (conv=>whnf);repeat((first|refine zD ?_|refine zA ?_|refine zT ?_|refine zF ?_);conv=>whnf)
  refine ⟨by decide, lt_of_get i2, ?_⟩
  (conv=>whnf);repeat((first|refine zD ?_|refine zA ?_|refine zT ?_|refine zF ?_);conv=>whnf)
  refine ⟨_, i2, ?_⟩
  (conv=>whnf);repeat((first|refine zD ?_|refine zA ?_|refine zT ?_|refine zF ?_);conv=>whnf)
  refine ⟨_, _, hn2, ?_⟩
  (conv=>whnf);repeat((first|refine zD ?_|refine zA ?_|refine zT ?_|refine zF ?_);conv=>whnf)
  refine vc_loop [0, 2, 5] [2] (X := Nat) (fun k gs => [(8, ATint k), (4, .v (.c (.own 10 (gs 10))))]) (fun k gs => [(5, .var 1 [.i (.sc (.int .i64 1)), .i (.sc (.int .i64 (rnum l1.data.toList))), .i (.sc (.int .i64 (g k))), .i (.sc (.int .i64 (rnum l2.data.toList))), .i (.sc (.string ByteArray.empty)), .nl]), (10, .row (gs 10) 9 1 (sV ws ++ sV [bE, bE, bE]))]) (fun k => 1 ≤ k ∧ k ≤ 5) (fun k => 5 - k) _ (Ghost.refl _) 1 (by decide) ?_ ?_
  · (refine zA (zA ?_));(repeat' (first|exact trivial|with_reducible exact cvB_refl _|exact rfl|apply And.intro))
    all_goals exact congrArg (Value.int .i64) g1.symm
  intro gs k hk
  obtain ⟨k1, k5⟩ := hk
  (conv=>whnf);repeat((first|refine zD ?_|refine zA ?_|refine zT ?_|refine zF ?_);conv=>whnf)
  refine And.intro (fun h => ?_) (fun h => ?_)
  · have hlt : k ≤ 4 := by have := of_decide_eq_true h; omega
    have hkd := kindF' k 0 ByteArray.empty
    have hkk := hK k k1 hlt
    (conv=>whnf);repeat((first|refine zD ?_|refine zA ?_|refine zT ?_|refine zF ?_);conv=>whnf)
    refine ⟨_, _, hkd, ?_⟩
    (conv=>whnf);repeat((first|refine zD ?_|refine zA ?_|refine zT ?_|refine zF ?_);conv=>whnf)
    refine ⟨by decide, lt_of_get i0, ?_⟩
    (conv=>whnf);repeat((first|refine zD ?_|refine zA ?_|refine zT ?_|refine zF ?_);conv=>whnf)
    refine ⟨_, i0, ?_⟩
    (conv=>whnf);repeat((first|refine zD ?_|refine zA ?_|refine zT ?_|refine zF ?_);conv=>whnf)
    refine And.intro (fun h => ?_) (fun h => ?_)
    · have e := g2 k (of_decide_eq_true (hkk.symm.trans h))
      (conv=>whnf);repeat((first|refine zD ?_|refine zA ?_|refine zT ?_|refine zF ?_);conv=>whnf)
      refine again (k + 1) ⟨by omega, by omega⟩ (Nat.sub_lt_sub_left (by omega) (Nat.lt_succ_self k)) ?_
      (refine zA (zA ?_));(repeat' (first|exact trivial|with_reducible exact cvB_refl _|exact rfl|apply And.intro))
      all_goals first
        | exact congrArg (Value.int .i64) (w64_nat (by omega))
        | exact congrArg (Value.int .i64) e
    · have e := g3 k (of_decide_eq_false (hkk.symm.trans h))
      (conv=>whnf);repeat((first|refine zD ?_|refine zA ?_|refine zT ?_|refine zF ?_);conv=>whnf)
      refine again (k + 1) ⟨by omega, by omega⟩ (Nat.sub_lt_sub_left (by omega) (Nat.lt_succ_self k)) ?_
      (refine zA (zA ?_));(repeat' (first|exact trivial|with_reducible exact cvB_refl _|exact rfl|apply And.intro))
      all_goals first
        | exact congrArg (Value.int .i64) (w64_nat (by omega))
        | exact congrArg (Value.int .i64) e
  obtain rfl : k = 5 := by have := of_decide_eq_false h; omega
  rw [g5]
  clear hK g1 g2 g3 g5
  (conv=>whnf);repeat((first|refine zD ?_|refine zA ?_|refine zT ?_|refine zF ?_);conv=>whnf)
  refine ⟨by decide, lt_of_get i0, ?_⟩
  (conv=>whnf);repeat((first|refine zD ?_|refine zA ?_|refine zT ?_|refine zF ?_);conv=>whnf)
  refine ⟨_, i0, ?_⟩
  (conv=>whnf);repeat((first|refine zD ?_|refine zA ?_|refine zT ?_|refine zF ?_);conv=>whnf)
  refine And.intro (fun h => absurd h (by rw [eqS]; decide)) (fun _ => ?_)
  (conv=>whnf);repeat((first|refine zD ?_|refine zA ?_|refine zT ?_|refine zF ?_);conv=>whnf)
  refine ⟨_, _, hL, ?_⟩
  (conv=>whnf);repeat((first|refine zD ?_|refine zA ?_|refine zT ?_|refine zF ?_);conv=>whnf)
  refine And.intro (fun h2 => ?_) (fun h2 => ?_)
  · (conv=>whnf);repeat((first|refine zD ?_|refine zA ?_|refine zT ?_|refine zF ?_);conv=>whnf)
    refine Exists.intro [] (And.intro List.nodup_nil ?_); ((conv=>whnf);repeat((first|refine zD ?_|refine zA ?_|refine zT ?_|refine zF ?_);conv=>whnf))
    rw [e1 h2]
    rfl
  · (conv=>whnf);repeat((first|refine zD ?_|refine zA ?_|refine zT ?_|refine zF ?_);conv=>whnf)
    refine Exists.intro [] (And.intro List.nodup_nil ?_); ((conv=>whnf);repeat((first|refine zD ?_|refine zA ?_|refine zT ?_|refine zF ?_);conv=>whnf))
    rw [e2 h2]
    rfl
set_option maxRecDepth 100000 in
set_option maxHeartbeats 16000000 in
theorem rr_bFlush (s : ByteArray) (r : List ByteArray) (hs : s.size ≤ 1000000) (hw : pcs 32 s = bFlush :: r) : Fun Tryz.prog 49 [strV s] [] (.tup [acV (rread s.data.toList).1, i64V (rread s.data.toList).2]) := by
  obtain ⟨ws, l1, l2, l3, hcut, i0, i1, i2, i3, hlen, hs1, hs3, d0, d1, d2, d3⟩ := wordsEnvR s hs _ _ hw
  have hK : ∀ k : Nat, 1 ≤ k → k ≤ 4 → ((knd k).toList == bFlush.toList) = decide (k = 4) := fun k h1 h4 => by
    rw [eqS]
    have : k = 1 ∨ k = 2 ∨ k = 3 ∨ k = 4 := by omega
    rcases this with rfl | rfl | rfl | rfl <;> decide
  obtain ⟨g, g1, g2, g3, g5⟩ : ∃ g : Nat → Int, g 1 = 0 ∧ (∀ k : Nat, k = 4 → (k : Int) = g (k + 1)) ∧ (∀ k : Nat, ¬ k = 4 → g k = g (k + 1)) ∧ g 5 = 4 := by
    refine ⟨fun k => if 4 < k then 4 else 0, rfl, fun k h => by subst h; rfl, fun k h => ?_, rfl⟩
    dsimp only
    by_cases hk : 4 < k
    · rw [if_pos hk, if_pos (by omega)]
    · rw [if_neg hk, if_neg (by omega)]
  have hn1 := numR l1
  have hn2 := numR l2
  obtain ⟨L, hL, e1, e2⟩ := readEnvR s ⟨1, rnum l1.data.toList, 4, rnum l2.data.toList, [], []⟩ (by rw [rcand_pcs s hw]; unfold rcandW; rw [d0, d1, d2, d3]; rw [if_neg (by decide), if_neg (by decide), if_neg (by decide), if_neg (by decide), if_pos (by decide)]; rfl) (show (1 : Int) ≠ 0 by decide) (Nat.zero_le _)
  generalize rread s.data.toList = R at e1 e2 ⊢
  clear hw d0 d1 d2 d3
  have hb := bytes_le (b := 16) (by decide) hlen
  refine fun_of_vc tabOk mixOk Tryz.func49 rfl (by rfl) (rs := [.cell 2 41, .tmp 3]) rfl rfl 111 ?_; rw [Tryz.ntmps49]
  (conv=>whnf);repeat((first|refine zD ?_|refine zA ?_|refine zT ?_|refine zF ?_);conv=>whnf)
  refine ⟨_, _, hcut, ?_⟩
  (conv=>whnf);repeat((first|refine zD ?_|refine zA ?_|refine zT ?_|refine zF ?_);conv=>whnf)
  refine ⟨sSz [bE, bE, bE], ?_⟩
  (conv=>whnf);repeat((first|refine zD ?_|refine zA ?_|refine zT ?_|refine zF ?_);conv=>whnf)
  refine ⟨hb, ?_⟩
  (conv=>whnf);repeat((first|refine zD ?_|refine zA ?_|refine zT ?_|refine zF ?_);conv=>whnf)
  refine ⟨by decide, lt_of_get i0, ?_⟩
  (conv=>whnf);repeat((first|refine zD ?_|refine zA ?_|refine zT ?_|refine zF ?_);conv=>whnf)
  refine ⟨_, i0, ?_⟩
  (conv=>whnf);repeat((first|refine zD ?_|refine zA ?_|refine zT ?_|refine zF ?_);conv=>whnf)
  refine And.intro (fun h => absurd h (by rw [eqS]; decide)) (fun _ => ?_)
  (conv=>whnf);repeat((first|refine zD ?_|refine zA ?_|refine zT ?_|refine zF ?_);conv=>whnf)
  refine And.intro (fun h => absurd h (by rw [eqS]; decide)) (fun _ => ?_)
  (conv=>whnf);repeat((first|refine zD ?_|refine zA ?_|refine zT ?_|refine zF ?_);conv=>whnf)
  refine And.intro (fun h => absurd h (by rw [eqS]; decide)) (fun _ => ?_)
  (conv=>whnf);repeat((first|refine zD ?_|refine zA ?_|refine zT ?_|refine zF ?_);conv=>whnf)
  refine And.intro (fun h => absurd h (by rw [eqS]; decide)) (fun _ => ?_)
  (conv=>whnf);repeat((first|refine zD ?_|refine zA ?_|refine zT ?_|refine zF ?_);conv=>whnf)
  refine And.intro (fun h => absurd h (by rw [eqS]; decide)) (fun _ => ?_)
  (conv=>whnf);repeat((first|refine zD ?_|refine zA ?_|refine zT ?_|refine zF ?_);conv=>whnf)
  refine And.intro (fun h => absurd h (by rw [eqS]; decide)) (fun _ => ?_)
  (conv=>whnf);repeat((first|refine zD ?_|refine zA ?_|refine zT ?_|refine zF ?_);conv=>whnf)
  refine And.intro (fun h => absurd h (by rw [eqS]; decide)) (fun _ => ?_)
  (conv=>whnf);repeat((first|refine zD ?_|refine zA ?_|refine zT ?_|refine zF ?_);conv=>whnf)
  refine And.intro (fun _ => ?_) (fun h => absurd h (by rw [eqS]; decide))
  (conv=>whnf);repeat((first|refine zD ?_|refine zA ?_|refine zT ?_|refine zF ?_);conv=>whnf)
  refine ⟨by decide, lt_of_get i1, ?_⟩
  (conv=>whnf);repeat((first|refine zD ?_|refine zA ?_|refine zT ?_|refine zF ?_);conv=>whnf)
  refine ⟨_, i1, ?_⟩
  (conv=>whnf);repeat((first|refine zD ?_|refine zA ?_|refine zT ?_|refine zF ?_);conv=>whnf)
  refine ⟨_, _, hn1, ?_⟩
  (conv=>whnf);repeat((first|refine zD ?_|refine zA ?_|refine zT ?_|refine zF ?_);conv=>whnf)
  refine ⟨by decide, lt_of_get i2, ?_⟩
  (conv=>whnf);repeat((first|refine zD ?_|refine zA ?_|refine zT ?_|refine zF ?_);conv=>whnf)
  refine ⟨_, i2, ?_⟩
  (conv=>whnf);repeat((first|refine zD ?_|refine zA ?_|refine zT ?_|refine zF ?_);conv=>whnf)
  refine ⟨_, _, hn2, ?_⟩
  (conv=>whnf);repeat((first|refine zD ?_|refine zA ?_|refine zT ?_|refine zF ?_);conv=>whnf)
  refine vc_loop [0, 2, 5] [2] (X := Nat) (fun k gs => [(8, ATint k), (4, .v (.c (.own 10 (gs 10))))]) (fun k gs => [(5, .var 1 [.i (.sc (.int .i64 1)), .i (.sc (.int .i64 (rnum l1.data.toList))), .i (.sc (.int .i64 (g k))), .i (.sc (.int .i64 (rnum l2.data.toList))), .i (.sc (.string ByteArray.empty)), .nl]), (10, .row (gs 10) 9 1 (sV ws ++ sV [bE, bE, bE]))]) (fun k => 1 ≤ k ∧ k ≤ 5) (fun k => 5 - k) _ (Ghost.refl _) 1 (by decide) ?_ ?_
  · (refine zA (zA ?_));(repeat' (first|exact trivial|with_reducible exact cvB_refl _|exact rfl|apply And.intro))
    all_goals exact congrArg (Value.int .i64) g1.symm
  intro gs k hk
  obtain ⟨k1, k5⟩ := hk
  (conv=>whnf);repeat((first|refine zD ?_|refine zA ?_|refine zT ?_|refine zF ?_);conv=>whnf)
  refine And.intro (fun h => ?_) (fun h => ?_)
  · have hlt : k ≤ 4 := by have := of_decide_eq_true h; omega
    have hkd := kindF' k 0 ByteArray.empty
    have hkk := hK k k1 hlt
    (conv=>whnf);repeat((first|refine zD ?_|refine zA ?_|refine zT ?_|refine zF ?_);conv=>whnf)
    refine ⟨_, _, hkd, ?_⟩
    (conv=>whnf);repeat((first|refine zD ?_|refine zA ?_|refine zT ?_|refine zF ?_);conv=>whnf)
    refine ⟨by decide, lt_of_get i0, ?_⟩
    (conv=>whnf);repeat((first|refine zD ?_|refine zA ?_|refine zT ?_|refine zF ?_);conv=>whnf)
    refine ⟨_, i0, ?_⟩
    (conv=>whnf);repeat((first|refine zD ?_|refine zA ?_|refine zT ?_|refine zF ?_);conv=>whnf)
    refine And.intro (fun h => ?_) (fun h => ?_)
    · have e := g2 k (of_decide_eq_true (hkk.symm.trans h))
      (conv=>whnf);repeat((first|refine zD ?_|refine zA ?_|refine zT ?_|refine zF ?_);conv=>whnf)
      refine again (k + 1) ⟨by omega, by omega⟩ (Nat.sub_lt_sub_left (by omega) (Nat.lt_succ_self k)) ?_
      (refine zA (zA ?_));(repeat' (first|exact trivial|with_reducible exact cvB_refl _|exact rfl|apply And.intro))
      all_goals first
        | exact congrArg (Value.int .i64) (w64_nat (by omega))
        | exact congrArg (Value.int .i64) e
    · have e := g3 k (of_decide_eq_false (hkk.symm.trans h))
      (conv=>whnf);repeat((first|refine zD ?_|refine zA ?_|refine zT ?_|refine zF ?_);conv=>whnf)
      refine again (k + 1) ⟨by omega, by omega⟩ (Nat.sub_lt_sub_left (by omega) (Nat.lt_succ_self k)) ?_
      (refine zA (zA ?_));(repeat' (first|exact trivial|with_reducible exact cvB_refl _|exact rfl|apply And.intro))
      all_goals first
        | exact congrArg (Value.int .i64) (w64_nat (by omega))
        | exact congrArg (Value.int .i64) e
  obtain rfl : k = 5 := by have := of_decide_eq_false h; omega
  rw [g5]
  clear hK g1 g2 g3 g5
  (conv=>whnf);repeat((first|refine zD ?_|refine zA ?_|refine zT ?_|refine zF ?_);conv=>whnf)
  refine ⟨by decide, lt_of_get i0, ?_⟩
  (conv=>whnf);repeat((first|refine zD ?_|refine zA ?_|refine zT ?_|refine zF ?_);conv=>whnf)
  refine ⟨_, i0, ?_⟩
  (conv=>whnf);repeat((first|refine zD ?_|refine zA ?_|refine zT ?_|refine zF ?_);conv=>whnf)
  refine And.intro (fun h => absurd h (by rw [eqS]; decide)) (fun _ => ?_)
  (conv=>whnf);repeat((first|refine zD ?_|refine zA ?_|refine zT ?_|refine zF ?_);conv=>whnf)
  refine ⟨_, _, hL, ?_⟩
  (conv=>whnf);repeat((first|refine zD ?_|refine zA ?_|refine zT ?_|refine zF ?_);conv=>whnf)
  refine And.intro (fun h2 => ?_) (fun h2 => ?_)
  · (conv=>whnf);repeat((first|refine zD ?_|refine zA ?_|refine zT ?_|refine zF ?_);conv=>whnf)
    refine Exists.intro [] (And.intro List.nodup_nil ?_); ((conv=>whnf);repeat((first|refine zD ?_|refine zA ?_|refine zT ?_|refine zF ?_);conv=>whnf))
    rw [e1 h2]
    rfl
  · (conv=>whnf);repeat((first|refine zD ?_|refine zA ?_|refine zT ?_|refine zF ?_);conv=>whnf)
    refine Exists.intro [] (And.intro List.nodup_nil ?_); ((conv=>whnf);repeat((first|refine zD ?_|refine zA ?_|refine zT ?_|refine zF ?_);conv=>whnf))
    rw [e2 h2]
    rfl
set_option maxRecDepth 100000 in
set_option maxHeartbeats 16000000 in
theorem rr_other (s : ByteArray) (w : ByteArray) (r : List ByteArray) (hs : s.size ≤ 1000000) (hw : pcs 32 s = w :: r) (g1 : ¬ w.data.toList = wStep) (g2 : ¬ w.data.toList = wSave) (g3 : ¬ w.data.toList = wClose) (g4 : ¬ w.data.toList = wCrash) (g5 : ¬ w.data.toList = wRead) (g6 : ¬ w.data.toList = wWrite) (g7 : ¬ w.data.toList = wTrim) (g8 : ¬ w.data.toList = wFlush) : Fun Tryz.prog 49 [strV s] [] (.tup [acV (rread s.data.toList).1, i64V (rread s.data.toList).2]) := by
  obtain ⟨ws, l1, l2, l3, hcut, i0, i1, i2, i3, hlen, hs1, hs3, d0, d1, d2, d3⟩ := wordsEnvR s hs _ _ hw
  have e : rread s.data.toList = (ac0, 18) := by
    have hk : kN w.data.toList = 0 := by unfold kN; rw [if_neg g5, if_neg g6, if_neg g7, if_neg g8]
    have hc : rcand s.data.toList = ac0 := by
      rw [rcand_pcs s hw]; unfold rcandW; rw [d0, if_neg g1, if_neg g2, if_neg g3, if_neg g4, if_neg (by rw [hk]; decide)]
    unfold rread
    rw [hc, if_neg (fun h => h.1 rfl)]
  rw [e]
  clear hw d0 d1 d2 d3 e
  have hb := bytes_le (b := 16) (by decide) hlen
  refine fun_of_vc tabOk mixOk Tryz.func49 rfl (by rfl) (rs := [.cell 2 41, .tmp 3]) rfl rfl 111 ?_; rw [Tryz.ntmps49]
  (conv=>whnf);repeat((first|refine zD ?_|refine zA ?_|refine zT ?_|refine zF ?_);conv=>whnf)
  refine ⟨_, _, hcut, ?_⟩
  (conv=>whnf);repeat((first|refine zD ?_|refine zA ?_|refine zT ?_|refine zF ?_);conv=>whnf)
  refine ⟨sSz [bE, bE, bE], ?_⟩
  (conv=>whnf);repeat((first|refine zD ?_|refine zA ?_|refine zT ?_|refine zF ?_);conv=>whnf)
  refine ⟨hb, ?_⟩
  (conv=>whnf);repeat((first|refine zD ?_|refine zA ?_|refine zT ?_|refine zF ?_);conv=>whnf)
  refine ⟨by decide, lt_of_get i0, ?_⟩
  (conv=>whnf);repeat((first|refine zD ?_|refine zA ?_|refine zT ?_|refine zF ?_);conv=>whnf)
  refine ⟨_, i0, ?_⟩
  (conv=>whnf);repeat((first|refine zD ?_|refine zA ?_|refine zT ?_|refine zF ?_);conv=>whnf)
  refine And.intro (fun h => absurd (of_decide_eq_true ((eqS _ _).symm.trans h)) g1) (fun _ => ?_)
  (conv=>whnf);repeat((first|refine zD ?_|refine zA ?_|refine zT ?_|refine zF ?_);conv=>whnf)
  refine And.intro (fun h => absurd (of_decide_eq_true ((eqS _ _).symm.trans h)) g2) (fun _ => ?_)
  (conv=>whnf);repeat((first|refine zD ?_|refine zA ?_|refine zT ?_|refine zF ?_);conv=>whnf)
  refine And.intro (fun h => absurd (of_decide_eq_true ((eqS _ _).symm.trans h)) g3) (fun _ => ?_)
  (conv=>whnf);repeat((first|refine zD ?_|refine zA ?_|refine zT ?_|refine zF ?_);conv=>whnf)
  refine And.intro (fun h => absurd (of_decide_eq_true ((eqS _ _).symm.trans h)) g4) (fun _ => ?_)
  (conv=>whnf);repeat((first|refine zD ?_|refine zA ?_|refine zT ?_|refine zF ?_);conv=>whnf)
  refine And.intro (fun h => absurd (of_decide_eq_true ((eqS _ _).symm.trans h)) g5) (fun _ => ?_)
  (conv=>whnf);repeat((first|refine zD ?_|refine zA ?_|refine zT ?_|refine zF ?_);conv=>whnf)
  refine And.intro (fun h => absurd (of_decide_eq_true ((eqS _ _).symm.trans h)) g6) (fun _ => ?_)
  (conv=>whnf);repeat((first|refine zD ?_|refine zA ?_|refine zT ?_|refine zF ?_);conv=>whnf)
  refine And.intro (fun h => absurd (of_decide_eq_true ((eqS _ _).symm.trans h)) g7) (fun _ => ?_)
  (conv=>whnf);repeat((first|refine zD ?_|refine zA ?_|refine zT ?_|refine zF ?_);conv=>whnf)
  refine And.intro (fun h => absurd (of_decide_eq_true ((eqS _ _).symm.trans h)) g8) (fun _ => ?_)
  (conv=>whnf);repeat((first|refine zD ?_|refine zA ?_|refine zT ?_|refine zF ?_);conv=>whnf)
  refine Exists.intro [] (And.intro List.nodup_nil ?_); ((conv=>whnf);repeat((first|refine zD ?_|refine zA ?_|refine zT ?_|refine zF ?_);conv=>whnf))
  rfl
theorem readR (s : ByteArray) (hs : s.size ≤ 900000) : Fun Tryz.prog 49 [strV s] [] (.tup [acV (rread s.data.toList).1, i64V (rread s.data.toList).2]) := by
  have hs' : s.size ≤ 1000000 := by omega
  cases hw : pcs 32 s with
  | nil => exact absurd hw (pcs_ne 32 s)
  | cons w r =>
    by_cases g1 : w.data.toList = wStep
    · obtain rfl : w = bStep := sL_inj g1
      exact rr_step s r hs' hw
    by_cases g2 : w.data.toList = wSave
    · obtain rfl : w = bSave := sL_inj g2
      exact rr_save s r hs' hw
    by_cases g3 : w.data.toList = wClose
    · obtain rfl : w = bClose := sL_inj g3
      exact rr_close s r hs' hw
    by_cases g4 : w.data.toList = wCrash
    · obtain rfl : w = bCrash := sL_inj g4
      by_cases h1 : ((bCrash :: r).map (·.data.toList)).getD 1 [] = []
      · exact rr_crash0 s r h1 hs' hw
      · exact rr_crash1 s r h1 hs hw
    by_cases g5 : w.data.toList = wRead
    · obtain rfl : w = bRead := sL_inj g5
      exact rr_bRead s r hs' hw
    by_cases g6 : w.data.toList = wWrite
    · obtain rfl : w = bWrite := sL_inj g6
      exact rr_bWrite s r hs' hw
    by_cases g7 : w.data.toList = wTrim
    · obtain rfl : w = bTrim := sL_inj g7
      exact rr_bTrim s r hs' hw
    by_cases g8 : w.data.toList = wFlush
    · obtain rfl : w = bFlush := sL_inj g8
      exact rr_bFlush s r hs' hw
    exact rr_other s w r hs' hw g1 g2 g3 g4 g5 g6 g7 g8
end Go.Proofs.YtikchieadclbhaaGreatDoor.Ab
