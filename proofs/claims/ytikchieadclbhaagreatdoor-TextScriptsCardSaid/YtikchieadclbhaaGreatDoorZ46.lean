/- The text of a script, both ways. No condition. -/
import Derived.Test.YtikchieadclbhaaGreatDoorZ42
import Derived.Test.YtikchieadclbhaaGreatDoorZ45
namespace Go.Proofs.YtikchieadclbhaaGreatDoor.Ab
set_option linter.unusedVariables false
set_option linter.unusedSimpArgs false
open Go.RowKit

theorem cfL_small {c : Cf} (h : cfChk c = 0) : (cfL c).all fit = true := by
  have hk : cfOk c = true := by
    cases hk : cfOk c with
    | true => rfl
    | false => unfold cfChk at h; rw [hk] at h; cases h
  have h2 := cfOk_iff.1 hk
  refine List.all_eq_true.2 fun n hn => fit_iff.2 ?_
  simp only [cfL, List.mem_cons, List.mem_nil_iff, or_false] at hn
  rcases hn with rfl | rfl | rfl | rfl | rfl | rfl <;> omega
/-- The text so far. -/
def fK (c : Cf) (x : List Ac) (i : Nat) : ByteArray := sS (cLine c ++ 10 :: body (x.take i))
theorem cLine_max {c : Cf} (h : ∀ n ∈ cfL c, in64 n) : (cLine c).length ≤ 132 := by
  rw [cLine_size]
  have := itoa_size (h c.z (by simp [cfL])); have := itoa_size (h c.s (by simp [cfL])); have := itoa_size (h c.b (by simp [cfL]))
  have := itoa_size (h c.q (by simp [cfL])); have := itoa_size (h c.d (by simp [cfL])); have := itoa_size (h c.h (by simp [cfL]))
  have e : ∀ n, (itoS n).size = (Lib.itoa n).length := fun _ => rfl
  simp only [e] at *
  omega
theorem body_len : ∀ x : List Ac, (body x).length ≤ x.length * 1001
  | [] => by simp [body]
  | a :: x => by
    have e : body (a :: x) = tline a ++ 10 :: body x := by simp [body]
    have ih := body_len x
    have := tline_len a
    rw [e, List.length_append, List.length_cons, List.length_cons]
    omega
theorem fK_size {c : Cf} {x : List Ac} (h : ∀ n ∈ cfL c, in64 n) (hx : x.length ≤ 2000) (i : Nat) : (fK c x i).size ≤ 3000000 := by
  show (cLine c ++ 10 :: body (x.take i)).length ≤ 3000000
  have h1 := cLine_max h
  have h2 := body_len (x.take i)
  have h3 : (x.take i).length ≤ 2000 := by rw [List.length_take]; omega
  rw [List.length_append, List.length_cons]
  have := Nat.mul_le_mul_right 1001 h3
  omega
theorem body_snoc (x : List Ac) (a : Ac) : body (x ++ [a]) = body x ++ (tline a ++ [10]) := by simp [body]
theorem fK_next {c : Cf} {x : List Ac} {i : Nat} (h : i < x.length) : fK c x (i + 1) = fK c x i ++ (sS (tline x[i]) ++ ⟨#[10]⟩) ∧ fK c x (i + 1) = fK c x i ++ sS (tline x[i]) ++ ⟨#[10]⟩ := by
  have e : sL (fK c x (i + 1)) = cLine c ++ 10 :: body (x.take i) ++ (tline x[i] ++ [10]) := by
    show cLine c ++ 10 :: body (x.take (i + 1)) = _
    rw [take_snoc h, body_snoc]
    simp
  constructor
  · apply sL_inj
    rw [e, sL_append, sL_append]
    rfl
  · apply sL_inj
    rw [e, sL_append, sL_append]
    show _ = (cLine c ++ 10 :: body (x.take i)) ++ tline x[i] ++ [10]
    simp
theorem fmt_no {c : Cf} {x : List Ac} (h0 : cfChk c = 0) (hx : x.length ≤ 2000) {a : Ac} (ha : a ∈ x) (h : tline a = []) : fmt c x = ([], 18) := by
  have : x.all (fun a => decide (tline a ≠ [])) = false := List.all_eq_false.2 ⟨a, ha, by simp [h]⟩
  unfold fmt
  rw [if_pos h0, if_neg (by omega), this]
  rfl
theorem fmt_yes {c : Cf} {x : List Ac} (h0 : cfChk c = 0) (hx : x.length ≤ 2000) (h : x.all (fun a => decide (tline a ≠ [])) = true) : fmt c x = if 65536 < (fK c x x.length).size then ([], 19) else (txt c x, 0) := by
  have e : (fK c x x.length).size = (txt c x).length := by
    show (cLine c ++ 10 :: body (x.take x.length)).length = _
    rw [List.take_length]; rfl
  unfold fmt
  rw [if_pos h0, if_neg (by omega), h, if_pos rfl, e]
set_option maxRecDepth 100000 in
set_option maxHeartbeats 16000000 in
theorem formatF (c : Cf) (x : List Ac) (hx : x.length ≤ 100000) (hkp : ∀ a ∈ x, a.kp.length ≤ 1000000) : Fun Tryz.prog 9 [cfV c, slV (acR x)] [] (.tup [strV (sS (fmt c x).1), i64V (fmt c x).2]) := by
  have hck := cfChkF c
  by_cases h0 : cfChk c = 0
  · rw [h0] at hck
    by_cases hl : x.length ≤ 2000
    · have hfit := cfL_small h0
      have h64 : ∀ n ∈ cfL c, in64 n := fun n hn => fit64 (List.all_eq_true.1 hfit n hn)
      have hcf := confF c h64
      have hno := fun a ha h => @fmt_no c x h0 hl a ha h
      have hyes := fmt_yes h0 hl
      have hks := fK_size h64 hl
      have hkn := fun i (h : i < x.length) => @fK_next c x i h
      have hk0 : fK c x 0 = sS (cLine c) ++ ⟨#[10]⟩ := by
        apply sL_inj
        rw [sL_append]
        show cLine c ++ 10 :: body (x.take 0) = cLine c ++ [10]
        rw [List.take_zero]
        rfl
      have hk1 : sS (txt c x) = fK c x x.length := by
        show _ = sS (cLine c ++ 10 :: body (x.take x.length))
        rw [List.take_length]
        rfl
      have hcs : (sS (cLine c)).size ≤ 132 := cLine_max h64
      generalize fmt c x = R at hno hyes ⊢
      generalize fK c x = K at hyes hks hkn hk0 hk1
      generalize sS (cLine c) = C at hcf hk0 hcs
      refine fun_of_vc tabOk mixOk Tryz.func9 rfl (by rfl) (rs := [.tmp 4, .tmp 5]) rfl rfl 45 ?_; rw [Tryz.ntmps9]
      (conv=>whnf);repeat((first|refine zD ?_|refine zA ?_|refine zT ?_|refine zF ?_);conv=>whnf)
      refine ⟨_, _, hck, ?_⟩
      (conv=>whnf);repeat((first|refine zD ?_|refine zA ?_|refine zT ?_|refine zF ?_);conv=>whnf)
      refine And.intro (fun h => by have := of_decide_eq_true h; rw [acLen] at this; omega) (fun _ => ?_)
      (conv=>whnf);repeat((first|refine zD ?_|refine zA ?_|refine zT ?_|refine zF ?_);conv=>whnf)
      refine ⟨_, _, hcf, ?_⟩
      (conv=>whnf);repeat((first|refine zD ?_|refine zA ?_|refine zT ?_|refine zF ?_);conv=>whnf)
      refine ⟨by show C.size + 1 ≤ _; omega, ?_⟩
      (conv=>whnf);repeat((first|refine zD ?_|refine zA ?_|refine zT ?_|refine zF ?_);conv=>whnf)
      refine vc_loop [22, 23] [] (X := Nat) (fun i gs => [(24, ATint i), (7, .v (strV (K i)))]) (fun i gs => []) (fun i => i ≤ x.length ∧ (x.take i).all (fun a => decide (tline a ≠ [])) = true) (fun i => x.length - i) _ (Ghost.refl _) 0 ⟨Nat.zero_le _, rfl⟩ ?_ ?_
      · (refine zA (zA ?_));(repeat' (first|exact trivial|with_reducible exact cvB_refl _|exact rfl|apply And.intro))
        all_goals exact congrArg Value.string hk0.symm
      rintro gs i ⟨hi, hfi⟩
      (conv=>whnf);repeat((first|refine zD ?_|refine zA ?_|refine zT ?_|refine zF ?_);conv=>whnf)
      refine And.intro (fun h => ?_) (fun h => ?_)
      · have hlt : i < x.length := by simpa [acLen] using h
        have hln := lineF x[i]
        have hem := empty_iff (sS (tline x[i]))
        have hem : ((sS (tline x[i])).toList == (⟨#[]⟩ : ByteArray).toList) = decide (tline x[i] = []) := hem
        have hls : (sS (tline x[i])).size ≤ 1000 := tline_len _
        have htk := take_snoc hlt
        have hki := hks i
        obtain ⟨k1, k2⟩ := hkn i hlt
        by_cases he : tline x[i] = []
        · rw [decide_eq_true he] at hem
          rw [hno _ (List.getElem_mem hlt) he]
          generalize sS (tline x[i]) = l at hln hem hls k1 k2
          (conv=>whnf);repeat((first|refine zD ?_|refine zA ?_|refine zT ?_|refine zF ?_);conv=>whnf)
          refine ⟨by omega, _, acItem hlt, rfl, ?_⟩
          (conv=>whnf);repeat((first|refine zD ?_|refine zA ?_|refine zT ?_|refine zF ?_);conv=>whnf)
          refine ⟨_, _, hln, ?_⟩
          (conv=>whnf);repeat((first|refine zD ?_|refine zA ?_|refine zT ?_|refine zF ?_);conv=>whnf)
          refine And.intro (fun _ => ?_) (fun g => absurd g (by rw [hem]; decide))
          (conv=>whnf);repeat((first|refine zD ?_|refine zA ?_|refine zT ?_|refine zF ?_);conv=>whnf)
          refine Exists.intro [] (And.intro List.nodup_nil ?_); ((conv=>whnf);repeat((first|refine zD ?_|refine zA ?_|refine zT ?_|refine zF ?_);conv=>whnf))
          rfl
        · rw [decide_eq_false he] at hem
          have hfi2 : (x.take (i + 1)).all (fun a => decide (tline a ≠ [])) = true := by rw [htk, List.all_append, hfi]; simp [he]
          generalize sS (tline x[i]) = l at hln hem hls k1 k2
          (conv=>whnf);repeat((first|refine zD ?_|refine zA ?_|refine zT ?_|refine zF ?_);conv=>whnf)
          refine ⟨by omega, _, acItem hlt, rfl, ?_⟩
          (conv=>whnf);repeat((first|refine zD ?_|refine zA ?_|refine zT ?_|refine zF ?_);conv=>whnf)
          refine ⟨_, _, hln, ?_⟩
          (conv=>whnf);repeat((first|refine zD ?_|refine zA ?_|refine zT ?_|refine zF ?_);conv=>whnf)
          refine And.intro (fun g => absurd g (by rw [hem]; decide)) (fun _ => ?_)
          (conv=>whnf);repeat((first|refine zD ?_|refine zA ?_|refine zT ?_|refine zF ?_);conv=>whnf)
          refine ⟨by show l.size + 1 ≤ _; omega, ?_⟩
          (conv=>whnf);repeat((first|refine zD ?_|refine zA ?_|refine zT ?_|refine zF ?_);conv=>whnf)
          refine ⟨by rw [ByteArray.size_append]; show (K i).size + (l.size + 1) ≤ _; omega, ?_⟩
          (conv=>whnf);repeat((first|refine zD ?_|refine zA ?_|refine zT ?_|refine zF ?_);conv=>whnf)
          refine again (i + 1) ⟨hlt, hfi2⟩ (Nat.sub_lt_sub_left hlt (Nat.lt_succ_self i)) ?_
          (refine zA (zA ?_));(repeat' (first|exact trivial|with_reducible exact cvB_refl _|exact rfl|apply And.intro))
          all_goals first
            | exact congrArg (Value.int .i64) (w64_nat (by omega))
            | exact congrArg Value.string k1.symm
      · obtain rfl : i = x.length := by
          have : ¬ i < x.length := by simpa [acLen] using h
          omega
        rw [List.take_length] at hfi
        rw [hyes hfi]
        by_cases hb : 65536 < (K x.length).size
        · rw [if_pos hb]
          (conv=>whnf);repeat((first|refine zD ?_|refine zA ?_|refine zT ?_|refine zF ?_);conv=>whnf)
          refine And.intro (fun _ => ?_) (fun g => by have := of_decide_eq_false g; omega)
          (conv=>whnf);repeat((first|refine zD ?_|refine zA ?_|refine zT ?_|refine zF ?_);conv=>whnf)
          refine Exists.intro [] (And.intro List.nodup_nil ?_); ((conv=>whnf);repeat((first|refine zD ?_|refine zA ?_|refine zT ?_|refine zF ?_);conv=>whnf))
          rfl
        · rw [if_neg hb]
          (conv=>whnf);repeat((first|refine zD ?_|refine zA ?_|refine zT ?_|refine zF ?_);conv=>whnf)
          refine And.intro (fun g => by have := of_decide_eq_true g; omega) (fun _ => ?_)
          (conv=>whnf);repeat((first|refine zD ?_|refine zA ?_|refine zT ?_|refine zF ?_);conv=>whnf)
          refine Exists.intro [] (And.intro List.nodup_nil ?_); ((conv=>whnf);repeat((first|refine zD ?_|refine zA ?_|refine zT ?_|refine zF ?_);conv=>whnf))
          exact congrArg (fun s => AT.tup [strV s, i64V 0]) hk1.symm
    · have e : fmt c x = ([], 19) := by unfold fmt; rw [if_pos h0, if_pos (by omega)]
      rw [e]
      refine fun_of_vc tabOk mixOk Tryz.func9 rfl (by rfl) (rs := [.tmp 4, .tmp 5]) rfl rfl 45 ?_; rw [Tryz.ntmps9]
      (conv=>whnf);repeat((first|refine zD ?_|refine zA ?_|refine zT ?_|refine zF ?_);conv=>whnf)
      refine ⟨_, _, hck, ?_⟩
      (conv=>whnf);repeat((first|refine zD ?_|refine zA ?_|refine zT ?_|refine zF ?_);conv=>whnf)
      refine And.intro (fun _ => ?_) (fun h => by have := of_decide_eq_false h; rw [acLen] at this; omega)
      (conv=>whnf);repeat((first|refine zD ?_|refine zA ?_|refine zT ?_|refine zF ?_);conv=>whnf)
      refine Exists.intro [] (And.intro List.nodup_nil ?_); ((conv=>whnf);repeat((first|refine zD ?_|refine zA ?_|refine zT ?_|refine zF ?_);conv=>whnf))
      rfl
  · have e : fmt c x = ([], cfChk c) := by unfold fmt; rw [if_neg h0]
    rw [e]
    generalize cfChk c = e at hck h0
    refine fun_of_vc tabOk mixOk Tryz.func9 rfl (by rfl) (rs := [.tmp 4, .tmp 5]) rfl rfl 45 ?_; rw [Tryz.ntmps9]
    (conv=>whnf);repeat((first|refine zD ?_|refine zA ?_|refine zT ?_|refine zF ?_);conv=>whnf)
    refine ⟨_, _, hck, ?_⟩
    (conv=>whnf);repeat((first|refine zD ?_|refine zA ?_|refine zT ?_|refine zF ?_);conv=>whnf)
    refine And.intro (fun _ => ?_) (fun h => absurd (by simpa using h) h0)
    (conv=>whnf);repeat((first|refine zD ?_|refine zA ?_|refine zT ?_|refine zF ?_);conv=>whnf)
    refine Exists.intro [] (And.intro List.nodup_nil ?_); ((conv=>whnf);repeat((first|refine zD ?_|refine zA ?_|refine zT ?_|refine zF ?_);conv=>whnf))
    rfl
set_option maxRecDepth 100000 in
set_option maxHeartbeats 16000000 in
theorem formatR (c : Cf) (x : List Ac) (hx : x.length ≤ 100000) (hkp : ∀ a ∈ x, a.kp.length ≤ 1000000) : Fun Tryz.prog 10 [cfV c, slV (acR x)] [] (.tup [strV (sS (fmt c x).1), i64V (fmt c x).2]) := by
  have hck := cfChkF' c
  by_cases h0 : cfChk c = 0
  · rw [h0] at hck
    by_cases hl : x.length ≤ 2000
    · have hfit := cfL_small h0
      have h64 : ∀ n ∈ cfL c, in64 n := fun n hn => fit64 (List.all_eq_true.1 hfit n hn)
      have hcf := firstF c hfit
      have hno := fun a ha h => @fmt_no c x h0 hl a ha h
      have hyes := fmt_yes h0 hl
      have hks := fK_size h64 hl
      have hkn := fun i (h : i < x.length) => @fK_next c x i h
      have hk0 : fK c x 0 = sS (cLine c) ++ ⟨#[10]⟩ := by
        apply sL_inj
        rw [sL_append]
        show cLine c ++ 10 :: body (x.take 0) = cLine c ++ [10]
        rw [List.take_zero]
        rfl
      have hk1 : sS (txt c x) = fK c x x.length := by
        show _ = sS (cLine c ++ 10 :: body (x.take x.length))
        rw [List.take_length]
        rfl
      have hcs : (sS (cLine c)).size ≤ 132 := cLine_max h64
      generalize fmt c x = R at hno hyes ⊢
      generalize fK c x = K at hyes hks hkn hk0 hk1
      generalize sS (cLine c) = C at hcf hk0 hcs
      refine fun_of_vc tabOk mixOk Tryz.func10 rfl (by rfl) (rs := [.tmp 4, .tmp 5]) rfl rfl 46 ?_; rw [Tryz.ntmps10]
      (conv=>whnf);repeat((first|refine zD ?_|refine zA ?_|refine zT ?_|refine zF ?_);conv=>whnf)
      refine ⟨_, _, hck, ?_⟩
      (conv=>whnf);repeat((first|refine zD ?_|refine zA ?_|refine zT ?_|refine zF ?_);conv=>whnf)
      refine And.intro (fun h => by have := of_decide_eq_true h; rw [acLen] at this; omega) (fun _ => ?_)
      (conv=>whnf);repeat((first|refine zD ?_|refine zA ?_|refine zT ?_|refine zF ?_);conv=>whnf)
      refine ⟨_, _, hcf, ?_⟩
      (conv=>whnf);repeat((first|refine zD ?_|refine zA ?_|refine zT ?_|refine zF ?_);conv=>whnf)
      refine ⟨by show C.size + 1 ≤ _; omega, ?_⟩
      (conv=>whnf);repeat((first|refine zD ?_|refine zA ?_|refine zT ?_|refine zF ?_);conv=>whnf)
      refine vc_loop [1] [] (X := Nat) (fun i gs => [(8, ATint i), (7, .v (strV (K i)))]) (fun i gs => []) (fun i => i ≤ x.length ∧ (x.take i).all (fun a => decide (tline a ≠ [])) = true) (fun i => x.length - i) _ (Ghost.refl _) 0 ⟨Nat.zero_le _, rfl⟩ ?_ ?_
      · (refine zA (zA ?_));(repeat' (first|exact trivial|with_reducible exact cvB_refl _|exact rfl|apply And.intro))
        all_goals exact congrArg Value.string hk0.symm
      rintro gs i ⟨hi, hfi⟩
      (conv=>whnf);repeat((first|refine zD ?_|refine zA ?_|refine zT ?_|refine zF ?_);conv=>whnf)
      refine And.intro (fun h => ?_) (fun h => ?_)
      · have hlt : i < x.length := by simpa [acLen] using h
        have hln := lineR x[i] (hkp _ (List.getElem_mem hlt))
        have hem := empty_iff (sS (tline x[i]))
        have hem : ((sS (tline x[i])).toList == (⟨#[]⟩ : ByteArray).toList) = decide (tline x[i] = []) := hem
        have hls : (sS (tline x[i])).size ≤ 1000 := tline_len _
        have htk := take_snoc hlt
        have hki := hks i
        obtain ⟨k1, k2⟩ := hkn i hlt
        by_cases he : tline x[i] = []
        · rw [decide_eq_true he] at hem
          rw [hno _ (List.getElem_mem hlt) he]
          generalize sS (tline x[i]) = l at hln hem hls k1 k2
          (conv=>whnf);repeat((first|refine zD ?_|refine zA ?_|refine zT ?_|refine zF ?_);conv=>whnf)
          refine ⟨by omega, _, acItem hlt, rfl, ?_⟩
          (conv=>whnf);repeat((first|refine zD ?_|refine zA ?_|refine zT ?_|refine zF ?_);conv=>whnf)
          refine ⟨_, _, hln, ?_⟩
          (conv=>whnf);repeat((first|refine zD ?_|refine zA ?_|refine zT ?_|refine zF ?_);conv=>whnf)
          refine And.intro (fun _ => ?_) (fun g => absurd g (by rw [hem]; decide))
          (conv=>whnf);repeat((first|refine zD ?_|refine zA ?_|refine zT ?_|refine zF ?_);conv=>whnf)
          refine Exists.intro [] (And.intro List.nodup_nil ?_); ((conv=>whnf);repeat((first|refine zD ?_|refine zA ?_|refine zT ?_|refine zF ?_);conv=>whnf))
          rfl
        · rw [decide_eq_false he] at hem
          have hfi2 : (x.take (i + 1)).all (fun a => decide (tline a ≠ [])) = true := by rw [htk, List.all_append, hfi]; simp [he]
          generalize sS (tline x[i]) = l at hln hem hls k1 k2
          (conv=>whnf);repeat((first|refine zD ?_|refine zA ?_|refine zT ?_|refine zF ?_);conv=>whnf)
          refine ⟨by omega, _, acItem hlt, rfl, ?_⟩
          (conv=>whnf);repeat((first|refine zD ?_|refine zA ?_|refine zT ?_|refine zF ?_);conv=>whnf)
          refine ⟨_, _, hln, ?_⟩
          (conv=>whnf);repeat((first|refine zD ?_|refine zA ?_|refine zT ?_|refine zF ?_);conv=>whnf)
          refine And.intro (fun g => absurd g (by rw [hem]; decide)) (fun _ => ?_)
          (conv=>whnf);repeat((first|refine zD ?_|refine zA ?_|refine zT ?_|refine zF ?_);conv=>whnf)
          refine ⟨by show (K i).size + l.size ≤ _; omega, ?_⟩
          (conv=>whnf);repeat((first|refine zD ?_|refine zA ?_|refine zT ?_|refine zF ?_);conv=>whnf)
          refine ⟨by rw [ByteArray.size_append]; show (K i).size + l.size + 1 ≤ _; omega, ?_⟩
          (conv=>whnf);repeat((first|refine zD ?_|refine zA ?_|refine zT ?_|refine zF ?_);conv=>whnf)
          refine again (i + 1) ⟨hlt, hfi2⟩ (Nat.sub_lt_sub_left hlt (Nat.lt_succ_self i)) ?_
          (refine zA (zA ?_));(repeat' (first|exact trivial|with_reducible exact cvB_refl _|exact rfl|apply And.intro))
          all_goals first
            | exact congrArg (Value.int .i64) (w64_nat (by omega))
            | exact congrArg Value.string k2.symm
      · obtain rfl : i = x.length := by
          have : ¬ i < x.length := by simpa [acLen] using h
          omega
        rw [List.take_length] at hfi
        rw [hyes hfi]
        by_cases hb : 65536 < (K x.length).size
        · rw [if_pos hb]
          (conv=>whnf);repeat((first|refine zD ?_|refine zA ?_|refine zT ?_|refine zF ?_);conv=>whnf)
          refine And.intro (fun _ => ?_) (fun g => by have := of_decide_eq_false g; omega)
          (conv=>whnf);repeat((first|refine zD ?_|refine zA ?_|refine zT ?_|refine zF ?_);conv=>whnf)
          refine Exists.intro [] (And.intro List.nodup_nil ?_); ((conv=>whnf);repeat((first|refine zD ?_|refine zA ?_|refine zT ?_|refine zF ?_);conv=>whnf))
          rfl
        · rw [if_neg hb]
          (conv=>whnf);repeat((first|refine zD ?_|refine zA ?_|refine zT ?_|refine zF ?_);conv=>whnf)
          refine And.intro (fun g => by have := of_decide_eq_true g; omega) (fun _ => ?_)
          (conv=>whnf);repeat((first|refine zD ?_|refine zA ?_|refine zT ?_|refine zF ?_);conv=>whnf)
          refine Exists.intro [] (And.intro List.nodup_nil ?_); ((conv=>whnf);repeat((first|refine zD ?_|refine zA ?_|refine zT ?_|refine zF ?_);conv=>whnf))
          exact congrArg (fun s => AT.tup [strV s, i64V 0]) hk1.symm
    · have e : fmt c x = ([], 19) := by unfold fmt; rw [if_pos h0, if_pos (by omega)]
      rw [e]
      refine fun_of_vc tabOk mixOk Tryz.func10 rfl (by rfl) (rs := [.tmp 4, .tmp 5]) rfl rfl 46 ?_; rw [Tryz.ntmps10]
      (conv=>whnf);repeat((first|refine zD ?_|refine zA ?_|refine zT ?_|refine zF ?_);conv=>whnf)
      refine ⟨_, _, hck, ?_⟩
      (conv=>whnf);repeat((first|refine zD ?_|refine zA ?_|refine zT ?_|refine zF ?_);conv=>whnf)
      refine And.intro (fun _ => ?_) (fun h => by have := of_decide_eq_false h; rw [acLen] at this; omega)
      (conv=>whnf);repeat((first|refine zD ?_|refine zA ?_|refine zT ?_|refine zF ?_);conv=>whnf)
      refine Exists.intro [] (And.intro List.nodup_nil ?_); ((conv=>whnf);repeat((first|refine zD ?_|refine zA ?_|refine zT ?_|refine zF ?_);conv=>whnf))
      rfl
  · have e : fmt c x = ([], cfChk c) := by unfold fmt; rw [if_neg h0]
    rw [e]
    generalize cfChk c = e at hck h0
    refine fun_of_vc tabOk mixOk Tryz.func10 rfl (by rfl) (rs := [.tmp 4, .tmp 5]) rfl rfl 46 ?_; rw [Tryz.ntmps10]
    (conv=>whnf);repeat((first|refine zD ?_|refine zA ?_|refine zT ?_|refine zF ?_);conv=>whnf)
    refine ⟨_, _, hck, ?_⟩
    (conv=>whnf);repeat((first|refine zD ?_|refine zA ?_|refine zT ?_|refine zF ?_);conv=>whnf)
    refine And.intro (fun _ => ?_) (fun h => absurd (by simpa using h) h0)
    (conv=>whnf);repeat((first|refine zD ?_|refine zA ?_|refine zT ?_|refine zF ?_);conv=>whnf)
    refine Exists.intro [] (And.intro List.nodup_nil ?_); ((conv=>whnf);repeat((first|refine zD ?_|refine zA ?_|refine zT ?_|refine zF ?_);conv=>whnf))
    rfl
end Go.Proofs.YtikchieadclbhaaGreatDoor.Ab
