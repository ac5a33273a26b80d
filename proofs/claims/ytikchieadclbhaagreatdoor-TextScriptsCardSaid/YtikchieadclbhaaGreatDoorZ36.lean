/- The document's line of an action. No condition. -/
import Derived.Test.YtikchieadclbhaaGreatDoorZ33
import Derived.Test.YtikchieadclbhaaGreatDoorZ35
namespace Go.Proofs.YtikchieadclbhaaGreatDoor.Ab
set_option linter.unusedVariables false
set_option linter.unusedSimpArgs false
open Go.RowKit

theorem right_cases {ck cb : Int} {s : ByteArray} (h : cRight ck cb s.data.toList = true) : fit cb = true ∧ ((ck = 1 ∧ s = ByteArray.empty) ∨ (ck = 2 ∧ s.size = 16) ∨ (ck = 3 ∧ s = ByteArray.empty) ∨ (ck = 4 ∧ cb = 0 ∧ s = ByteArray.empty)) := by
  have h := of_decide_eq_true h
  refine ⟨h.2.2.1, ?_⟩
  have hl : s.data.toList.length = s.size := rfl
  have he : s.data.toList.length = 0 → s = ByteArray.empty := fun e => sL_inj (List.length_eq_zero_iff.1 e)
  rcases kW_cases h.1 with rfl | rfl | rfl | rfl
  · exact Or.inl ⟨rfl, he h.2.1⟩
  · exact Or.inr (Or.inl ⟨rfl, h.2.1⟩)
  · exact Or.inr (Or.inr (Or.inl ⟨rfl, he h.2.1⟩))
  · exact Or.inr (Or.inr (Or.inr ⟨rfl, h.2.2.2.resolve_left (fun g => g rfl), he h.2.1⟩))
def b32 : ByteArray := ⟨#[32]⟩
set_option maxRecDepth 100000 in
set_option maxHeartbeats 16000000 in
theorem wordsR (ck cb n : Int) (s : ByteArray) (hr : cRight ck cb s.data.toList = true) (hf : fit n = true) : Fun Tryz.prog 45 [cmV ck cb s, strV (b32 ++ itoS n)] [] (.v (strV (sS (joinW 32 (cWs ck cb s.data.toList [Lib.itoa n]))))) := by
  obtain ⟨hb, hcs⟩ := right_cases hr
  have hk := kindF' ck cb s
  have hks := knd_size ck
  have hd := dR cb hb
  have hds := itoS_size hb
  have hqs : (b32 ++ itoS n).size ≤ 15 := by
    rw [ByteArray.size_append]
    have := itoS_size hf
    show 1 + (itoS n).size ≤ 15
    omega
  rcases hcs with ⟨rfl, rfl⟩ | ⟨rfl, hs⟩ | ⟨rfl, rfl⟩ | ⟨rfl, rfl, rfl⟩
  · have e : sS (joinW 32 (cWs 1 cb ByteArray.empty.data.toList [Lib.itoa n])) = knd 1 ++ (b32 ++ itoS n) ++ b32 ++ itoS cb := by
      apply sL_inj
      rw [sL_append, sL_append, sL_append, sL_append]
      show kW 1 ++ 32 :: (Lib.itoa n ++ 32 :: Lib.itoa cb) = wRead ++ (32 :: Lib.itoa n) ++ [32] ++ Lib.itoa cb
      simp [kW]
    rw [e]
    generalize knd 1 = K at hk hks ⊢
    generalize b32 ++ itoS n = q at hqs ⊢
    generalize itoS cb = D at hd hds ⊢
    refine fun_of_vc tabOk mixOk Tryz.func45 rfl (by rfl) (rs := [.tmp 4]) rfl rfl 33 ?_; rw [Tryz.ntmps45]
    (conv=>whnf);repeat((first|refine zD ?_|refine zA ?_|refine zT ?_|refine zF ?_);conv=>whnf)
    refine ⟨_, _, hk, ?_⟩
    (conv=>whnf);repeat((first|refine zD ?_|refine zA ?_|refine zT ?_|refine zF ?_);conv=>whnf)
    refine ⟨by omega, ?_⟩
    (conv=>whnf);repeat((first|refine zD ?_|refine zA ?_|refine zT ?_|refine zF ?_);conv=>whnf)
    refine ⟨by rw [ByteArray.size_append]; show K.size + q.size + 1 ≤ _; omega, ?_⟩
    (conv=>whnf);repeat((first|refine zD ?_|refine zA ?_|refine zT ?_|refine zF ?_);conv=>whnf)
    refine ⟨_, _, hd, ?_⟩
    (conv=>whnf);repeat((first|refine zD ?_|refine zA ?_|refine zT ?_|refine zF ?_);conv=>whnf)
    refine ⟨by rw [ByteArray.size_append, ByteArray.size_append]; show K.size + q.size + 1 + D.size ≤ _; omega, ?_⟩
    (conv=>whnf);repeat((first|refine zD ?_|refine zA ?_|refine zT ?_|refine zF ?_);conv=>whnf)
    refine Exists.intro [] (And.intro List.nodup_nil ?_); ((conv=>whnf);repeat((first|refine zD ?_|refine zA ?_|refine zT ?_|refine zF ?_);conv=>whnf))
    rfl
  · have hx := hexR s (by omega)
    have hxs := hexS_size s
    have e : sS (joinW 32 (cWs 2 cb s.data.toList [Lib.itoa n])) = knd 2 ++ (b32 ++ itoS n) ++ b32 ++ itoS cb ++ b32 ++ hexS s := by
      apply sL_inj
      rw [sL_append, sL_append, sL_append, sL_append, sL_append, sL_append]
      show kW 2 ++ 32 :: (Lib.itoa n ++ 32 :: (Lib.itoa cb ++ 32 :: hexL s.data.toList)) = wWrite ++ (32 :: Lib.itoa n) ++ [32] ++ Lib.itoa cb ++ [32] ++ hexL s.data.toList
      simp [kW]
    rw [e]
    generalize knd 2 = K at hk hks ⊢
    generalize b32 ++ itoS n = q at hqs ⊢
    generalize itoS cb = D at hd hds ⊢
    generalize hexS s = X at hx hxs ⊢
    refine fun_of_vc tabOk mixOk Tryz.func45 rfl (by rfl) (rs := [.tmp 4]) rfl rfl 33 ?_; rw [Tryz.ntmps45]
    (conv=>whnf);repeat((first|refine zD ?_|refine zA ?_|refine zT ?_|refine zF ?_);conv=>whnf)
    refine ⟨_, _, hk, ?_⟩
    (conv=>whnf);repeat((first|refine zD ?_|refine zA ?_|refine zT ?_|refine zF ?_);conv=>whnf)
    refine ⟨by omega, ?_⟩
    (conv=>whnf);repeat((first|refine zD ?_|refine zA ?_|refine zT ?_|refine zF ?_);conv=>whnf)
    refine ⟨by rw [ByteArray.size_append]; show K.size + q.size + 1 ≤ _; omega, ?_⟩
    (conv=>whnf);repeat((first|refine zD ?_|refine zA ?_|refine zT ?_|refine zF ?_);conv=>whnf)
    refine ⟨_, _, hd, ?_⟩
    (conv=>whnf);repeat((first|refine zD ?_|refine zA ?_|refine zT ?_|refine zF ?_);conv=>whnf)
    refine ⟨by rw [ByteArray.size_append, ByteArray.size_append]; show K.size + q.size + 1 + D.size ≤ _; omega, ?_⟩
    (conv=>whnf);repeat((first|refine zD ?_|refine zA ?_|refine zT ?_|refine zF ?_);conv=>whnf)
    refine ⟨by rw [ByteArray.size_append, ByteArray.size_append, ByteArray.size_append]; show K.size + q.size + 1 + D.size + 1 ≤ _; omega, ?_⟩
    (conv=>whnf);repeat((first|refine zD ?_|refine zA ?_|refine zT ?_|refine zF ?_);conv=>whnf)
    refine ⟨_, _, hx, ?_⟩
    (conv=>whnf);repeat((first|refine zD ?_|refine zA ?_|refine zT ?_|refine zF ?_);conv=>whnf)
    refine ⟨by rw [ByteArray.size_append, ByteArray.size_append, ByteArray.size_append, ByteArray.size_append]; show K.size + q.size + 1 + D.size + 1 + X.size ≤ _; omega, ?_⟩
    (conv=>whnf);repeat((first|refine zD ?_|refine zA ?_|refine zT ?_|refine zF ?_);conv=>whnf)
    refine Exists.intro [] (And.intro List.nodup_nil ?_); ((conv=>whnf);repeat((first|refine zD ?_|refine zA ?_|refine zT ?_|refine zF ?_);conv=>whnf))
    rfl
  · have e : sS (joinW 32 (cWs 3 cb ByteArray.empty.data.toList [Lib.itoa n])) = knd 3 ++ (b32 ++ itoS n) ++ b32 ++ itoS cb := by
      apply sL_inj
      rw [sL_append, sL_append, sL_append, sL_append]
      show kW 3 ++ 32 :: (Lib.itoa n ++ 32 :: Lib.itoa cb) = wTrim ++ (32 :: Lib.itoa n) ++ [32] ++ Lib.itoa cb
      simp [kW]
    rw [e]
    generalize knd 3 = K at hk hks ⊢
    generalize b32 ++ itoS n = q at hqs ⊢
    generalize itoS cb = D at hd hds ⊢
    refine fun_of_vc tabOk mixOk Tryz.func45 rfl (by rfl) (rs := [.tmp 4]) rfl rfl 33 ?_; rw [Tryz.ntmps45]
    (conv=>whnf);repeat((first|refine zD ?_|refine zA ?_|refine zT ?_|refine zF ?_);conv=>whnf)
    refine ⟨_, _, hk, ?_⟩
    (conv=>whnf);repeat((first|refine zD ?_|refine zA ?_|refine zT ?_|refine zF ?_);conv=>whnf)
    refine ⟨by omega, ?_⟩
    (conv=>whnf);repeat((first|refine zD ?_|refine zA ?_|refine zT ?_|refine zF ?_);conv=>whnf)
    refine ⟨by rw [ByteArray.size_append]; show K.size + q.size + 1 ≤ _; omega, ?_⟩
    (conv=>whnf);repeat((first|refine zD ?_|refine zA ?_|refine zT ?_|refine zF ?_);conv=>whnf)
    refine ⟨_, _, hd, ?_⟩
    (conv=>whnf);repeat((first|refine zD ?_|refine zA ?_|refine zT ?_|refine zF ?_);conv=>whnf)
    refine ⟨by rw [ByteArray.size_append, ByteArray.size_append]; show K.size + q.size + 1 + D.size ≤ _; omega, ?_⟩
    (conv=>whnf);repeat((first|refine zD ?_|refine zA ?_|refine zT ?_|refine zF ?_);conv=>whnf)
    refine Exists.intro [] (And.intro List.nodup_nil ?_); ((conv=>whnf);repeat((first|refine zD ?_|refine zA ?_|refine zT ?_|refine zF ?_);conv=>whnf))
    rfl
  · have e : sS (joinW 32 (cWs 4 0 ByteArray.empty.data.toList [Lib.itoa n])) = knd 4 ++ (b32 ++ itoS n) := by
      apply sL_inj
      rw [sL_append, sL_append]
      show kW 4 ++ 32 :: (Lib.itoa n) = wFlush ++ (32 :: Lib.itoa n)
      simp [kW]
    rw [e]
    generalize knd 4 = K at hk hks ⊢
    generalize b32 ++ itoS n = q at hqs ⊢
    refine fun_of_vc tabOk mixOk Tryz.func45 rfl (by rfl) (rs := [.tmp 4]) rfl rfl 33 ?_; rw [Tryz.ntmps45]
    (conv=>whnf);repeat((first|refine zD ?_|refine zA ?_|refine zT ?_|refine zF ?_);conv=>whnf)
    refine ⟨_, _, hk, ?_⟩
    (conv=>whnf);repeat((first|refine zD ?_|refine zA ?_|refine zT ?_|refine zF ?_);conv=>whnf)
    refine ⟨by omega, ?_⟩
    (conv=>whnf);repeat((first|refine zD ?_|refine zA ?_|refine zT ?_|refine zF ?_);conv=>whnf)
    refine Exists.intro [] (And.intro List.nodup_nil ?_); ((conv=>whnf);repeat((first|refine zD ?_|refine zA ?_|refine zT ?_|refine zF ?_);conv=>whnf))
    rfl
theorem knd_ne {k : Int} (h : kW k ≠ []) : ¬ ((knd k).toList == ByteArray.empty.toList) = true := by
  intro g
  rw [eqS, knd_kW] at g
  exact h (of_decide_eq_true g)
set_option maxRecDepth 100000 in
set_option maxHeartbeats 16000000 in
/-- A command that has a line, on a queue. -/
theorem lineR_sub (n ck cb : Int) (s : ByteArray) (hfi : fineB n cb [] = true) (hr : cRight ck cb s.data.toList = true) : Fun Tryz.prog 24 [acB 1 n ck cb s []] [] (.v (strV (sS (tline ⟨1, n, ck, cb, s.data.toList, []⟩)))) := by
  have hf : fit n = true := by
    cases h : fit n with
    | true => rfl
    | false => unfold fineB at hfi; rw [h] at hfi; cases hfi
  rw [tline_sub hf hr]
  have hw := wordsR ck cb n s hr hf
  have hk := kindF' ck cb s
  have hfn := fineF 1 n ck cb s []
  rw [hfi] at hfn
  have hd := dR n hf
  have hds := itoS_size hf
  generalize joinW 32 (cWs ck cb s.data.toList [Lib.itoa n]) = R at hw ⊢
  generalize itoS n = D at hd hds hw
  obtain ⟨hb, hcs⟩ := right_cases hr
  rcases hcs with ⟨rfl, rfl⟩ | ⟨rfl, hs⟩ | ⟨rfl, rfl⟩ | ⟨rfl, rfl, rfl⟩
  · refine fun_of_vc tabOk mixOk Tryz.func24 rfl (by rfl) (rs := [.tmp 2]) rfl rfl 101 ?_; rw [Tryz.ntmps24]
    (conv=>whnf);repeat((first|refine zD ?_|refine zA ?_|refine zT ?_|refine zF ?_);conv=>whnf)
    refine ⟨_, _, hfn, ?_⟩
    (conv=>whnf);repeat((first|refine zD ?_|refine zA ?_|refine zT ?_|refine zF ?_);conv=>whnf)
    refine And.intro (fun h => absurd h (by simp)) (fun _ => ?_)
    (conv=>whnf);repeat((first|refine zD ?_|refine zA ?_|refine zT ?_|refine zF ?_);conv=>whnf)
    refine ⟨_, _, hk, ?_⟩
    (conv=>whnf);repeat((first|refine zD ?_|refine zA ?_|refine zT ?_|refine zF ?_);conv=>whnf)
    refine And.intro (fun h => absurd h (knd_ne (by decide))) (fun _ => ?_)
    (conv=>whnf);repeat((first|refine zD ?_|refine zA ?_|refine zT ?_|refine zF ?_);conv=>whnf)
    refine ⟨_, _, hd, ?_⟩
    (conv=>whnf);repeat((first|refine zD ?_|refine zA ?_|refine zT ?_|refine zF ?_);conv=>whnf)
    refine ⟨by show 1 + D.size ≤ _; omega, ?_⟩
    (conv=>whnf);repeat((first|refine zD ?_|refine zA ?_|refine zT ?_|refine zF ?_);conv=>whnf)
    refine ⟨_, _, hw, ?_⟩
    (conv=>whnf);repeat((first|refine zD ?_|refine zA ?_|refine zT ?_|refine zF ?_);conv=>whnf)
    refine Exists.intro [] (And.intro List.nodup_nil ?_); ((conv=>whnf);repeat((first|refine zD ?_|refine zA ?_|refine zT ?_|refine zF ?_);conv=>whnf))
    rfl
  · refine fun_of_vc tabOk mixOk Tryz.func24 rfl (by rfl) (rs := [.tmp 2]) rfl rfl 101 ?_; rw [Tryz.ntmps24]
    (conv=>whnf);repeat((first|refine zD ?_|refine zA ?_|refine zT ?_|refine zF ?_);conv=>whnf)
    refine ⟨_, _, hfn, ?_⟩
    (conv=>whnf);repeat((first|refine zD ?_|refine zA ?_|refine zT ?_|refine zF ?_);conv=>whnf)
    refine And.intro (fun h => absurd h (by rw [hs]; decide)) (fun _ => ?_)
    (conv=>whnf);repeat((first|refine zD ?_|refine zA ?_|refine zT ?_|refine zF ?_);conv=>whnf)
    refine ⟨_, _, hk, ?_⟩
    (conv=>whnf);repeat((first|refine zD ?_|refine zA ?_|refine zT ?_|refine zF ?_);conv=>whnf)
    refine And.intro (fun h => absurd h (knd_ne (by decide))) (fun _ => ?_)
    (conv=>whnf);repeat((first|refine zD ?_|refine zA ?_|refine zT ?_|refine zF ?_);conv=>whnf)
    refine ⟨_, _, hd, ?_⟩
    (conv=>whnf);repeat((first|refine zD ?_|refine zA ?_|refine zT ?_|refine zF ?_);conv=>whnf)
    refine ⟨by show 1 + D.size ≤ _; omega, ?_⟩
    (conv=>whnf);repeat((first|refine zD ?_|refine zA ?_|refine zT ?_|refine zF ?_);conv=>whnf)
    refine ⟨_, _, hw, ?_⟩
    (conv=>whnf);repeat((first|refine zD ?_|refine zA ?_|refine zT ?_|refine zF ?_);conv=>whnf)
    refine Exists.intro [] (And.intro List.nodup_nil ?_); ((conv=>whnf);repeat((first|refine zD ?_|refine zA ?_|refine zT ?_|refine zF ?_);conv=>whnf))
    rfl
  · refine fun_of_vc tabOk mixOk Tryz.func24 rfl (by rfl) (rs := [.tmp 2]) rfl rfl 101 ?_; rw [Tryz.ntmps24]
    (conv=>whnf);repeat((first|refine zD ?_|refine zA ?_|refine zT ?_|refine zF ?_);conv=>whnf)
    refine ⟨_, _, hfn, ?_⟩
    (conv=>whnf);repeat((first|refine zD ?_|refine zA ?_|refine zT ?_|refine zF ?_);conv=>whnf)
    refine And.intro (fun h => absurd h (by simp)) (fun _ => ?_)
    (conv=>whnf);repeat((first|refine zD ?_|refine zA ?_|refine zT ?_|refine zF ?_);conv=>whnf)
    refine ⟨_, _, hk, ?_⟩
    (conv=>whnf);repeat((first|refine zD ?_|refine zA ?_|refine zT ?_|refine zF ?_);conv=>whnf)
    refine And.intro (fun h => absurd h (knd_ne (by decide))) (fun _ => ?_)
    (conv=>whnf);repeat((first|refine zD ?_|refine zA ?_|refine zT ?_|refine zF ?_);conv=>whnf)
    refine ⟨_, _, hd, ?_⟩
    (conv=>whnf);repeat((first|refine zD ?_|refine zA ?_|refine zT ?_|refine zF ?_);conv=>whnf)
    refine ⟨by show 1 + D.size ≤ _; omega, ?_⟩
    (conv=>whnf);repeat((first|refine zD ?_|refine zA ?_|refine zT ?_|refine zF ?_);conv=>whnf)
    refine ⟨_, _, hw, ?_⟩
    (conv=>whnf);repeat((first|refine zD ?_|refine zA ?_|refine zT ?_|refine zF ?_);conv=>whnf)
    refine Exists.intro [] (And.intro List.nodup_nil ?_); ((conv=>whnf);repeat((first|refine zD ?_|refine zA ?_|refine zT ?_|refine zF ?_);conv=>whnf))
    rfl
  · refine fun_of_vc tabOk mixOk Tryz.func24 rfl (by rfl) (rs := [.tmp 2]) rfl rfl 101 ?_; rw [Tryz.ntmps24]
    (conv=>whnf);repeat((first|refine zD ?_|refine zA ?_|refine zT ?_|refine zF ?_);conv=>whnf)
    refine ⟨_, _, hfn, ?_⟩
    (conv=>whnf);repeat((first|refine zD ?_|refine zA ?_|refine zT ?_|refine zF ?_);conv=>whnf)
    refine And.intro (fun h => absurd h (by simp)) (fun _ => ?_)
    (conv=>whnf);repeat((first|refine zD ?_|refine zA ?_|refine zT ?_|refine zF ?_);conv=>whnf)
    refine ⟨_, _, hk, ?_⟩
    (conv=>whnf);repeat((first|refine zD ?_|refine zA ?_|refine zT ?_|refine zF ?_);conv=>whnf)
    refine And.intro (fun h => absurd h (knd_ne (by decide))) (fun _ => ?_)
    (conv=>whnf);repeat((first|refine zD ?_|refine zA ?_|refine zT ?_|refine zF ?_);conv=>whnf)
    refine ⟨_, _, hd, ?_⟩
    (conv=>whnf);repeat((first|refine zD ?_|refine zA ?_|refine zT ?_|refine zF ?_);conv=>whnf)
    refine ⟨by show 1 + D.size ≤ _; omega, ?_⟩
    (conv=>whnf);repeat((first|refine zD ?_|refine zA ?_|refine zT ?_|refine zF ?_);conv=>whnf)
    refine ⟨_, _, hw, ?_⟩
    (conv=>whnf);repeat((first|refine zD ?_|refine zA ?_|refine zT ?_|refine zF ?_);conv=>whnf)
    refine Exists.intro [] (And.intro List.nodup_nil ?_); ((conv=>whnf);repeat((first|refine zD ?_|refine zA ?_|refine zT ?_|refine zF ?_);conv=>whnf))
    rfl
set_option maxRecDepth 100000 in
set_option maxHeartbeats 16000000 in
theorem lineR_kp (n ck cb : Int) (s : ByteArray) (x : Int) (l : List Int) (hfi : fineB n cb (x :: l) = true) : Fun Tryz.prog 24 [acB 1 n ck cb s (x :: l)] [] (.v (strV (sS (tline ⟨1, n, ck, cb, s.data.toList, x :: l⟩)))) := by
  rw [tline_wrong (Or.inl (List.cons_ne_nil _ _))]
  have hfn := fineF 1 n ck cb s (x :: l)
  rw [hfi] at hfn
  have hlen : decide (((wV (x :: l)).length : Int) > 0) = true := by simp [wV]
  refine fun_of_vc tabOk mixOk Tryz.func24 rfl (by rfl) (rs := [.tmp 2]) rfl rfl 101 ?_; rw [Tryz.ntmps24]
  (conv=>whnf);repeat((first|refine zD ?_|refine zA ?_|refine zT ?_|refine zF ?_);conv=>whnf)
  refine ⟨_, _, hfn, ?_⟩
  (conv=>whnf);repeat((first|refine zD ?_|refine zA ?_|refine zT ?_|refine zF ?_);conv=>whnf)
  repeat' (first | ((refine And.intro (fun h => ?_) (fun h => ?_)) <;> (try simp at h) <;> ((conv=>whnf);repeat((first|refine zD ?_|refine zA ?_|refine zT ?_|refine zF ?_);conv=>whnf))) | fail)
  all_goals first
    | (refine Exists.intro [] (And.intro List.nodup_nil ?_); ((conv=>whnf);repeat((first|refine zD ?_|refine zA ?_|refine zT ?_|refine zF ?_);conv=>whnf))
       rfl)
    | (exfalso; simp_all; done)
set_option maxRecDepth 100000 in
set_option maxHeartbeats 16000000 in
theorem lineR_kind (n ck cb : Int) (s : ByteArray) (hfi : fineB n cb [] = true) (hw : kW ck = []) : Fun Tryz.prog 24 [acB 1 n ck cb s []] [] (.v (strV (sS (tline ⟨1, n, ck, cb, s.data.toList, []⟩)))) := by
  rw [tline_wrong (Or.inr (decide_eq_false (fun h => h.1 hw)))]
  have hfn := fineF 1 n ck cb s []
  rw [hfi] at hfn
  have hk := kindF' ck cb s
  rw [knd_kW, hw] at hk
  have h0 : ((⟨([] : List UInt8).toArray⟩ : ByteArray).toList == ByteArray.empty.toList) = true := by rw [eqS]; decide
  refine fun_of_vc tabOk mixOk Tryz.func24 rfl (by rfl) (rs := [.tmp 2]) rfl rfl 101 ?_; rw [Tryz.ntmps24]
  (conv=>whnf);repeat((first|refine zD ?_|refine zA ?_|refine zT ?_|refine zF ?_);conv=>whnf)
  refine ⟨_, _, hfn, ?_⟩
  (conv=>whnf);repeat((first|refine zD ?_|refine zA ?_|refine zT ?_|refine zF ?_);conv=>whnf)
  repeat' (first | ((refine And.intro (fun h => ?_) (fun h => ?_)) <;> (try simp at h) <;> ((conv=>whnf);repeat((first|refine zD ?_|refine zA ?_|refine zT ?_|refine zF ?_);conv=>whnf))) | (refine ⟨_, _, hk, ?_⟩; ((conv=>whnf);repeat((first|refine zD ?_|refine zA ?_|refine zT ?_|refine zF ?_);conv=>whnf))) | fail)
  all_goals first
    | (refine Exists.intro [] (And.intro List.nodup_nil ?_); ((conv=>whnf);repeat((first|refine zD ?_|refine zA ?_|refine zT ?_|refine zF ?_);conv=>whnf))
       rfl)
    | (exfalso; simp_all; done)
set_option maxRecDepth 100000 in
set_option maxHeartbeats 16000000 in
theorem lineR_data (n ck cb : Int) (s : ByteArray) (hfi : fineB n cb [] = true) (hk : ck = 1 ∨ ck = 2 ∨ ck = 3 ∨ ck = 4) (hd : s.data.toList.length ≠ (if ck = 2 then 16 else 0)) : Fun Tryz.prog 24 [acB 1 n ck cb s []] [] (.v (strV (sS (tline ⟨1, n, ck, cb, s.data.toList, []⟩)))) := by
  rw [tline_wrong (Or.inr (decide_eq_false (fun h => hd h.2.1)))]
  have hfn := fineF 1 n ck cb s []
  rw [hfi] at hfn
  have hl : s.data.toList.length = s.size := rfl
  have h0 : ck ≠ 2 → (s.toList == (⟨#[]⟩ : ByteArray).toList) = false := fun h => by
    rw [show (⟨#[]⟩ : ByteArray) = ByteArray.empty from rfl, empty_iff]
    refine decide_eq_false (fun g => hd ?_)
    rw [g, if_neg h]; rfl
  have h1 : ck = 2 → ((s.size : Int) == 16) = false := fun h => by
    rw [if_pos h, hl] at hd
    simp only [beq_eq_false_iff_ne]
    omega
  rcases hk with rfl | rfl | rfl | rfl
  all_goals
    (refine fun_of_vc tabOk mixOk Tryz.func24 rfl (by rfl) (rs := [.tmp 2]) rfl rfl 101 ?_; rw [Tryz.ntmps24])
    ((conv=>whnf);repeat((first|refine zD ?_|refine zA ?_|refine zT ?_|refine zF ?_);conv=>whnf))
    refine ⟨_, _, hfn, ?_⟩
    ((conv=>whnf);repeat((first|refine zD ?_|refine zA ?_|refine zT ?_|refine zF ?_);conv=>whnf))
  · have h0 := h0 (by decide)
    refine And.intro (fun _ => ?_) (fun h => absurd h (by rw [h0]; decide))
    (conv=>whnf);repeat((first|refine zD ?_|refine zA ?_|refine zT ?_|refine zF ?_);conv=>whnf)
    refine Exists.intro [] (And.intro List.nodup_nil ?_); ((conv=>whnf);repeat((first|refine zD ?_|refine zA ?_|refine zT ?_|refine zF ?_);conv=>whnf))
    rfl
  · have h1 := h1 rfl
    refine And.intro (fun _ => ?_) (fun h => absurd h (by rw [h1]; decide))
    (conv=>whnf);repeat((first|refine zD ?_|refine zA ?_|refine zT ?_|refine zF ?_);conv=>whnf)
    refine Exists.intro [] (And.intro List.nodup_nil ?_); ((conv=>whnf);repeat((first|refine zD ?_|refine zA ?_|refine zT ?_|refine zF ?_);conv=>whnf))
    rfl
  · have h0 := h0 (by decide)
    refine And.intro (fun _ => ?_) (fun h => absurd h (by rw [h0]; decide))
    (conv=>whnf);repeat((first|refine zD ?_|refine zA ?_|refine zT ?_|refine zF ?_);conv=>whnf)
    refine Exists.intro [] (And.intro List.nodup_nil ?_); ((conv=>whnf);repeat((first|refine zD ?_|refine zA ?_|refine zT ?_|refine zF ?_);conv=>whnf))
    rfl
  · have h0 := h0 (by decide)
    refine And.intro (fun _ => ?_) (fun h => absurd h (by rw [h0]; decide))
    (conv=>whnf);repeat((first|refine zD ?_|refine zA ?_|refine zT ?_|refine zF ?_);conv=>whnf)
    refine Exists.intro [] (And.intro List.nodup_nil ?_); ((conv=>whnf);repeat((first|refine zD ?_|refine zA ?_|refine zT ?_|refine zF ?_);conv=>whnf))
    rfl
set_option maxRecDepth 100000 in
set_option maxHeartbeats 16000000 in
theorem lineR_flush (n cb : Int) (hfi : fineB n cb [] = true) (hb : cb ≠ 0) : Fun Tryz.prog 24 [acB 1 n 4 cb ByteArray.empty []] [] (.v (strV (sS (tline ⟨1, n, 4, cb, [], []⟩)))) := by
  rw [tline_wrong (Or.inr (decide_eq_false (fun h => h.2.2.2.elim (fun g => g rfl) hb)))]
  have hfn := fineF 1 n 4 cb ByteArray.empty []
  rw [hfi] at hfn
  refine fun_of_vc tabOk mixOk Tryz.func24 rfl (by rfl) (rs := [.tmp 2]) rfl rfl 101 ?_; rw [Tryz.ntmps24]
  (conv=>whnf);repeat((first|refine zD ?_|refine zA ?_|refine zT ?_|refine zF ?_);conv=>whnf)
  refine ⟨_, _, hfn, ?_⟩
  (conv=>whnf);repeat((first|refine zD ?_|refine zA ?_|refine zT ?_|refine zF ?_);conv=>whnf)
  refine And.intro (fun h => absurd h (by simp)) (fun _ => ?_)
  (conv=>whnf);repeat((first|refine zD ?_|refine zA ?_|refine zT ?_|refine zF ?_);conv=>whnf)
  refine And.intro (fun _ => ?_) (fun h => absurd (by simpa using h) hb)
  (conv=>whnf);repeat((first|refine zD ?_|refine zA ?_|refine zT ?_|refine zF ?_);conv=>whnf)
  refine Exists.intro [] (And.intro List.nodup_nil ?_); ((conv=>whnf);repeat((first|refine zD ?_|refine zA ?_|refine zT ?_|refine zF ?_);conv=>whnf))
  rfl
theorem lineR_1 (n ck cb : Int) (s : ByteArray) (kp : List Int) (hfi : fineB n cb kp = true) : Fun Tryz.prog 24 [acB 1 n ck cb s kp] [] (.v (strV (sS (tline ⟨1, n, ck, cb, s.data.toList, kp⟩)))) := by
  cases kp with
  | cons x l => exact lineR_kp n ck cb s x l hfi
  | nil =>
    by_cases hw : kW ck = []
    · exact lineR_kind n ck cb s hfi hw
    by_cases hd : s.data.toList.length = (if ck = 2 then 16 else 0)
    · by_cases h4 : ck = 4 ∧ cb ≠ 0
      · obtain ⟨rfl, hb⟩ := h4
        obtain rfl : s = ByteArray.empty := sL_inj (List.length_eq_zero_iff.1 hd)
        exact lineR_flush n cb hfi hb
      · refine lineR_sub n ck cb s hfi (decide_eq_true ⟨hw, hd, ?_, ?_⟩)
        · unfold fineB at hfi
          cases h : fit cb with
          | true => rfl
          | false => rw [h] at hfi; simp at hfi
        · by_cases h : ck = 4
          · right
            by_cases hb : cb = 0
            · exact hb
            · exact absurd ⟨h, hb⟩ h4
          · exact Or.inl h
    · exact lineR_data n ck cb s hfi (kW_cases hw) hd
end Go.Proofs.YtikchieadclbhaaGreatDoor.Ab
