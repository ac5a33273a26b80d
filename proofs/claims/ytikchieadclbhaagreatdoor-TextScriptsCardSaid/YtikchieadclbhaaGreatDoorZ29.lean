/- The line of an action. No condition. -/
import Derived.Test.YtikchieadclbhaaGreatDoorZ28
namespace Go.Proofs.YtikchieadclbhaaGreatDoor.Ab
set_option linter.unusedVariables false
set_option linter.unusedSimpArgs false
open Go.RowKit

def acB (k n ck cb : Int) (s : ByteArray) (kp : List Int) : AV := .agg [.i (.sc (.int .i64 k)), .i (.sc (.int .i64 n)), .i (.sc (.int .i64 ck)), .i (.sc (.int .i64 cb)), .i (.sc (.string s)), .i (.sl (wV kp))]
def acV (a : Ac) : AV := acB a.k a.n a.ck a.cb (sS a.cd) a.kp
theorem sData (s : ByteArray) : s.data.toList = [] ↔ s = ⟨#[]⟩ := by
  constructor
  · intro h; exact sL_inj h
  · rintro rfl; rfl
/-- What a line can be, way by way. -/
theorem tline_unfit {k n ck cb : Int} {cd : List UInt8} {kp : List Int} (h : fit n = false) : tline ⟨k, n, ck, cb, cd, kp⟩ = [] := by unfold tline; rw [if_pos h]
theorem tline_sub {n ck cb : Int} {cd : List UInt8} (h : fit n = true) (hr : cRight ck cb cd = true) : tline ⟨1, n, ck, cb, cd, []⟩ = joinW 32 (cWs ck cb cd [Lib.itoa n]) := by
  unfold tline; rw [if_neg (by simp [h]), if_pos rfl, if_pos ⟨rfl, hr⟩]
theorem tline_wrong {n ck cb : Int} {cd : List UInt8} {kp : List Int} (h : kp ≠ [] ∨ cRight ck cb cd = false) : tline ⟨1, n, ck, cb, cd, kp⟩ = [] := by
  unfold tline
  split
  · rfl
  · rw [if_pos rfl, if_neg]
    rintro ⟨h1, h2⟩
    rcases h with h | h
    · exact h h1
    · dsimp only at h2; rw [h] at h2; cases h2
theorem tline_cmd {k n ck cb : Int} {cd : List UInt8} {kp : List Int} (hk : k ≠ 1) (h : ¬ (ck = 0 ∧ cb = 0 ∧ cd = [])) : tline ⟨k, n, ck, cb, cd, kp⟩ = [] := by
  unfold tline
  dsimp only
  by_cases hf : fit n = false
  · rw [if_pos hf]
  · rw [if_neg hf, if_neg hk, if_pos h]
theorem tline_crash {n : Int} {kp : List Int} (h : fit n = true) : tline ⟨4, n, 0, 0, [], kp⟩ = if n = 0 then crL kp else [] := by
  unfold tline crL
  dsimp only
  rw [if_neg (by simp [h]), if_neg (show ¬ (4 : Int) = 1 by decide), if_neg (by simp), if_pos rfl]
  by_cases hn : n = 0
  · simp [hn]
  · simp [hn]
theorem tline_keep {k n : Int} {kp : List Int} (h1 : k ≠ 1) (h4 : k ≠ 4) (h : kp ≠ []) : tline ⟨k, n, 0, 0, [], kp⟩ = [] := by
  unfold tline
  dsimp only
  by_cases hf : fit n = false
  · rw [if_pos hf]
  · rw [if_neg hf, if_neg h1, if_neg (by simp), if_neg h4, if_pos h]
theorem tline_rest {k n : Int} (h : fit n = true) (h1 : k ≠ 1) (h4 : k ≠ 4) : tline ⟨k, n, 0, 0, [], []⟩ = if k = 2 then wStep ++ 32 :: Lib.itoa n else if n ≠ 0 then [] else if k = 3 then wSave else if k = 5 then wClose else [] := by
  unfold tline
  dsimp only
  rw [if_neg (by simp [h]), if_neg h1, if_neg (by simp), if_neg h4, if_neg (by simp)]
  rfl
set_option maxRecDepth 100000 in
set_option maxHeartbeats 16000000 in
theorem lineF_sub (n ck cb : Int) (s : ByteArray) (kp : List Int) (hf : fit n = true) : Fun Tryz.prog 16 [acB 1 n ck cb s kp] [] (.v (strV (sS (tline ⟨1, n, ck, cb, s.data.toList, kp⟩)))) := by
  have hfn := fitsF n
  rw [hf] at hfn
  cases kp with
  | cons x l =>
    rw [tline_wrong (Or.inl (List.cons_ne_nil _ _))]
    refine fun_of_vc tabOk mixOk Tryz.func16 rfl (by rfl) (rs := [.tmp 2]) rfl rfl 69 ?_; rw [Tryz.ntmps16]
    (conv=>whnf);repeat((first|refine zD ?_|refine zA ?_|refine zT ?_|refine zF ?_);conv=>whnf)
    refine ⟨_, _, hfn, ?_⟩
    (conv=>whnf);repeat((first|refine zD ?_|refine zA ?_|refine zT ?_|refine zF ?_);conv=>whnf)
    refine And.intro (fun h => ?_) (fun h => ?_)
    · (conv=>whnf);repeat((first|refine zD ?_|refine zA ?_|refine zT ?_|refine zF ?_);conv=>whnf)
      refine Exists.intro [] (And.intro List.nodup_nil ?_); ((conv=>whnf);repeat((first|refine zD ?_|refine zA ?_|refine zT ?_|refine zF ?_);conv=>whnf))
      rfl
    · exfalso
      have := of_decide_eq_false h
      simp [wV] at this
  | nil =>
    have hr := rightF ck cb s
    cases hc : cRight ck cb s.data.toList with
    | false =>
      rw [tline_wrong (Or.inr hc)]
      rw [hc] at hr
      refine fun_of_vc tabOk mixOk Tryz.func16 rfl (by rfl) (rs := [.tmp 2]) rfl rfl 69 ?_; rw [Tryz.ntmps16]
      (conv=>whnf);repeat((first|refine zD ?_|refine zA ?_|refine zT ?_|refine zF ?_);conv=>whnf)
      refine ⟨_, _, hfn, ?_⟩
      (conv=>whnf);repeat((first|refine zD ?_|refine zA ?_|refine zT ?_|refine zF ?_);conv=>whnf)
      refine ⟨_, _, hr, ?_⟩
      (conv=>whnf);repeat((first|refine zD ?_|refine zA ?_|refine zT ?_|refine zF ?_);conv=>whnf)
      refine Exists.intro [] (And.intro List.nodup_nil ?_); ((conv=>whnf);repeat((first|refine zD ?_|refine zA ?_|refine zT ?_|refine zF ?_);conv=>whnf))
      rfl
    | true =>
      rw [tline_sub hf hc]
      rw [hc] at hr
      have hsz : s.size ≤ 16 := by
        have := (of_decide_eq_true hc).2.1
        have h2 : s.data.toList.length = s.size := rfl
        rw [h2] at this
        split at this <;> omega
      have hw := wordsF ck cb s [n] (by simp) (by omega)
      have hb := (of_decide_eq_true hc).2.2.1
      have e : (wdsB ck cb s [n]).map (·.data.toList) = cWs ck cb s.data.toList [Lib.itoa n] := by
        unfold wdsB cWs
        rw [List.map_cons, List.map_append, List.map_append, knd_kW]
        have h3 := decS_fit hf
        have h4 := decS_fit hb
        simp only [List.map_cons, List.map_nil, h3]
        congr 2
        split
        · split <;> rfl
        · split
          · simp only [List.map_cons, List.map_nil, h4]; rfl
          · simp only [List.map_cons, List.map_nil, h4]
      rw [e] at hw
      show Fun Tryz.prog 16 _ [] (.v (strV ⟨(joinW 32 (cWs ck cb s.data.toList [Lib.itoa n])).toArray⟩))
      generalize (⟨(joinW 32 (cWs ck cb s.data.toList [Lib.itoa n])).toArray⟩ : ByteArray) = R at hw ⊢
      clear e hsz hb
      refine fun_of_vc tabOk mixOk Tryz.func16 rfl (by rfl) (rs := [.tmp 2]) rfl rfl 69 ?_; rw [Tryz.ntmps16]
      (conv=>whnf);repeat((first|refine zD ?_|refine zA ?_|refine zT ?_|refine zF ?_);conv=>whnf)
      refine ⟨_, _, hfn, ?_⟩
      (conv=>whnf);repeat((first|refine zD ?_|refine zA ?_|refine zT ?_|refine zF ?_);conv=>whnf)
      refine ⟨_, _, hr, ?_⟩
      (conv=>whnf);repeat((first|refine zD ?_|refine zA ?_|refine zT ?_|refine zF ?_);conv=>whnf)
      refine ⟨_, _, hw, ?_⟩
      (conv=>whnf);repeat((first|refine zD ?_|refine zA ?_|refine zT ?_|refine zF ?_);conv=>whnf)
      refine Exists.intro [] (And.intro List.nodup_nil ?_); ((conv=>whnf);repeat((first|refine zD ?_|refine zA ?_|refine zT ?_|refine zF ?_);conv=>whnf))
      rfl
theorem cmd_ne {ck cb : Int} {s : ByteArray} (h : ¬ (ck = 0 ∧ cb = 0 ∧ s.data.toList = [])) : (ck == 0 && (cb == 0 && (s.toList == ByteArray.empty.toList && true))) = false := by
  cases hb : (ck == 0 && (cb == 0 && (s.toList == ByteArray.empty.toList && true))) with
  | false => rfl
  | true =>
    simp only [Bool.and_eq_true, beq_iff_eq] at hb
    refine absurd ⟨hb.1, hb.2.1, ?_⟩ h
    have := hb.2.2.1
    rw [toList_eq, toList_eq] at this
    exact this
set_option maxRecDepth 100000 in
set_option maxHeartbeats 16000000 in
theorem lineF_cmd (k n ck cb : Int) (s : ByteArray) (kp : List Int) (hf : fit n = true) (hk : k ≠ 1) (h : ¬ (ck = 0 ∧ cb = 0 ∧ s.data.toList = [])) : Fun Tryz.prog 16 [acB k n ck cb s kp] [] (.v (strV (sS (tline ⟨k, n, ck, cb, s.data.toList, kp⟩)))) := by
  have hfn := fitsF n
  rw [hf] at hfn
  rw [tline_cmd hk h]
  have hc := cmd_ne h
  refine fun_of_vc tabOk mixOk Tryz.func16 rfl (by rfl) (rs := [.tmp 2]) rfl rfl 69 ?_; rw [Tryz.ntmps16]
  (conv=>whnf);repeat((first|refine zD ?_|refine zA ?_|refine zT ?_|refine zF ?_);conv=>whnf)
  refine ⟨_, _, hfn, ?_⟩
  (conv=>whnf);repeat((first|refine zD ?_|refine zA ?_|refine zT ?_|refine zF ?_);conv=>whnf)
  refine And.intro (fun _ => ?_) (fun h => absurd (by simpa using h) hk)
  (conv=>whnf);repeat((first|refine zD ?_|refine zA ?_|refine zT ?_|refine zF ?_);conv=>whnf)
  refine And.intro (fun _ => ?_) (fun h2 => absurd h2 (by rw [hc]; decide))
  (conv=>whnf);repeat((first|refine zD ?_|refine zA ?_|refine zT ?_|refine zF ?_);conv=>whnf)
  refine Exists.intro [] (And.intro List.nodup_nil ?_); ((conv=>whnf);repeat((first|refine zD ?_|refine zA ?_|refine zT ?_|refine zF ?_);conv=>whnf))
  rfl
set_option maxRecDepth 100000 in
set_option maxHeartbeats 16000000 in
theorem lineF_crash (n : Int) (kp : List Int) (hf : fit n = true) : Fun Tryz.prog 16 [acB 4 n 0 0 ByteArray.empty kp] [] (.v (strV (sS (tline ⟨4, n, 0, 0, [], kp⟩)))) := by
  have hfn := fitsF n
  rw [hf] at hfn
  rw [tline_crash hf]
  have hc := crashF kp
  by_cases h0 : n = 0
  · subst h0
    rw [if_pos rfl]
    refine fun_of_vc tabOk mixOk Tryz.func16 rfl (by rfl) (rs := [.tmp 2]) rfl rfl 69 ?_; rw [Tryz.ntmps16]
    (conv=>whnf);repeat((first|refine zD ?_|refine zA ?_|refine zT ?_|refine zF ?_);conv=>whnf)
    refine ⟨_, _, hfn, ?_⟩
    (conv=>whnf);repeat((first|refine zD ?_|refine zA ?_|refine zT ?_|refine zF ?_);conv=>whnf)
    refine And.intro (fun h => absurd h (by simp)) (fun _ => ?_)
    (conv=>whnf);repeat((first|refine zD ?_|refine zA ?_|refine zT ?_|refine zF ?_);conv=>whnf)
    refine ⟨_, _, hc, ?_⟩
    (conv=>whnf);repeat((first|refine zD ?_|refine zA ?_|refine zT ?_|refine zF ?_);conv=>whnf)
    refine Exists.intro [] (And.intro List.nodup_nil ?_); ((conv=>whnf);repeat((first|refine zD ?_|refine zA ?_|refine zT ?_|refine zF ?_);conv=>whnf))
    rfl
  · rw [if_neg h0]
    refine fun_of_vc tabOk mixOk Tryz.func16 rfl (by rfl) (rs := [.tmp 2]) rfl rfl 69 ?_; rw [Tryz.ntmps16]
    (conv=>whnf);repeat((first|refine zD ?_|refine zA ?_|refine zT ?_|refine zF ?_);conv=>whnf)
    refine ⟨_, _, hfn, ?_⟩
    (conv=>whnf);repeat((first|refine zD ?_|refine zA ?_|refine zT ?_|refine zF ?_);conv=>whnf)
    refine And.intro (fun h => absurd h (by simp)) (fun _ => ?_)
    (conv=>whnf);repeat((first|refine zD ?_|refine zA ?_|refine zT ?_|refine zF ?_);conv=>whnf)
    refine And.intro (fun _ => ?_) (fun h => absurd (by simpa using h) h0)
    (conv=>whnf);repeat((first|refine zD ?_|refine zA ?_|refine zT ?_|refine zF ?_);conv=>whnf)
    refine Exists.intro [] (And.intro List.nodup_nil ?_); ((conv=>whnf);repeat((first|refine zD ?_|refine zA ?_|refine zT ?_|refine zF ?_);conv=>whnf))
    rfl
set_option maxRecDepth 100000 in
set_option maxHeartbeats 16000000 in
theorem lineF_keep (k n : Int) (kp : List Int) (hf : fit n = true) (h1 : k ≠ 1) (h4 : k ≠ 4) (hne : kp ≠ []) : Fun Tryz.prog 16 [acB k n 0 0 ByteArray.empty kp] [] (.v (strV (sS (tline ⟨k, n, 0, 0, [], kp⟩)))) := by
  have hfn := fitsF n
  rw [hf] at hfn
  rw [tline_keep h1 h4 hne]
  obtain ⟨x, l, rfl⟩ : ∃ x l, kp = x :: l := by cases kp with | nil => exact absurd rfl hne | cons x l => exact ⟨x, l, rfl⟩
  refine fun_of_vc tabOk mixOk Tryz.func16 rfl (by rfl) (rs := [.tmp 2]) rfl rfl 69 ?_; rw [Tryz.ntmps16]
  (conv=>whnf);repeat((first|refine zD ?_|refine zA ?_|refine zT ?_|refine zF ?_);conv=>whnf)
  refine ⟨_, _, hfn, ?_⟩
  (conv=>whnf);repeat((first|refine zD ?_|refine zA ?_|refine zT ?_|refine zF ?_);conv=>whnf)
  refine And.intro (fun _ => ?_) (fun h => absurd (by simpa using h) h1)
  (conv=>whnf);repeat((first|refine zD ?_|refine zA ?_|refine zT ?_|refine zF ?_);conv=>whnf)
  refine And.intro (fun h => absurd h (by simp)) (fun _ => ?_)
  (conv=>whnf);repeat((first|refine zD ?_|refine zA ?_|refine zT ?_|refine zF ?_);conv=>whnf)
  refine And.intro (fun _ => ?_) (fun h => absurd (by simpa using h) h4)
  (conv=>whnf);repeat((first|refine zD ?_|refine zA ?_|refine zT ?_|refine zF ?_);conv=>whnf)
  refine And.intro (fun h => ?_) (fun h => ?_)
  · (conv=>whnf);repeat((first|refine zD ?_|refine zA ?_|refine zT ?_|refine zF ?_);conv=>whnf)
    refine Exists.intro [] (And.intro List.nodup_nil ?_); ((conv=>whnf);repeat((first|refine zD ?_|refine zA ?_|refine zT ?_|refine zF ?_);conv=>whnf))
    rfl
  · exfalso
    have := of_decide_eq_false h
    simp [wV] at this
set_option maxRecDepth 100000 in
set_option maxHeartbeats 16000000 in
theorem lineF_rest (k n : Int) (hf : fit n = true) (h1 : k ≠ 1) (h4 : k ≠ 4) : Fun Tryz.prog 16 [acB k n 0 0 ByteArray.empty []] [] (.v (strV (sS (tline ⟨k, n, 0, 0, [], []⟩)))) := by
  have hfn := fitsF n
  have hi := itoSF hf
  have hil := itoS_size hf
  rw [hf] at hfn
  rw [tline_rest hf h1 h4]
  by_cases h2 : k = 2
  · subst h2
    have e : sS (wStep ++ 32 :: Lib.itoa n) = ⟨#[115, 116, 101, 112, 32]⟩ ++ itoS n := by
      apply sL_inj
      rw [sL_append]
      rfl
    rw [if_pos rfl, e]
    generalize itoS n = J at hi hil ⊢
    refine fun_of_vc tabOk mixOk Tryz.func16 rfl (by rfl) (rs := [.tmp 2]) rfl rfl 69 ?_; rw [Tryz.ntmps16]
    (conv=>whnf);repeat((first|refine zD ?_|refine zA ?_|refine zT ?_|refine zF ?_);conv=>whnf)
    refine ⟨_, _, hfn, ?_⟩
    (conv=>whnf);repeat((first|refine zD ?_|refine zA ?_|refine zT ?_|refine zF ?_);conv=>whnf)
    refine And.intro (fun h => absurd h (by simp)) (fun _ => ?_)
    (conv=>whnf);repeat((first|refine zD ?_|refine zA ?_|refine zT ?_|refine zF ?_);conv=>whnf)
    refine ⟨_, _, hi, ?_⟩
    (conv=>whnf);repeat((first|refine zD ?_|refine zA ?_|refine zT ?_|refine zF ?_);conv=>whnf)
    refine ⟨by show 5 + J.size ≤ _; omega, ?_⟩
    (conv=>whnf);repeat((first|refine zD ?_|refine zA ?_|refine zT ?_|refine zF ?_);conv=>whnf)
    refine Exists.intro [] (And.intro List.nodup_nil ?_); ((conv=>whnf);repeat((first|refine zD ?_|refine zA ?_|refine zT ?_|refine zF ?_);conv=>whnf))
    rfl
  rw [if_neg h2]
  by_cases hn : n = 0
  · rw [if_neg (fun h => h hn)]
    subst hn
    by_cases h3 : k = 3
    · subst h3
      refine fun_of_vc tabOk mixOk Tryz.func16 rfl (by rfl) (rs := [.tmp 2]) rfl rfl 69 ?_; rw [Tryz.ntmps16]
      (conv=>whnf);repeat((first|refine zD ?_|refine zA ?_|refine zT ?_|refine zF ?_);conv=>whnf)
      refine ⟨_, _, hfn, ?_⟩
      (conv=>whnf);repeat((first|refine zD ?_|refine zA ?_|refine zT ?_|refine zF ?_);conv=>whnf)
      refine And.intro (fun h => absurd h (by simp)) (fun _ => ?_)
      (conv=>whnf);repeat((first|refine zD ?_|refine zA ?_|refine zT ?_|refine zF ?_);conv=>whnf)
      refine Exists.intro [] (And.intro List.nodup_nil ?_); ((conv=>whnf);repeat((first|refine zD ?_|refine zA ?_|refine zT ?_|refine zF ?_);conv=>whnf))
      rfl
    by_cases h5 : k = 5
    · subst h5
      refine fun_of_vc tabOk mixOk Tryz.func16 rfl (by rfl) (rs := [.tmp 2]) rfl rfl 69 ?_; rw [Tryz.ntmps16]
      (conv=>whnf);repeat((first|refine zD ?_|refine zA ?_|refine zT ?_|refine zF ?_);conv=>whnf)
      refine ⟨_, _, hfn, ?_⟩
      (conv=>whnf);repeat((first|refine zD ?_|refine zA ?_|refine zT ?_|refine zF ?_);conv=>whnf)
      refine And.intro (fun h => absurd h (by simp)) (fun _ => ?_)
      (conv=>whnf);repeat((first|refine zD ?_|refine zA ?_|refine zT ?_|refine zF ?_);conv=>whnf)
      refine Exists.intro [] (And.intro List.nodup_nil ?_); ((conv=>whnf);repeat((first|refine zD ?_|refine zA ?_|refine zT ?_|refine zF ?_);conv=>whnf))
      rfl
    rw [if_neg h3, if_neg h5]
    refine fun_of_vc tabOk mixOk Tryz.func16 rfl (by rfl) (rs := [.tmp 2]) rfl rfl 69 ?_; rw [Tryz.ntmps16]
    (conv=>whnf);repeat((first|refine zD ?_|refine zA ?_|refine zT ?_|refine zF ?_);conv=>whnf)
    refine ⟨_, _, hfn, ?_⟩
    (conv=>whnf);repeat((first|refine zD ?_|refine zA ?_|refine zT ?_|refine zF ?_);conv=>whnf)
    refine And.intro (fun _ => ?_) (fun h => absurd (by simpa using h) h1)
    (conv=>whnf);repeat((first|refine zD ?_|refine zA ?_|refine zT ?_|refine zF ?_);conv=>whnf)
    refine And.intro (fun h => absurd h (by simp)) (fun _ => ?_)
    (conv=>whnf);repeat((first|refine zD ?_|refine zA ?_|refine zT ?_|refine zF ?_);conv=>whnf)
    repeat' (first | ((refine And.intro (fun h => ?_) (fun h => ?_)) <;> (try simp at h) <;> ((conv=>whnf);repeat((first|refine zD ?_|refine zA ?_|refine zT ?_|refine zF ?_);conv=>whnf))) | fail)
    all_goals first
      | (exfalso; simp_all; done)
      | (refine Exists.intro [] (And.intro List.nodup_nil ?_); ((conv=>whnf);repeat((first|refine zD ?_|refine zA ?_|refine zT ?_|refine zF ?_);conv=>whnf))
         rfl)
  · rw [if_pos hn]
    by_cases h3 : k > 2
    · refine fun_of_vc tabOk mixOk Tryz.func16 rfl (by rfl) (rs := [.tmp 2]) rfl rfl 69 ?_; rw [Tryz.ntmps16]
      (conv=>whnf);repeat((first|refine zD ?_|refine zA ?_|refine zT ?_|refine zF ?_);conv=>whnf)
      refine ⟨_, _, hfn, ?_⟩
      (conv=>whnf);repeat((first|refine zD ?_|refine zA ?_|refine zT ?_|refine zF ?_);conv=>whnf)
      refine And.intro (fun _ => ?_) (fun h => absurd (by simpa using h) h1)
      (conv=>whnf);repeat((first|refine zD ?_|refine zA ?_|refine zT ?_|refine zF ?_);conv=>whnf)
      refine And.intro (fun h => absurd h (by simp)) (fun _ => ?_)
      (conv=>whnf);repeat((first|refine zD ?_|refine zA ?_|refine zT ?_|refine zF ?_);conv=>whnf)
      repeat' (first | ((refine And.intro (fun h => ?_) (fun h => ?_)) <;> (try simp at h) <;> ((conv=>whnf);repeat((first|refine zD ?_|refine zA ?_|refine zT ?_|refine zF ?_);conv=>whnf))) | fail)
      all_goals first
        | (refine Exists.intro [] (And.intro List.nodup_nil ?_); ((conv=>whnf);repeat((first|refine zD ?_|refine zA ?_|refine zT ?_|refine zF ?_);conv=>whnf))
           rfl)
        | (exfalso; simp_all; done)
        | (exfalso; simp_all; omega)
    · refine fun_of_vc tabOk mixOk Tryz.func16 rfl (by rfl) (rs := [.tmp 2]) rfl rfl 69 ?_; rw [Tryz.ntmps16]
      (conv=>whnf);repeat((first|refine zD ?_|refine zA ?_|refine zT ?_|refine zF ?_);conv=>whnf)
      refine ⟨_, _, hfn, ?_⟩
      (conv=>whnf);repeat((first|refine zD ?_|refine zA ?_|refine zT ?_|refine zF ?_);conv=>whnf)
      refine And.intro (fun _ => ?_) (fun h => absurd (by simpa using h) h1)
      (conv=>whnf);repeat((first|refine zD ?_|refine zA ?_|refine zT ?_|refine zF ?_);conv=>whnf)
      refine And.intro (fun h => absurd h (by simp)) (fun _ => ?_)
      (conv=>whnf);repeat((first|refine zD ?_|refine zA ?_|refine zT ?_|refine zF ?_);conv=>whnf)
      repeat' (first | ((refine And.intro (fun h => ?_) (fun h => ?_)) <;> (try simp at h) <;> ((conv=>whnf);repeat((first|refine zD ?_|refine zA ?_|refine zT ?_|refine zF ?_);conv=>whnf))) | fail)
      all_goals first
        | (refine Exists.intro [] (And.intro List.nodup_nil ?_); ((conv=>whnf);repeat((first|refine zD ?_|refine zA ?_|refine zT ?_|refine zF ?_);conv=>whnf))
           rfl)
        | (exfalso; simp_all; done)
        | (exfalso; simp_all; omega)
set_option maxRecDepth 100000 in
theorem lineF_unfit (k n ck cb : Int) (s : ByteArray) (kp : List Int) (hf : fit n = false) : Fun Tryz.prog 16 [acB k n ck cb s kp] [] (.v (strV (sS (tline ⟨k, n, ck, cb, s.data.toList, kp⟩)))) := by
  have hfn := fitsF n
  rw [hf] at hfn
  rw [tline_unfit hf]
  refine fun_of_vc tabOk mixOk Tryz.func16 rfl (by rfl) (rs := [.tmp 2]) rfl rfl 69 ?_; rw [Tryz.ntmps16]
  (conv=>whnf);repeat((first|refine zD ?_|refine zA ?_|refine zT ?_|refine zF ?_);conv=>whnf)
  refine ⟨_, _, hfn, ?_⟩
  (conv=>whnf);repeat((first|refine zD ?_|refine zA ?_|refine zT ?_|refine zF ?_);conv=>whnf)
  refine Exists.intro [] (And.intro List.nodup_nil ?_); ((conv=>whnf);repeat((first|refine zD ?_|refine zA ?_|refine zT ?_|refine zF ?_);conv=>whnf))
  rfl
theorem lineB (k n ck cb : Int) (s : ByteArray) (kp : List Int) : Fun Tryz.prog 16 [acB k n ck cb s kp] [] (.v (strV (sS (tline ⟨k, n, ck, cb, s.data.toList, kp⟩)))) := by
  cases hf : fit n with
  | false => exact lineF_unfit k n ck cb s kp hf
  | true =>
    by_cases h1 : k = 1
    · subst h1; exact lineF_sub n ck cb s kp hf
    by_cases hc : ck = 0 ∧ cb = 0 ∧ s.data.toList = []
    · obtain ⟨rfl, rfl, h⟩ := hc
      obtain rfl : s = ByteArray.empty := sL_inj h
      by_cases h4 : k = 4
      · subst h4; exact lineF_crash n kp hf
      by_cases hk : kp = []
      · subst hk; exact lineF_rest k n hf h1 h4
      · exact lineF_keep k n kp hf h1 h4 hk
    · exact lineF_cmd k n ck cb s kp hf h1 hc
theorem lineF (a : Ac) : Fun Tryz.prog 16 [acV a] [] (.v (strV (sS (tline a)))) := lineB a.k a.n a.ck a.cb (sS a.cd) a.kp
end Go.Proofs.YtikchieadclbhaaGreatDoor.Ab
