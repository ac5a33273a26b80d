/- The law of scripts. No condition. -/
import Derived.Test.YtikchieadclbhaaGreatDoorZ49
namespace Go.Proofs.YtikchieadclbhaaGreatDoor.Ab
set_option linter.unusedVariables false
set_option linter.unusedSimpArgs false
open Go.RowKit

theorem kp_next {l : List Ac} {i : Nat} (h : i < l.length) (h1 : ∀ a ∈ l.take i, a.kp.length ≤ 60) (h2 : l[i].kp.length ≤ 60) : ∀ a ∈ l.take (i + 1), a.kp.length ≤ 60 := by
  intro a ha
  rw [take_snoc h] at ha
  rcases List.mem_append.1 ha with ha | ha
  · exact h1 a ha
  · rw [List.mem_singleton.1 ha]
    exact h2
set_option maxRecDepth 100000 in
set_option maxHeartbeats 16000000 in
theorem scriptsF (L : List Int) (odd : List Ac) (at_ : Int) (b : UInt8) (hL : L.length ≤ 140737488355328) (hO : odd.length ≤ 140737488355328) : Fun Tryz.prog 3 [slV (wV L), slV (acR odd), i64V at_, u8V b.toNat] [] (ATbool true) := by
  have hlight := lightF L hL
  have aw := awakeF
  by_cases hl : L.length ≤ 300
  rotate_left
  · rw [decide_eq_false hl] at hlight
    refine fun_of_vc tabOk mixOk Tryz.func3 rfl (by rfl) (rs := [.tmp 8]) rfl rfl 191 ?_; rw [Tryz.ntmps3]
    (conv=>whnf);repeat((first|refine zD ?_|refine zA ?_|refine zT ?_|refine zF ?_);conv=>whnf)
    refine ⟨_, _, hlight, ?_⟩
    (conv=>whnf);repeat((first|refine zD ?_|refine zA ?_|refine zT ?_|refine zF ?_);conv=>whnf)
    refine ⟨_, _, aw, ?_⟩
    (conv=>whnf);repeat((first|refine zD ?_|refine zA ?_|refine zT ?_|refine zF ?_);conv=>whnf)
    refine Exists.intro [] (And.intro List.nodup_nil ?_); ((conv=>whnf);repeat((first|refine zD ?_|refine zA ?_|refine zT ?_|refine zF ?_);conv=>whnf))
    rfl
  rw [decide_eq_true hl] at hlight
  have hroll := rollF L (by omega)
  by_cases ho : 10 < odd.length
  · refine fun_of_vc tabOk mixOk Tryz.func3 rfl (by rfl) (rs := [.tmp 8]) rfl rfl 191 ?_; rw [Tryz.ntmps3]
    (conv=>whnf);repeat((first|refine zD ?_|refine zA ?_|refine zT ?_|refine zF ?_);conv=>whnf)
    refine ⟨_, _, hlight, ?_⟩
    (conv=>whnf);repeat((first|refine zD ?_|refine zA ?_|refine zT ?_|refine zF ?_);conv=>whnf)
    refine And.intro (fun _ => ?_) (fun g => absurd (of_decide_eq_false g) (by rw [acLen]; omega))
    (conv=>whnf);repeat((first|refine zD ?_|refine zA ?_|refine zT ?_|refine zF ?_);conv=>whnf)
    refine ⟨_, _, aw, ?_⟩
    (conv=>whnf);repeat((first|refine zD ?_|refine zA ?_|refine zT ?_|refine zF ?_);conv=>whnf)
    refine Exists.intro [] (And.intro List.nodup_nil ?_); ((conv=>whnf);repeat((first|refine zD ?_|refine zA ?_|refine zT ?_|refine zF ?_);conv=>whnf))
    rfl
  obtain ⟨c, k1, k2, x, F1, F2, hS, hsc, hf1, hf2, hx1, hx2, hw, hodd⟩ := scEnv L at_ b hl
  clear hL hO hl
  obtain ⟨cz, cs, cb, cq, cd, ch⟩ := c
  refine fun_of_vc (tabXOk [8000008, 4000061]) mixOk Tryz.func3 rfl (by rfl) (rs := [.tmp 8]) rfl rfl 191 ?_; rw [Tryz.ntmps3]
  (conv=>whnf);repeat((first|refine zD ?_|refine zA ?_|refine zT ?_|refine zF ?_);conv=>whnf)
  refine ⟨_, _, hlight, ?_⟩
  (conv=>whnf);repeat((first|refine zD ?_|refine zA ?_|refine zT ?_|refine zF ?_);conv=>whnf)
  refine And.intro (fun g => absurd (of_decide_eq_true g) (by rw [acLen]; omega)) (fun _ => ?_)
  (conv=>whnf);repeat((first|refine zD ?_|refine zA ?_|refine zT ?_|refine zF ?_);conv=>whnf)
  refine ⟨_, _, hroll, ?_⟩
  (conv=>whnf);repeat((first|refine zD ?_|refine zA ?_|refine zT ?_|refine zF ?_);conv=>whnf)
  refine ⟨_, _, hS, ?_⟩
  (conv=>whnf);repeat((first|refine zD ?_|refine zA ?_|refine zT ?_|refine zF ?_);conv=>whnf)
  refine ⟨_, _, _, _, hsc, ?_⟩
  (conv=>whnf);repeat((first|refine zD ?_|refine zA ?_|refine zT ?_|refine zF ?_);conv=>whnf)
  refine ⟨_, _, hf1, ?_⟩
  (conv=>whnf);repeat((first|refine zD ?_|refine zA ?_|refine zT ?_|refine zF ?_);conv=>whnf)
  refine ⟨_, _, hf2, ?_⟩
  (conv=>whnf);repeat((first|refine zD ?_|refine zA ?_|refine zT ?_|refine zF ?_);conv=>whnf)
  refine And.intro (fun g => absurd g (by simp)) (fun _ => ?_)
  (conv=>whnf);repeat((first|refine zD ?_|refine zA ?_|refine zT ?_|refine zF ?_);conv=>whnf)
  refine And.intro (fun g => absurd g (by simp)) (fun _ => ?_)
  (conv=>whnf);repeat((first|refine zD ?_|refine zA ?_|refine zT ?_|refine zF ?_);conv=>whnf)
  refine vc_join [1, 10] [10] (X := Unit) (fun _ gs => [(11, .v (.c (.own 39 (gs 39))))]) (fun _ gs => [(39, .row (gs 39) 41 6 (acR x))]) (fun _ => True) ?_ ?_
  · (conv=>whnf);repeat((first|refine zD ?_|refine zA ?_|refine zT ?_|refine zF ?_);conv=>whnf)
    refine And.intro (fun g => ?_) (fun g => ?_)
    · have g0 : F2 = 0 := by simpa using g
      obtain ⟨i, B1, B2, B3, W⟩ := hw g0
      subst g0
      clear hodd hw g
      (conv=>whnf);repeat((first|refine zD ?_|refine zA ?_|refine zT ?_|refine zF ?_);conv=>whnf)
      refine ⟨_, _, W.parse, ?_⟩
      (conv=>whnf);repeat((first|refine zD ?_|refine zA ?_|refine zT ?_|refine zF ?_);conv=>whnf)
      refine And.intro (fun g => absurd g (by simp)) (fun _ => ?_)
      (conv=>whnf);repeat((first|refine zD ?_|refine zA ?_|refine zT ?_|refine zF ?_);conv=>whnf)
      refine And.intro (fun g => absurd g (by simp)) (fun _ => ?_)
      (conv=>whnf);repeat((first|refine zD ?_|refine zA ?_|refine zT ?_|refine zF ?_);conv=>whnf)
      refine vc_loop [1, 2, 3, 10, 12, 17] [10] (X := Nat) (fun k gs' => [(20, ATint k), (11, .v (.c (.own 39 (gs' 39))))]) (fun k gs' => [(39, .row (gs' 39) 41 6 (acR x))]) (fun k => k ≤ x.length) (fun k => x.length - k) _ (Ghost.refl _) 0 (Nat.zero_le _) ?_ ?_
      · (refine zA (zA ?_));(repeat' (first|exact trivial|with_reducible exact cvB_refl _|exact rfl|apply And.intro))
      intro gs' k hk
      have hk : k ≤ x.length := hk
      (conv=>whnf);repeat((first|refine zD ?_|refine zA ?_|refine zT ?_|refine zF ?_);conv=>whnf)
      refine And.intro (fun h => ?_) (fun h => ?_)
      · have hlt : k < x.length := by simpa [acLen] using h
        have hsm := sameL_yes x[k].k x[k].n x[k].ck x[k].cb (sS x[k].cd) x[k].kp (Nat.le_trans (hx2 _ (List.getElem_mem hlt)) (by decide))
        (conv=>whnf);repeat((first|refine zD ?_|refine zA ?_|refine zT ?_|refine zF ?_);conv=>whnf)
        refine ⟨by omega, _, acItem hlt, rfl, ?_⟩
        (conv=>whnf);repeat((first|refine zD ?_|refine zA ?_|refine zT ?_|refine zF ?_);conv=>whnf)
        refine ⟨by omega, lt_of_get (acItem hlt), ?_⟩
        (conv=>whnf);repeat((first|refine zD ?_|refine zA ?_|refine zT ?_|refine zF ?_);conv=>whnf)
        refine ⟨_, acItem hlt, ?_⟩
        (conv=>whnf);repeat((first|refine zD ?_|refine zA ?_|refine zT ?_|refine zF ?_);conv=>whnf)
        refine ⟨_, _, hsm, ?_⟩
        (conv=>whnf);repeat((first|refine zD ?_|refine zA ?_|refine zT ?_|refine zF ?_);conv=>whnf)
        refine again (k + 1) hlt (Nat.sub_lt_sub_left hlt (Nat.lt_succ_self k)) ?_
        (refine zA (zA ?_));(repeat' (first|exact trivial|with_reducible exact cvB_refl _|exact rfl|apply And.intro))
        all_goals exact congrArg (Value.int .i64) (w64_nat (by omega))
      · clear h hk
        obtain ⟨ws, ws', w1, w2, w3, w4, w5⟩ := W.bytes
        have hmod := W.mod
        have hsz := W.size
        have ha1 := W.a1
        have hil := W.lt
        have hi1 : iwrap .i64 ((i : Int) + 1) = ((i + 1 : Nat) : Int) := w64_nat (by omega)
        have ha2 : Fun Tryz.prog 14 [strV (F1.extract (0 : Int).toNat (i : Int).toNat)] [] (ATbool true) := by
          rw [show F1.extract (0 : Int).toNat (i : Int).toNat = B2 from W.take]
          exact W.a2
        have ha3 : Fun Tryz.prog 14 [strV (F1.extract (0 : Int).toNat (i : Int).toNat ++ F1.extract ((i + 1 : Nat) : Int).toNat (F1.size : Int).toNat)] [] (ATbool true) := by
          rw [show F1.extract (0 : Int).toNat (i : Int).toNat ++ F1.extract ((i + 1 : Nat) : Int).toNat (F1.size : Int).toNat = B3 from (congrArg (· ++ F1.extract (i + 1) F1.size) W.take).trans W.cut]
          exact W.a3
        have hsz3 : (F1.extract (0 : Int).toNat (i : Int).toNat).size + (F1.extract ((i + 1 : Nat) : Int).toNat (F1.size : Int).toNat).size ≤ 9223372036854775807 := by
          have := W.sizes
          rw [← W.take] at this
          exact this
        clear W
        rw [w1] at hmod
        (conv=>whnf);repeat((first|refine zD ?_|refine zA ?_|refine zT ?_|refine zF ?_);conv=>whnf)
        refine ⟨by omega, ?_⟩
        rw [w1]
        (conv=>whnf);repeat((first|refine zD ?_|refine zA ?_|refine zT ?_|refine zF ?_);conv=>whnf)
        refine ⟨_, _, hmod, ?_⟩
        (conv=>whnf);repeat((first|refine zD ?_|refine zA ?_|refine zT ?_|refine zF ?_);conv=>whnf)
        refine ⟨Int.natCast_nonneg _, by rw [Int.toNat_natCast]; simpa [cVb] using w2, ?_⟩
        (conv=>whnf);repeat((first|refine zD ?_|refine zA ?_|refine zT ?_|refine zF ?_);conv=>whnf)
        refine ⟨_, gv_cVb_item (by rw [Int.toNat_natCast]; exact w2), ?_⟩
        (conv=>whnf);repeat((first|refine zD ?_|refine zA ?_|refine zT ?_|refine zF ?_);conv=>whnf)
        refine ⟨ws', w4, ?_⟩
        rw [w5]
        (conv=>whnf);repeat((first|refine zD ?_|refine zA ?_|refine zT ?_|refine zF ?_);conv=>whnf)
        refine ⟨_, _, ha1, ?_⟩
        (conv=>whnf);repeat((first|refine zD ?_|refine zA ?_|refine zT ?_|refine zF ?_);conv=>whnf)
        refine ⟨Int.le_refl _, Int.natCast_nonneg _, Int.ofNat_le.2 (Nat.le_of_lt hil), ?_⟩
        (conv=>whnf);repeat((first|refine zD ?_|refine zA ?_|refine zT ?_|refine zF ?_);conv=>whnf)
        refine ⟨_, _, ha2, ?_⟩
        (conv=>whnf);repeat((first|refine zD ?_|refine zA ?_|refine zT ?_|refine zF ?_);conv=>whnf)
        refine ⟨Int.le_refl _, Int.natCast_nonneg _, Int.ofNat_le.2 (Nat.le_of_lt hil), ?_⟩
        (conv=>whnf);repeat((first|refine zD ?_|refine zA ?_|refine zT ?_|refine zF ?_);conv=>whnf)
        rw [hi1]
        refine ⟨Int.natCast_nonneg _, Int.ofNat_le.2 hil, Int.le_refl _, ?_⟩
        (conv=>whnf);repeat((first|refine zD ?_|refine zA ?_|refine zT ?_|refine zF ?_);conv=>whnf)
        refine ⟨hsz3, ?_⟩
        (conv=>whnf);repeat((first|refine zD ?_|refine zA ?_|refine zT ?_|refine zF ?_);conv=>whnf)
        refine ⟨_, _, ha3, ?_⟩
        (conv=>whnf);repeat((first|refine zD ?_|refine zA ?_|refine zT ?_|refine zF ?_);conv=>whnf)
        refine joined () trivial ?_
        (refine zA (zA ?_));(repeat' (first|exact trivial|exact rfl|apply And.intro|(refine congrArg (Value.int .i64) (w64_nat ?_);omega)))
    · (conv=>whnf);repeat((first|refine zD ?_|refine zA ?_|refine zT ?_|refine zF ?_);conv=>whnf)
      refine joined () trivial ?_
      (refine zA (zA ?_));(repeat' (first|exact trivial|exact rfl|apply And.intro|(refine congrArg (Value.int .i64) (w64_nat ?_);omega)))
  intro gs _ _
  clear hw hf1 hf2 hS hsc hroll hlight
  (conv=>whnf);repeat((first|refine zD ?_|refine zA ?_|refine zT ?_|refine zF ?_);conv=>whnf)
  refine vc_loopF [1, 10] [10] (X := Nat × Option (Option Nat)) (fun y gs' => [(23, ATint y.1), (11, roomT 39 (gs' 39) 6 (acR x) y.2)]) (fun y gs' => [(39, roomB (gs' 39) 41 6 (acR x) (acR odd).length y.2)]) (fun y => y.1 ≤ odd.length ∧ (∀ a ∈ odd.take y.1, a.kp.length ≤ 60) ∧ roomI (acR x) (acR odd).length y.2) (fun y => odd.length - y.1) (fun W0 ok σ a w hC => ?_) ?_
  · rcases hC.room3 (acR odd).length (t := 11) (b := 39) rfl rfl rfl with ⟨e, h⟩ | h | ⟨cc, hc, h⟩
    · refine ⟨(0, none), _, ⟨Nat.zero_le _, by simp, e⟩, h, ?_⟩
      (refine zA (zA ?_));(repeat' (first|exact trivial|with_reducible exact cvB_refl _|exact rfl|apply And.intro))
    · refine ⟨(0, some none), _, ⟨Nat.zero_le _, by simp, trivial⟩, h, ?_⟩
      (refine zA (zA ?_));(repeat' (first|exact trivial|with_reducible exact cvB_refl _|exact rfl|apply And.intro))
    · refine ⟨(0, some (some cc)), _, ⟨Nat.zero_le _, by simp, hc⟩, h, ?_⟩
      (refine zA (zA ?_));(repeat' (first|exact trivial|with_reducible exact cvB_refl _|exact rfl|apply And.intro))
  rintro gs2 ⟨i, y⟩ ⟨hi, hkp, hy⟩
  dsimp only at hi hkp hy ⊢
  rcases y with _ | _ | cc
  · simp only [roomT, roomB]
    (conv=>whnf);repeat((first|refine zD ?_|refine zA ?_|refine zT ?_|refine zF ?_);conv=>whnf)
    refine And.intro (fun h => ?_) (fun h => ?_)
    · have hlt : i < odd.length := by simpa [acLen] using h
      (conv=>whnf);repeat((first|refine zD ?_|refine zA ?_|refine zT ?_|refine zF ?_);conv=>whnf)
      refine ⟨by omega, _, acItem hlt, rfl, ?_⟩
      (conv=>whnf);repeat((first|refine zD ?_|refine zA ?_|refine zT ?_|refine zF ?_);conv=>whnf)
      refine And.intro (fun h2 => ?_) (fun h2 => ?_)
      · (conv=>whnf);repeat((first|refine zD ?_|refine zA ?_|refine zT ?_|refine zF ?_);conv=>whnf)
        refine ⟨_, _, aw, ?_⟩
        (conv=>whnf);repeat((first|refine zD ?_|refine zA ?_|refine zT ?_|refine zF ?_);conv=>whnf)
        refine Exists.intro [] (And.intro List.nodup_nil ?_); ((conv=>whnf);repeat((first|refine zD ?_|refine zA ?_|refine zT ?_|refine zF ?_);conv=>whnf))
        rfl
      · (conv=>whnf);repeat((first|refine zD ?_|refine zA ?_|refine zT ?_|refine zF ?_);conv=>whnf)
        refine ⟨by omega, _, acItem hlt, rfl, ?_⟩
        (conv=>whnf);repeat((first|refine zD ?_|refine zA ?_|refine zT ?_|refine zF ?_);conv=>whnf)
        refine And.intro (fun h3 => ?_) (fun h3 => ?_)
        · (conv=>whnf);repeat((first|refine zD ?_|refine zA ?_|refine zT ?_|refine zF ?_);conv=>whnf)
          refine ⟨_, _, aw, ?_⟩
          (conv=>whnf);repeat((first|refine zD ?_|refine zA ?_|refine zT ?_|refine zF ?_);conv=>whnf)
          refine Exists.intro [] (And.intro List.nodup_nil ?_); ((conv=>whnf);repeat((first|refine zD ?_|refine zA ?_|refine zT ?_|refine zF ?_);conv=>whnf))
          rfl
        · have hk3 : odd[i].kp.length ≤ 60 := by
            have : (odd[i].kp.length : Int) ≤ 60 := by simpa [wV] using h3
            omega
          (conv=>whnf);repeat((first|refine zD ?_|refine zA ?_|refine zT ?_|refine zF ?_);conv=>whnf)
          refine again (i + 1, none) ⟨hlt, kp_next hlt hkp hk3, hy⟩ (Nat.sub_lt_sub_left hlt (Nat.lt_succ_self i)) ?_
          (refine zA (zA ?_));(repeat' (first|exact trivial|with_reducible exact cvB_refl _|exact rfl|apply And.intro))
          all_goals exact congrArg (Value.int .i64) (w64_nat (by omega))
    · have hge : i = odd.length := Nat.le_antisymm hi (by simpa [acLen] using h)
      subst hge
      rw [List.take_length] at hkp
      obtain ⟨G1, G2, f1, f2⟩ := hodd odd ⟨by omega, hkp⟩
      clear hodd h hkp hi
      have hx : x = [] := by simpa [acR] using (show acR x = [] from hy)
      subst hx
      rw [List.nil_append] at f1 f2
      have hb : (acR odd).length * (tabX [8000008, 4000061] 41).bytes ≤ 140737488355328 := bytes_le (by decide) (by rw [acLen]; omega)
      (conv=>whnf);repeat((first|refine zD ?_|refine zA ?_|refine zT ?_|refine zF ?_);conv=>whnf)
      refine ⟨acSz odd, ?_⟩
      (conv=>whnf);repeat((first|refine zD ?_|refine zA ?_|refine zT ?_|refine zF ?_);conv=>whnf)
      refine ⟨hb, ?_⟩
      (conv=>whnf);repeat((first|refine zD ?_|refine zA ?_|refine zT ?_|refine zF ?_);conv=>whnf)
      refine ⟨_, _, f1, ?_⟩
      (conv=>whnf);repeat((first|refine zD ?_|refine zA ?_|refine zT ?_|refine zF ?_);conv=>whnf)
      refine ⟨acSz odd, ?_⟩
      (conv=>whnf);repeat((first|refine zD ?_|refine zA ?_|refine zT ?_|refine zF ?_);conv=>whnf)
      refine ⟨hb, ?_⟩
      (conv=>whnf);repeat((first|refine zD ?_|refine zA ?_|refine zT ?_|refine zF ?_);conv=>whnf)
      refine ⟨_, _, f2, ?_⟩
      (conv=>whnf);repeat((first|refine zD ?_|refine zA ?_|refine zT ?_|refine zF ?_);conv=>whnf)
      refine And.intro (fun _ => ?_) (fun g => absurd g (by simp))
      (conv=>whnf);repeat((first|refine zD ?_|refine zA ?_|refine zT ?_|refine zF ?_);conv=>whnf)
      refine And.intro (fun _ => ?_) (fun g => absurd g (by simp))
      (conv=>whnf);repeat((first|refine zD ?_|refine zA ?_|refine zT ?_|refine zF ?_);conv=>whnf)
      refine ⟨_, _, aw, ?_⟩
      (conv=>whnf);repeat((first|refine zD ?_|refine zA ?_|refine zT ?_|refine zF ?_);conv=>whnf)
      refine Exists.intro [] (And.intro List.nodup_nil ?_); ((conv=>whnf);repeat((first|refine zD ?_|refine zA ?_|refine zT ?_|refine zF ?_);conv=>whnf))
      rfl
  · simp only [roomT, roomB]
    (conv=>whnf);repeat((first|refine zD ?_|refine zA ?_|refine zT ?_|refine zF ?_);conv=>whnf)
    refine And.intro (fun h => ?_) (fun h => ?_)
    · have hlt : i < odd.length := by simpa [acLen] using h
      (conv=>whnf);repeat((first|refine zD ?_|refine zA ?_|refine zT ?_|refine zF ?_);conv=>whnf)
      refine ⟨by omega, _, acItem hlt, rfl, ?_⟩
      (conv=>whnf);repeat((first|refine zD ?_|refine zA ?_|refine zT ?_|refine zF ?_);conv=>whnf)
      refine And.intro (fun h2 => ?_) (fun h2 => ?_)
      · (conv=>whnf);repeat((first|refine zD ?_|refine zA ?_|refine zT ?_|refine zF ?_);conv=>whnf)
        refine ⟨_, _, aw, ?_⟩
        (conv=>whnf);repeat((first|refine zD ?_|refine zA ?_|refine zT ?_|refine zF ?_);conv=>whnf)
        refine Exists.intro [] (And.intro List.nodup_nil ?_); ((conv=>whnf);repeat((first|refine zD ?_|refine zA ?_|refine zT ?_|refine zF ?_);conv=>whnf))
        rfl
      · (conv=>whnf);repeat((first|refine zD ?_|refine zA ?_|refine zT ?_|refine zF ?_);conv=>whnf)
        refine ⟨by omega, _, acItem hlt, rfl, ?_⟩
        (conv=>whnf);repeat((first|refine zD ?_|refine zA ?_|refine zT ?_|refine zF ?_);conv=>whnf)
        refine And.intro (fun h3 => ?_) (fun h3 => ?_)
        · (conv=>whnf);repeat((first|refine zD ?_|refine zA ?_|refine zT ?_|refine zF ?_);conv=>whnf)
          refine ⟨_, _, aw, ?_⟩
          (conv=>whnf);repeat((first|refine zD ?_|refine zA ?_|refine zT ?_|refine zF ?_);conv=>whnf)
          refine Exists.intro [] (And.intro List.nodup_nil ?_); ((conv=>whnf);repeat((first|refine zD ?_|refine zA ?_|refine zT ?_|refine zF ?_);conv=>whnf))
          rfl
        · have hk3 : odd[i].kp.length ≤ 60 := by
            have : (odd[i].kp.length : Int) ≤ 60 := by simpa [wV] using h3
            omega
          (conv=>whnf);repeat((first|refine zD ?_|refine zA ?_|refine zT ?_|refine zF ?_);conv=>whnf)
          refine again (i + 1, some none) ⟨hlt, kp_next hlt hkp hk3, hy⟩ (Nat.sub_lt_sub_left hlt (Nat.lt_succ_self i)) ?_
          (refine zA (zA ?_));(repeat' (first|exact trivial|with_reducible exact cvB_refl _|exact rfl|apply And.intro))
          all_goals exact congrArg (Value.int .i64) (w64_nat (by omega))
    · have hge : i = odd.length := Nat.le_antisymm hi (by simpa [acLen] using h)
      subst hge
      rw [List.take_length] at hkp
      obtain ⟨G1, G2, f1, f2⟩ := hodd odd ⟨by omega, hkp⟩
      clear hodd h hkp hi
      have e1 : ((acR x).take (acR x).length ++ acR odd).take ((acR x).length + (acR odd).length) = acR (x ++ odd) := by
        rw [List.take_length, List.take_of_length_le (by rw [List.length_append]; omega), acApp]
      have e2 : (((acR x).take (acR x).length ++ acR odd).take (acR x).length ++ acR odd).take ((acR x).length + (acR odd).length) = acR (x ++ odd) := by
        rw [List.take_length, List.take_left, List.take_of_length_le (by rw [List.length_append]; omega), acApp]
      have l1 : (acR x).length + (acR odd).length ≤ ((acR x).take (acR x).length ++ acR odd).length := by rw [List.take_length, List.length_append]; omega
      have l2 : (acR x).length ≤ ((acR x).take (acR x).length ++ acR odd).length := by omega
      have l3 : (acR x).length + (acR odd).length ≤ (((acR x).take (acR x).length ++ acR odd).take (acR x).length ++ acR odd).length := by
        rw [List.length_append, List.length_take]; omega
      have f2 : Fun Tryz.prog 10 [cfV ⟨cz, cs, cb, cq, cd, ch⟩, slV ((((acR x).take (acR x).length ++ acR odd).take (acR x).length ++ acR odd).take ((acR x).length + (acR odd).length))] [] (.tup [strV G1, i64V G2]) := by rw [e2]; exact f2
      rw [← e1] at f1
      (conv=>whnf);repeat((first|refine zD ?_|refine zA ?_|refine zT ?_|refine zF ?_);conv=>whnf)
      refine ⟨acSz odd, ?_⟩
      (conv=>whnf);repeat((first|refine zD ?_|refine zA ?_|refine zT ?_|refine zF ?_);conv=>whnf)
      refine ⟨Nat.le_refl _, Nat.le_refl _, ?_⟩
      (conv=>whnf);repeat((first|refine zD ?_|refine zA ?_|refine zT ?_|refine zF ?_);conv=>whnf)
      refine ⟨l1, ?_⟩
      (conv=>whnf);repeat((first|refine zD ?_|refine zA ?_|refine zT ?_|refine zF ?_);conv=>whnf)
      refine ⟨_, _, f1, ?_⟩
      (conv=>whnf);repeat((first|refine zD ?_|refine zA ?_|refine zT ?_|refine zF ?_);conv=>whnf)
      refine ⟨acSz odd, ?_⟩
      (conv=>whnf);repeat((first|refine zD ?_|refine zA ?_|refine zT ?_|refine zF ?_);conv=>whnf)
      refine ⟨l2, Nat.le_refl _, ?_⟩
      (conv=>whnf);repeat((first|refine zD ?_|refine zA ?_|refine zT ?_|refine zF ?_);conv=>whnf)
      refine ⟨l3, ?_⟩
      (conv=>whnf);repeat((first|refine zD ?_|refine zA ?_|refine zT ?_|refine zF ?_);conv=>whnf)
      refine ⟨_, _, f2, ?_⟩
      (conv=>whnf);repeat((first|refine zD ?_|refine zA ?_|refine zT ?_|refine zF ?_);conv=>whnf)
      refine And.intro (fun _ => ?_) (fun g => absurd g (by simp))
      (conv=>whnf);repeat((first|refine zD ?_|refine zA ?_|refine zT ?_|refine zF ?_);conv=>whnf)
      refine And.intro (fun _ => ?_) (fun g => absurd g (by simp))
      (conv=>whnf);repeat((first|refine zD ?_|refine zA ?_|refine zT ?_|refine zF ?_);conv=>whnf)
      refine ⟨_, _, aw, ?_⟩
      (conv=>whnf);repeat((first|refine zD ?_|refine zA ?_|refine zT ?_|refine zF ?_);conv=>whnf)
      refine Exists.intro [] (And.intro List.nodup_nil ?_); ((conv=>whnf);repeat((first|refine zD ?_|refine zA ?_|refine zT ?_|refine zF ?_);conv=>whnf))
      rfl
  · simp only [roomT, roomB]
    (conv=>whnf);repeat((first|refine zD ?_|refine zA ?_|refine zT ?_|refine zF ?_);conv=>whnf)
    refine And.intro (fun h => ?_) (fun h => ?_)
    · have hlt : i < odd.length := by simpa [acLen] using h
      (conv=>whnf);repeat((first|refine zD ?_|refine zA ?_|refine zT ?_|refine zF ?_);conv=>whnf)
      refine ⟨by omega, _, acItem hlt, rfl, ?_⟩
      (conv=>whnf);repeat((first|refine zD ?_|refine zA ?_|refine zT ?_|refine zF ?_);conv=>whnf)
      refine And.intro (fun h2 => ?_) (fun h2 => ?_)
      · (conv=>whnf);repeat((first|refine zD ?_|refine zA ?_|refine zT ?_|refine zF ?_);conv=>whnf)
        refine ⟨_, _, aw, ?_⟩
        (conv=>whnf);repeat((first|refine zD ?_|refine zA ?_|refine zT ?_|refine zF ?_);conv=>whnf)
        refine Exists.intro [] (And.intro List.nodup_nil ?_); ((conv=>whnf);repeat((first|refine zD ?_|refine zA ?_|refine zT ?_|refine zF ?_);conv=>whnf))
        rfl
      · (conv=>whnf);repeat((first|refine zD ?_|refine zA ?_|refine zT ?_|refine zF ?_);conv=>whnf)
        refine ⟨by omega, _, acItem hlt, rfl, ?_⟩
        (conv=>whnf);repeat((first|refine zD ?_|refine zA ?_|refine zT ?_|refine zF ?_);conv=>whnf)
        refine And.intro (fun h3 => ?_) (fun h3 => ?_)
        · (conv=>whnf);repeat((first|refine zD ?_|refine zA ?_|refine zT ?_|refine zF ?_);conv=>whnf)
          refine ⟨_, _, aw, ?_⟩
          (conv=>whnf);repeat((first|refine zD ?_|refine zA ?_|refine zT ?_|refine zF ?_);conv=>whnf)
          refine Exists.intro [] (And.intro List.nodup_nil ?_); ((conv=>whnf);repeat((first|refine zD ?_|refine zA ?_|refine zT ?_|refine zF ?_);conv=>whnf))
          rfl
        · have hk3 : odd[i].kp.length ≤ 60 := by
            have : (odd[i].kp.length : Int) ≤ 60 := by simpa [wV] using h3
            omega
          (conv=>whnf);repeat((first|refine zD ?_|refine zA ?_|refine zT ?_|refine zF ?_);conv=>whnf)
          refine again (i + 1, some (some cc)) ⟨hlt, kp_next hlt hkp hk3, hy⟩ (Nat.sub_lt_sub_left hlt (Nat.lt_succ_self i)) ?_
          (refine zA (zA ?_));(repeat' (first|exact trivial|with_reducible exact cvB_refl _|exact rfl|apply And.intro))
          all_goals exact congrArg (Value.int .i64) (w64_nat (by omega))
    · have hge : i = odd.length := Nat.le_antisymm hi (by simpa [acLen] using h)
      subst hge
      rw [List.take_length] at hkp
      obtain ⟨G1, G2, f1, f2⟩ := hodd odd ⟨by omega, hkp⟩
      clear hodd h hkp hi
      have hy : cc < (acR x).length + (acR odd).length := hy
      have hb : ((acR x).length + (acR odd).length) * (tabX [8000008, 4000061] 41).bytes ≤ 140737488355328 := bytes_le (by decide) (by rw [acLen, acLen]; omega)
      rw [← acApp] at f1 f2
      (conv=>whnf);repeat((first|refine zD ?_|refine zA ?_|refine zT ?_|refine zF ?_);conv=>whnf)
      refine ⟨acSz odd, ?_⟩
      (conv=>whnf);repeat((first|refine zD ?_|refine zA ?_|refine zT ?_|refine zF ?_);conv=>whnf)
      refine ⟨hy, acSz x, hb, ?_⟩
      (conv=>whnf);repeat((first|refine zD ?_|refine zA ?_|refine zT ?_|refine zF ?_);conv=>whnf)
      refine ⟨_, _, f1, ?_⟩
      (conv=>whnf);repeat((first|refine zD ?_|refine zA ?_|refine zT ?_|refine zF ?_);conv=>whnf)
      refine ⟨acSz odd, ?_⟩
      (conv=>whnf);repeat((first|refine zD ?_|refine zA ?_|refine zT ?_|refine zF ?_);conv=>whnf)
      refine ⟨hy, acSz x, hb, ?_⟩
      (conv=>whnf);repeat((first|refine zD ?_|refine zA ?_|refine zT ?_|refine zF ?_);conv=>whnf)
      refine ⟨_, _, f2, ?_⟩
      (conv=>whnf);repeat((first|refine zD ?_|refine zA ?_|refine zT ?_|refine zF ?_);conv=>whnf)
      refine And.intro (fun _ => ?_) (fun g => absurd g (by simp))
      (conv=>whnf);repeat((first|refine zD ?_|refine zA ?_|refine zT ?_|refine zF ?_);conv=>whnf)
      refine And.intro (fun _ => ?_) (fun g => absurd g (by simp))
      (conv=>whnf);repeat((first|refine zD ?_|refine zA ?_|refine zT ?_|refine zF ?_);conv=>whnf)
      refine ⟨_, _, aw, ?_⟩
      (conv=>whnf);repeat((first|refine zD ?_|refine zA ?_|refine zT ?_|refine zF ?_);conv=>whnf)
      refine Exists.intro [] (And.intro List.nodup_nil ?_); ((conv=>whnf);repeat((first|refine zD ?_|refine zA ?_|refine zT ?_|refine zF ?_);conv=>whnf))
      rfl
end Go.Proofs.YtikchieadclbhaaGreatDoor.Ab
namespace Go.Proofs.YtikchieadclbhaaGreatDoor.Ab
set_option linter.unusedVariables false
set_option linter.unusedSimpArgs false
open Go.RowKit
theorem acs_of {d : Nat} : ∀ (es : List (List IV)), (∀ r ∈ es, ShI tab (d + 1 + 1 + 1) 41 r) → ∃ l : List Ac, es = acR l
  | [], _ => ⟨[], rfl⟩
  | e :: es, h => by
    obtain ⟨l, rfl⟩ := acs_of es (fun r hr => h r (List.mem_cons_of_mem _ hr))
    obtain ⟨k, n, ck, cb, s, kp, rfl, _⟩ := action_of (h e List.mem_cons_self)
    exact ⟨⟨k, n, ck, cb, s.data.toList, kp⟩ :: l, rfl⟩
theorem u8_of {n : Int} (h : (Lit.int .u8 n).wf = true) : ∃ b : UInt8, n = (b.toNat : Int) := by
  have h0 : 0 ≤ n ∧ n ≤ 255 := by simpa [Lit.wf, IntKind.min, IntKind.max, IntKind.signed, IntKind.bits] using h
  exact ⟨UInt8.ofNat n.toNat, by rw [UInt8.toNat_ofNat']; omega⟩
end Go.Proofs.YtikchieadclbhaaGreatDoor.Ab
namespace Go.Proofs.YtikchieadclbhaaGreatDoor
set_option linter.unusedVariables false
set_option linter.unusedSimpArgs false
open Ab
set_option maxRecDepth 100000 in
theorem textScripts.walk {H : Type} {enc : TypeId × Value → H} {W : World} {base : Nat} (hg : gP W ∧ gN ≤ W.heap.size)
    (v : Value) (d : DataW H) (p : List MemPlace) (hv : Value.okWide Tryz.prog W .any base 22 v) (h : DataW.Trod enc Tryz.prog W 0 (fun _ => true) true 22 v d p) (hw : ∀ n ∈ d.weights Tryz.prog 22, n ≤ 140737488351232)
    (v' : Value) (d' : DataW H) (p' : List MemPlace) (hv' : Value.okWide Tryz.prog W .any base 23 v') (h' : DataW.Trod enc Tryz.prog W 0 (fun _ => true) true 23 v' d' p') (hw' : ∀ n ∈ d'.weights Tryz.prog 23, n ≤ 140737488351232)
    (a2 : Int) (w2 : (Lit.int .i64 a2).wf = true) (a3 : Int) (w3 : (Lit.int .u8 a3).wf = true)
    (W' : World) (hW : W' = W := by rfl) : Calls Tryz.prog 3 #[v, v', .int .i64 a2, .int .u8 a3] W' (True1 W') := by
  subst hW
  obtain ⟨es, _, q1, q2⟩ := open_sl tabOk 3 (t := 22) (by decide +kernel) rfl hv h
  obtain ⟨xs, rfl⟩ := ints_of (d := 2) es (fun r hr => (q1 r hr).2)
  have b3 := slice_bound tabOk (e := 3) rfl h hw (q2 (fun _ _ => undef) (fun _ => 0))
  rw [bytesOf_eq tabOk (fun h => TK.noConfusion h)] at b3
  have b3' : (wV xs).length * 8 ≤ 140737488351232 := b3
  obtain ⟨es', _, q1', q2'⟩ := open_sl tabOk 7 (t := 23) (by decide +kernel) rfl hv' h'
  obtain ⟨odd, rfl⟩ := acs_of (d := 3) es' (fun r hr => (q1' r hr).2)
  have b4 := slice_bound tabOk (e := 41) rfl h' hw' (q2' (fun _ _ => undef) (fun _ => 0))
  rw [bytesOf_eq tabOk (fun h => TK.noConfusion h)] at b4
  have b4' : (acR odd).length * 72 ≤ 140737488351232 := b4
  obtain ⟨b, rfl⟩ := u8_of w3
  exact law_of_fun (scriptsF xs odd a2 b (by simp [wV] at b3'; omega) (by rw [acLen] at b4'; omega)) rfl (reps_get (vs := [_, _, _, _]) ⟨q2 _ _, q2' _ _, .sc _ rfl, .sc _ rfl, trivial⟩) hg
end Go.Proofs.YtikchieadclbhaaGreatDoor
