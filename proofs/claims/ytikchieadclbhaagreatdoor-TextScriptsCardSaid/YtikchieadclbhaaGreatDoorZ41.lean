/- The configuration of a line, both ways. No condition. -/
import Derived.Test.YtikchieadclbhaaGreatDoorZ40
namespace Go.Proofs.YtikchieadclbhaaGreatDoor.Ab
set_option linter.unusedVariables false
set_option linter.unusedSimpArgs false
open Go.RowKit

def theadC (s : List UInt8) : Cf := if (spl 32 s).length = 7 ∧ cLine (tcf s) = s then tcf s else cf0
def ints6 (l : List Int) (i : Nat) : List AV1 := (List.range 6).map fun j => .i (.sc (.int .i64 (if j < i then l.getD j 0 else 0)))
set_option maxRecDepth 100000 in
set_option maxHeartbeats 16000000 in
theorem headF (s : ByteArray) (hs : s.size ≤ 1000000) : Fun Tryz.prog 26 [strV s] [] (.tup [cfV (theadC s.data.toList), i64V (theadE s.data.toList)]) := by
  have hlen : (spl 32 s.data.toList).length = (pcs 32 s).length := by rw [← pcs_spl, List.length_map]
  by_cases h7 : (pcs 32 s).length = 7
  · obtain ⟨w0, w1, w2, w3, w4, w5, w6, hps⟩ : ∃ w0 w1 w2 w3 w4 w5 w6, pcs 32 s = [w0, w1, w2, w3, w4, w5, w6] := by
      match h : pcs 32 s, h7 with
      | [w0, w1, w2, w3, w4, w5, w6], _ => exact ⟨w0, w1, w2, w3, w4, w5, w6, rfl⟩
    have hsp := splitF' 32 s hs hps
    have h1 := numF' (c := 32) (s := s) (w := w1) hs (by rw [hps]; simp)
    have h2 := numF' (c := 32) (s := s) (w := w2) hs (by rw [hps]; simp)
    have h3 := numF' (c := 32) (s := s) (w := w3) hs (by rw [hps]; simp)
    have h4 := numF' (c := 32) (s := s) (w := w4) hs (by rw [hps]; simp)
    have h5 := numF' (c := 32) (s := s) (w := w5) hs (by rw [hps]; simp)
    have h6 := numF' (c := 32) (s := s) (w := w6) hs (by rw [hps]; simp)
    have htc : tcf s.data.toList = ⟨num w1.data.toList, num w2.data.toList, num w3.data.toList, num w4.data.toList, num w5.data.toList, num w6.data.toList⟩ := by
      unfold tcf
      rw [← pcs_spl, hps]
      rfl
    have h64 : ∀ n ∈ cfL (tcf s.data.toList), in64 n := by
      intro n hn
      unfold tcf cfOf cfL at hn
      simp only [List.mem_cons, List.mem_nil_iff, or_false] at hn
      rcases hn with rfl | rfl | rfl | rfl | rfl | rfl <;> exact num64 _
    have hcf := confF _ h64
    have hck := cfChkF (tcf s.data.toList)
    have hT : (!((sS (cLine (tcf s.data.toList))).toList == s.toList)) = true → theadC s.data.toList = cf0 ∧ theadE s.data.toList = 18 := fun h => by
      rw [eqS] at h
      have h : ¬ cLine (tcf s.data.toList) = s.data.toList := fun g => by rw [decide_eq_true (show (sS (cLine (tcf s.data.toList))).data.toList = s.data.toList from g)] at h; cases h
      unfold theadC theadE
      rw [if_neg (fun g => h g.2), if_neg (fun g => h g.2)]
      exact ⟨rfl, rfl⟩
    have hF : (!((sS (cLine (tcf s.data.toList))).toList == s.toList)) = false → theadC s.data.toList = tcf s.data.toList ∧ theadE s.data.toList = cfChk (tcf s.data.toList) := fun h => by
      rw [eqS] at h
      have h : cLine (tcf s.data.toList) = s.data.toList := by
        by_cases g : (sS (cLine (tcf s.data.toList))).data.toList = s.data.toList
        · exact g
        · rw [decide_eq_false g] at h; cases h
      unfold theadC theadE
      rw [if_pos ⟨hlen.trans h7, h⟩, if_pos ⟨hlen.trans h7, h⟩]
      exact ⟨rfl, rfl⟩
    clear hlen h7 hps h64
    generalize sS (cLine (tcf s.data.toList)) = L at hcf hT hF
    rw [htc] at hcf hck hF
    clear htc
    generalize theadC s.data.toList = RC at hT hF ⊢
    generalize theadE s.data.toList = RE at hT hF ⊢
    generalize num w1.data.toList = n1 at h1 hcf hck hF
    generalize num w2.data.toList = n2 at h2 hcf hck hF
    generalize num w3.data.toList = n3 at h3 hcf hck hF
    generalize num w4.data.toList = n4 at h4 hcf hck hF
    generalize num w5.data.toList = n5 at h5 hcf hck hF
    generalize num w6.data.toList = n6 at h6 hcf hck hF
    refine fun_of_vc tabOk mixOk Tryz.func26 rfl (by rfl) (rs := [.cell 2 29, .tmp 3]) rfl rfl 51 ?_; rw [Tryz.ntmps26]
    (conv=>whnf);repeat((first|refine zD ?_|refine zA ?_|refine zT ?_|refine zF ?_);conv=>whnf)
    refine ⟨_, _, hsp, ?_⟩
    (conv=>whnf);repeat((first|refine zD ?_|refine zA ?_|refine zT ?_|refine zF ?_);conv=>whnf)
    refine vc_loop [0, 2, 4, 5] [2] (X := Nat) (fun i gs => [(14, ATint i)]) (fun i gs => [(5, .var (0 + 1) (ints6 [n1, n2, n3, n4, n5, n6] i))]) (fun i => i ≤ 6) (fun i => 6 - i) _ (Ghost.refl _) 0 (by decide) ?_ ?_
    · (refine zA (zA ?_));(repeat' (first|exact trivial|with_reducible exact cvB_refl _|exact rfl|apply And.intro))
    intro gs i hi
    have hi : i ≤ 6 := hi
    have hc : i = 0 ∨ i = 1 ∨ i = 2 ∨ i = 3 ∨ i = 4 ∨ i = 5 ∨ i = 6 := by omega
    rcases hc with rfl | rfl | rfl | rfl | rfl | rfl | rfl
    · (conv=>whnf);repeat((first|refine zD ?_|refine zA ?_|refine zT ?_|refine zF ?_);conv=>whnf)
      rw [show iwrap .i64 (((0 : Nat) : Int) + 1) = (1 : Int) from (w64_in (by decide)).trans (by decide)]
      refine ⟨by decide, _, rfl, rfl, ?_⟩
      (conv=>whnf);repeat((first|refine zD ?_|refine zA ?_|refine zT ?_|refine zF ?_);conv=>whnf)
      refine ⟨_, _, h1, ?_⟩
      (conv=>whnf);repeat((first|refine zD ?_|refine zA ?_|refine zT ?_|refine zF ?_);conv=>whnf)
      refine ⟨by decide, by decide, ?_⟩
      (conv=>whnf);repeat((first|refine zD ?_|refine zA ?_|refine zT ?_|refine zF ?_);conv=>whnf)
      refine again 1 (by decide) (by decide) ?_
      (refine zA (zA ?_));(repeat' (first|exact trivial|with_reducible exact cvB_refl _|exact rfl|apply And.intro))
      all_goals first
        | exact congrArg (Value.int .i64) (w64_nat (k := 0) (by decide))
        | rfl
    · (conv=>whnf);repeat((first|refine zD ?_|refine zA ?_|refine zT ?_|refine zF ?_);conv=>whnf)
      rw [show iwrap .i64 (((1 : Nat) : Int) + 1) = (2 : Int) from (w64_in (by decide)).trans (by decide)]
      refine ⟨by decide, _, rfl, rfl, ?_⟩
      (conv=>whnf);repeat((first|refine zD ?_|refine zA ?_|refine zT ?_|refine zF ?_);conv=>whnf)
      refine ⟨_, _, h2, ?_⟩
      (conv=>whnf);repeat((first|refine zD ?_|refine zA ?_|refine zT ?_|refine zF ?_);conv=>whnf)
      refine ⟨by decide, by decide, ?_⟩
      (conv=>whnf);repeat((first|refine zD ?_|refine zA ?_|refine zT ?_|refine zF ?_);conv=>whnf)
      refine again 2 (by decide) (by decide) ?_
      (refine zA (zA ?_));(repeat' (first|exact trivial|with_reducible exact cvB_refl _|exact rfl|apply And.intro))
      all_goals first
        | exact congrArg (Value.int .i64) (w64_nat (k := 1) (by decide))
        | rfl
    · (conv=>whnf);repeat((first|refine zD ?_|refine zA ?_|refine zT ?_|refine zF ?_);conv=>whnf)
      rw [show iwrap .i64 (((2 : Nat) : Int) + 1) = (3 : Int) from (w64_in (by decide)).trans (by decide)]
      refine ⟨by decide, _, rfl, rfl, ?_⟩
      (conv=>whnf);repeat((first|refine zD ?_|refine zA ?_|refine zT ?_|refine zF ?_);conv=>whnf)
      refine ⟨_, _, h3, ?_⟩
      (conv=>whnf);repeat((first|refine zD ?_|refine zA ?_|refine zT ?_|refine zF ?_);conv=>whnf)
      refine ⟨by decide, by decide, ?_⟩
      (conv=>whnf);repeat((first|refine zD ?_|refine zA ?_|refine zT ?_|refine zF ?_);conv=>whnf)
      refine again 3 (by decide) (by decide) ?_
      (refine zA (zA ?_));(repeat' (first|exact trivial|with_reducible exact cvB_refl _|exact rfl|apply And.intro))
      all_goals first
        | exact congrArg (Value.int .i64) (w64_nat (k := 2) (by decide))
        | rfl
    · (conv=>whnf);repeat((first|refine zD ?_|refine zA ?_|refine zT ?_|refine zF ?_);conv=>whnf)
      rw [show iwrap .i64 (((3 : Nat) : Int) + 1) = (4 : Int) from (w64_in (by decide)).trans (by decide)]
      refine ⟨by decide, _, rfl, rfl, ?_⟩
      (conv=>whnf);repeat((first|refine zD ?_|refine zA ?_|refine zT ?_|refine zF ?_);conv=>whnf)
      refine ⟨_, _, h4, ?_⟩
      (conv=>whnf);repeat((first|refine zD ?_|refine zA ?_|refine zT ?_|refine zF ?_);conv=>whnf)
      refine ⟨by decide, by decide, ?_⟩
      (conv=>whnf);repeat((first|refine zD ?_|refine zA ?_|refine zT ?_|refine zF ?_);conv=>whnf)
      refine again 4 (by decide) (by decide) ?_
      (refine zA (zA ?_));(repeat' (first|exact trivial|with_reducible exact cvB_refl _|exact rfl|apply And.intro))
      all_goals first
        | exact congrArg (Value.int .i64) (w64_nat (k := 3) (by decide))
        | rfl
    · (conv=>whnf);repeat((first|refine zD ?_|refine zA ?_|refine zT ?_|refine zF ?_);conv=>whnf)
      rw [show iwrap .i64 (((4 : Nat) : Int) + 1) = (5 : Int) from (w64_in (by decide)).trans (by decide)]
      refine ⟨by decide, _, rfl, rfl, ?_⟩
      (conv=>whnf);repeat((first|refine zD ?_|refine zA ?_|refine zT ?_|refine zF ?_);conv=>whnf)
      refine ⟨_, _, h5, ?_⟩
      (conv=>whnf);repeat((first|refine zD ?_|refine zA ?_|refine zT ?_|refine zF ?_);conv=>whnf)
      refine ⟨by decide, by decide, ?_⟩
      (conv=>whnf);repeat((first|refine zD ?_|refine zA ?_|refine zT ?_|refine zF ?_);conv=>whnf)
      refine again 5 (by decide) (by decide) ?_
      (refine zA (zA ?_));(repeat' (first|exact trivial|with_reducible exact cvB_refl _|exact rfl|apply And.intro))
      all_goals first
        | exact congrArg (Value.int .i64) (w64_nat (k := 4) (by decide))
        | rfl
    · (conv=>whnf);repeat((first|refine zD ?_|refine zA ?_|refine zT ?_|refine zF ?_);conv=>whnf)
      rw [show iwrap .i64 (((5 : Nat) : Int) + 1) = (6 : Int) from (w64_in (by decide)).trans (by decide)]
      refine ⟨by decide, _, rfl, rfl, ?_⟩
      (conv=>whnf);repeat((first|refine zD ?_|refine zA ?_|refine zT ?_|refine zF ?_);conv=>whnf)
      refine ⟨_, _, h6, ?_⟩
      (conv=>whnf);repeat((first|refine zD ?_|refine zA ?_|refine zT ?_|refine zF ?_);conv=>whnf)
      refine ⟨by decide, by decide, ?_⟩
      (conv=>whnf);repeat((first|refine zD ?_|refine zA ?_|refine zT ?_|refine zF ?_);conv=>whnf)
      refine again 6 (by decide) (by decide) ?_
      (refine zA (zA ?_));(repeat' (first|exact trivial|with_reducible exact cvB_refl _|exact rfl|apply And.intro))
      all_goals first
        | exact congrArg (Value.int .i64) (w64_nat (k := 5) (by decide))
        | rfl
    · (conv=>whnf);repeat((first|refine zD ?_|refine zA ?_|refine zT ?_|refine zF ?_);conv=>whnf)
      refine ⟨by decide, by decide, ?_⟩
      (conv=>whnf);repeat((first|refine zD ?_|refine zA ?_|refine zT ?_|refine zF ?_);conv=>whnf)
      refine ⟨by decide, by decide, ?_⟩
      (conv=>whnf);repeat((first|refine zD ?_|refine zA ?_|refine zT ?_|refine zF ?_);conv=>whnf)
      refine ⟨by decide, by decide, ?_⟩
      (conv=>whnf);repeat((first|refine zD ?_|refine zA ?_|refine zT ?_|refine zF ?_);conv=>whnf)
      refine ⟨by decide, by decide, ?_⟩
      (conv=>whnf);repeat((first|refine zD ?_|refine zA ?_|refine zT ?_|refine zF ?_);conv=>whnf)
      refine ⟨by decide, by decide, ?_⟩
      (conv=>whnf);repeat((first|refine zD ?_|refine zA ?_|refine zT ?_|refine zF ?_);conv=>whnf)
      refine ⟨by decide, by decide, ?_⟩
      (conv=>whnf);repeat((first|refine zD ?_|refine zA ?_|refine zT ?_|refine zF ?_);conv=>whnf)
      refine ⟨_, _, hcf, ?_⟩
      (conv=>whnf);repeat((first|refine zD ?_|refine zA ?_|refine zT ?_|refine zF ?_);conv=>whnf)
      refine And.intro (fun h => ?_) (fun h => ?_)
      · obtain ⟨rfl, rfl⟩ := hT h
        (conv=>whnf);repeat((first|refine zD ?_|refine zA ?_|refine zT ?_|refine zF ?_);conv=>whnf)
        refine Exists.intro [] (And.intro List.nodup_nil ?_); ((conv=>whnf);repeat((first|refine zD ?_|refine zA ?_|refine zT ?_|refine zF ?_);conv=>whnf))
        rfl
      · obtain ⟨rfl, rfl⟩ := hF h
        (conv=>whnf);repeat((first|refine zD ?_|refine zA ?_|refine zT ?_|refine zF ?_);conv=>whnf)
        refine ⟨_, _, hck, ?_⟩
        (conv=>whnf);repeat((first|refine zD ?_|refine zA ?_|refine zT ?_|refine zF ?_);conv=>whnf)
        refine Exists.intro [] (And.intro List.nodup_nil ?_); ((conv=>whnf);repeat((first|refine zD ?_|refine zA ?_|refine zT ?_|refine zF ?_);conv=>whnf))
        rfl
  · have hsp := splitF' 32 s hs rfl
    have e1 : theadE s.data.toList = 18 := by unfold theadE; rw [if_neg (fun h => h7 (hlen.symm.trans h.1))]
    have e2 : theadC s.data.toList = cf0 := by unfold theadC; rw [if_neg (fun h => h7 (hlen.symm.trans h.1))]
    rw [e1, e2]
    generalize pcs 32 s = ps at h7 hsp
    refine fun_of_vc tabOk mixOk Tryz.func26 rfl (by rfl) (rs := [.cell 2 29, .tmp 3]) rfl rfl 51 ?_; rw [Tryz.ntmps26]
    (conv=>whnf);repeat((first|refine zD ?_|refine zA ?_|refine zT ?_|refine zF ?_);conv=>whnf)
    refine ⟨_, _, hsp, ?_⟩
    (conv=>whnf);repeat((first|refine zD ?_|refine zA ?_|refine zT ?_|refine zF ?_);conv=>whnf)
    refine And.intro (fun _ => ?_) (fun h => absurd (by
      have : ((sV ps).length : Int) = 7 := by simpa only [bne_eq_false_iff_eq] using h
      rw [sLen] at this
      omega) h7)
    (conv=>whnf);repeat((first|refine zD ?_|refine zA ?_|refine zT ?_|refine zF ?_);conv=>whnf)
    refine Exists.intro [] (And.intro List.nodup_nil ?_); ((conv=>whnf);repeat((first|refine zD ?_|refine zA ?_|refine zT ?_|refine zF ?_);conv=>whnf))
    rfl
end Go.Proofs.YtikchieadclbhaaGreatDoor.Ab
