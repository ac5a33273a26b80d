/- Scripts made of numbers. No condition. -/
import Derived.Test.YtikchieadclbhaaGreatDoorZ44
import Derived.Test.YtikchieadclbhaaGreatDoorZ03
import Derived.Test.YtikchieadclbhaaGreatDoorZ25
namespace Go.Proofs.YtikchieadclbhaaGreatDoor.Ab
set_option linter.unusedVariables false
set_option linter.unusedSimpArgs false
open Go.RowKit

def acI (a : Ac) : List IV := [.sc (.int .i64 a.k), .sc (.int .i64 a.n), .sc (.int .i64 a.ck), .sc (.int .i64 a.cb), .sc (.string (sS a.cd)), .sl (wV a.kp)]
def acR (l : List Ac) : List (List IV) := l.map acI
theorem acSz (l : List Ac) : ∀ z ∈ acR l, z.length = (tab 41).size := by
  intro z hz
  obtain ⟨x, _, rfl⟩ := List.mem_map.1 hz
  rfl
theorem acLen (l : List Ac) : (acR l).length = l.length := by simp [acR]
theorem acItem {l : List Ac} {k : Nat} (h : k < l.length) : (acR l)[((k : Int)).toNat]? = some (acI l[k]) := by simp [acR, h]
theorem acApp (a b : List Ac) : acR a ++ acR b = acR (a ++ b) := by simp [acR]
theorem ac_b {a b : List Ac} (h : a.length ≤ 100000) (h2 : b.length ≤ 100000) : (acR a).length + (acR b).length ≤ 2000000 := by
  rw [acLen, acLen]; omega
theorem scC_ex (L : List Int) (k : Nat) (b : Int) (hl : L.length ≤ 1000000) : ∃ r : (Int × Int × ByteArray) × Nat, FunP Tryz.prog 19 (dcs L k) [i64V b] (dcs L r.2) (.v (cmV r.1.1 r.1.2.1 r.1.2.2)) ∧ k ≤ r.2 ∧ (k ≤ L.length → r.2 ≤ L.length) ∧ r.1.2.2.size ≤ 16 := by
  obtain ⟨x, k', h⟩ := commandF L k b hl
  exact ⟨(x, k'), h⟩
noncomputable def scC (L : List Int) (k : Nat) (b : Int) : (Int × Int × ByteArray) × Nat := if hl : L.length ≤ 1000000 then Classical.choose (scC_ex L k b hl) else ((0, 0, ByteArray.empty), k)
theorem scC_ok (L : List Int) (k : Nat) (b : Int) (hl : L.length ≤ 1000000) : FunP Tryz.prog 19 (dcs L k) [i64V b] (dcs L (scC L k b).2) (.v (cmV (scC L k b).1.1 (scC L k b).1.2.1 (scC L k b).1.2.2)) ∧ k ≤ (scC L k b).2 ∧ (k ≤ L.length → (scC L k b).2 ≤ L.length) ∧ (scC L k b).1.2.2.size ≤ 16 := by
  unfold scC
  rw [dif_pos hl]
  exact Classical.choose_spec (scC_ex L k b hl)
def scKeep (L : List Int) (n : Int) : Nat → Nat → List Int → Nat × List Int
  | 0, k, a => (k, a)
  | m + 1, k, a => scKeep L n m (dnx L k) (a ++ [dval L k n])
noncomputable def scStep (L : List Int) (c : Cf) (k : Nat) (out : List Ac) : Nat × List Ac :=
  if dval L k 16 < 5 then ((scC L (dnx L (dnx L k)) c.b).2, out ++ [⟨1, dval L (dnx L k) c.q, (scC L (dnx L (dnx L k)) c.b).1.1, (scC L (dnx L (dnx L k)) c.b).1.2.1, sL (scC L (dnx L (dnx L k)) c.b).1.2.2, []⟩])
  else if dval L k 16 = 5 then (dnx L k, out ++ [⟨3, 0, 0, 0, [], []⟩])
  else if dval L k 16 = 6 then ((scKeep L (c.s + 1) (dval L (dnx L k) (c.z + 1)).toNat (dnx L (dnx L k)) []).1, out ++ [⟨4, 0, 0, 0, [], (scKeep L (c.s + 1) (dval L (dnx L k) (c.z + 1)).toNat (dnx L (dnx L k)) []).2⟩])
  else (dnx L (dnx L (dnx L k)), out ++ List.replicate (1 + dval L (dnx L (dnx L k)) 6).toNat ⟨2, dval L (dnx L k) (c.q + 3), 0, 0, [], []⟩)
noncomputable def scGo (L : List Int) (c : Cf) : Nat → Nat → List Ac → Nat × List Ac
  | 0, k, out => (k, out)
  | f + 1, k, out => if k < L.length ∧ out.length < 400 then scGo L c f (scStep L c k out).1 (scStep L c k out).2 else (k, out)
theorem keep_le (L : List Int) (n : Int) : ∀ (m k : Nat) (a : List Int), k ≤ L.length → (scKeep L n m k a).1 ≤ L.length
  | 0, k, a, h => h
  | m + 1, k, a, h => keep_le L n m (dnx L k) _ (dnx_le h)
theorem step_le {L : List Int} {c : Cf} {k : Nat} {out : List Ac} (hl : L.length ≤ 1000000) (hk : k ≤ L.length) : (scStep L c k out).1 ≤ L.length := by
  have h1 := (scC_ok L (dnx L (dnx L k)) c.b hl).2.2.1 (dnx_le (dnx_le hk))
  unfold scStep
  split
  · exact h1
  · split
    · exact dnx_le hk
    · split
      · exact keep_le L _ _ _ _ (dnx_le (dnx_le hk))
      · exact dnx_le (dnx_le (dnx_le hk))
theorem keep_ge (L : List Int) (n : Int) : ∀ (m k : Nat) (a : List Int), k ≤ (scKeep L n m k a).1 ∧ (scKeep L n m k a).2.length = a.length + m
  | 0, k, a => ⟨Nat.le_refl _, rfl⟩
  | m + 1, k, a => by
    have ih := keep_ge L n m (dnx L k) (a ++ [dval L k n])
    have := dnx_ge L k
    rw [scKeep]
    refine ⟨by omega, ?_⟩
    rw [ih.2]
    simp
    omega
/-- What a step of a script leaves. -/
theorem step_ok {L : List Int} {c : Cf} {k : Nat} {out : List Ac} (hl : L.length ≤ 1000000) (hz : 0 ≤ c.z ∧ c.z ≤ 100) (hk : k < L.length) : k < (scStep L c k out).1 ∧ (scStep L c k out).2.length ≤ out.length + 6 ∧ (∀ a ∈ (scStep L c k out).2, a ∈ out ∨ a.kp.length ≤ 101) := by
  have e1 : dnx L k = k + 1 := by unfold dnx; rw [if_pos hk]
  have g2 := dnx_ge L (dnx L k)
  have g3 := dnx_ge L (dnx L (dnx L k))
  have h1 := (scC_ok L (dnx L (dnx L k)) c.b hl).2.1
  unfold scStep
  split
  · refine ⟨by dsimp only; omega, by simp, fun a ha => ?_⟩
    rcases List.mem_append.1 ha with ha | ha
    · exact Or.inl ha
    · obtain rfl := List.mem_singleton.1 ha; exact Or.inr (Nat.zero_le _)
  · split
    · refine ⟨by dsimp only; omega, by simp, fun a ha => ?_⟩
      rcases List.mem_append.1 ha with ha | ha
      · exact Or.inl ha
      · obtain rfl := List.mem_singleton.1 ha; exact Or.inr (Nat.zero_le _)
    · split
      · have hkp := keep_ge L (c.s + 1) (dval L (dnx L k) (c.z + 1)).toNat (dnx L (dnx L k)) []
        have hv := dval_in L (dnx L k) (n := c.z + 1) (by omega) (by omega)
        refine ⟨by dsimp only; omega, by simp, fun a ha => ?_⟩
        rcases List.mem_append.1 ha with ha | ha
        · exact Or.inl ha
        · obtain rfl := List.mem_singleton.1 ha
          refine Or.inr ?_
          dsimp only
          rw [hkp.2]
          simp
          omega
      · have hv := dval_in L (dnx L (dnx L k)) (n := 6) (by decide) (by decide)
        refine ⟨by dsimp only; omega, by simp; omega, fun a ha => ?_⟩
        rcases List.mem_append.1 ha with ha | ha
        · exact Or.inl ha
        · obtain ⟨_, rfl⟩ := List.mem_replicate.1 ha; exact Or.inr (Nat.zero_le _)
theorem go_ok {L : List Int} {c : Cf} (hl : L.length ≤ 1000000) (hz : 0 ≤ c.z ∧ c.z ≤ 100) : ∀ (f k : Nat) (out : List Ac), out.length ≤ 405 → (∀ a ∈ out, a.kp.length ≤ 101) → (scGo L c f k out).2.length ≤ 405 ∧ ∀ a ∈ (scGo L c f k out).2, a.kp.length ≤ 101
  | 0, k, out, h1, h2 => ⟨h1, h2⟩
  | f + 1, k, out, h1, h2 => by
    rw [scGo]
    split
    · rename_i h
      obtain ⟨_, s2, s3⟩ := step_ok (out := out) hl hz h.1
      refine go_ok hl hz f _ _ (by omega) (fun a ha => ?_)
      rcases s3 a ha with h | h
      · exact h2 a h
      · exact h
    · exact ⟨h1, h2⟩
theorem step_1 {L : List Int} {c : Cf} {k : Nat} {out : List Ac} (h : dval L k 16 < 5) : scStep L c k out = ((scC L (dnx L (dnx L k)) c.b).2, out ++ [⟨1, dval L (dnx L k) c.q, (scC L (dnx L (dnx L k)) c.b).1.1, (scC L (dnx L (dnx L k)) c.b).1.2.1, sL (scC L (dnx L (dnx L k)) c.b).1.2.2, []⟩]) := by unfold scStep; rw [if_pos h]
theorem step_2 {L : List Int} {c : Cf} {k : Nat} {out : List Ac} (h : dval L k 16 = 5) : scStep L c k out = (dnx L k, out ++ [⟨3, 0, 0, 0, [], []⟩]) := by unfold scStep; rw [if_neg (by omega), if_pos h]
theorem step_3 {L : List Int} {c : Cf} {k : Nat} {out : List Ac} (h : dval L k 16 = 6) : scStep L c k out = ((scKeep L (c.s + 1) (dval L (dnx L k) (c.z + 1)).toNat (dnx L (dnx L k)) []).1, out ++ [⟨4, 0, 0, 0, [], (scKeep L (c.s + 1) (dval L (dnx L k) (c.z + 1)).toNat (dnx L (dnx L k)) []).2⟩]) := by unfold scStep; rw [if_neg (by omega), if_neg (by omega), if_pos h]
theorem step_4 {L : List Int} {c : Cf} {k : Nat} {out : List Ac} (h1 : ¬ dval L k 16 < 5) (h2 : ¬ dval L k 16 = 5) (h3 : ¬ dval L k 16 = 6) : scStep L c k out = (dnx L (dnx L (dnx L k)), out ++ List.replicate (1 + dval L (dnx L (dnx L k)) 6).toNat ⟨2, dval L (dnx L k) (c.q + 3), 0, 0, [], []⟩) := by unfold scStep; rw [if_neg h1, if_neg h2, if_neg h3]
set_option maxRecDepth 100000 in
set_option maxHeartbeats 16000000 in
theorem scriptF (L : List Int) (c : Cf) (k0 : Nat) (hl : L.length ≤ 1000000) (hz : 0 ≤ c.z ∧ c.z ≤ 100) (hs : 0 ≤ c.s ∧ c.s ≤ 100) (hq : 0 ≤ c.q ∧ c.q ≤ 100) (hk0 : k0 ≤ L.length) : FunPR Tryz.prog 8 (dcs L k0) [cfV c, bV true] (dcs L (scGo L c (L.length + 1) k0 []).1) 41 6 (acR (scGo L c (L.length + 1) k0 []).2) := by
  have hgo : ∀ f k out, k < L.length → out.length < 400 → scGo L c (f + 1) k out = scGo L c f (scStep L c k out).1 (scStep L c k out).2 := fun f k out h1 h2 => by rw [scGo, if_pos ⟨h1, h2⟩]
  have hend : ∀ f k out, ¬ (k < L.length ∧ out.length < 400) → scGo L c f k out = (k, out) := fun f k out h => by
    cases f with
    | zero => rfl
    | succ f => rw [scGo, if_neg h]
  generalize hR : scGo L c (L.length + 1) k0 [] = R
  obtain ⟨z, s, b, q, dd, hh⟩ := c
  refine funPR_of_vc tabOk mixOk Tryz.func8 rfl (by rfl) (rs := [.tmp 6]) rfl rfl rfl rfl 97 ?_; rw [Tryz.ntmps8]
  (conv=>whnf);repeat((first|refine zD ?_|refine zA ?_|refine zT ?_|refine zF ?_);conv=>whnf)
  refine vc_loop [0, 2, 4] [4] (X := Nat × Nat × List Ac) (fun x gs => [(7, .v (.c (.own 54 (gs 54))))]) (fun x gs => [(0, .var 0 (dcs L x.2.1)), (54, .row (gs 54) 41 6 (acR x.2.2))]) (fun x => x.2.1 ≤ L.length ∧ L.length - x.2.1 < x.1 ∧ x.2.2.length ≤ 405 ∧ scGo L ⟨z, s, b, q, dd, hh⟩ x.1 x.2.1 x.2.2 = R) (fun x => x.1) _ (Ghost.ownNil 7 54 41 6 rfl (Nat.le_of_ble_eq_true rfl)) (L.length + 1, k0, []) ⟨hk0, by dsimp only; omega, Nat.zero_le _, hR⟩ ?_ ?_
  · (refine zA (zA ?_));(repeat' (first|exact trivial|with_reducible exact cvB_refl _|exact rfl|apply And.intro))
  rintro gs ⟨f, k, out⟩ ⟨hk, hf, ho, hg⟩
  dsimp only at hk hf ho hg ⊢
  clear hR
  have hr := restF L k hl hk
  (conv=>whnf);repeat((first|refine zD ?_|refine zA ?_|refine zT ?_|refine zF ?_);conv=>whnf)
  refine ⟨_, _, hr, ?_⟩
  (conv=>whnf);repeat((first|refine zD ?_|refine zA ?_|refine zT ?_|refine zF ?_);conv=>whnf)
  refine And.intro (fun h => ?_) (fun h => ?_)
  · have hlt : k < L.length := by have := of_decide_eq_true h; omega
    (conv=>whnf);repeat((first|refine zD ?_|refine zA ?_|refine zT ?_|refine zF ?_);conv=>whnf)
    refine And.intro (fun h => ?_) (fun h => ?_)
    · have hlo : out.length < 400 := by have := of_decide_eq_true h; rw [acLen] at this; omega
      clear h hend
      obtain ⟨f, rfl⟩ : ∃ g, f = g + 1 := ⟨f - 1, by omega⟩
      rw [hgo f k out hlt hlo] at hg
      have n1 := nextF L k 16 hl
      have sok := step_ok (out := out) (c := ⟨z, s, b, q, dd, hh⟩) hl hz hlt
      have sle := step_le (out := out) (c := ⟨z, s, b, q, dd, hh⟩) hl hk
      have m1 : L.length - (scStep L ⟨z, s, b, q, dd, hh⟩ k out).1 < f := by omega
      have m2 : (scStep L ⟨z, s, b, q, dd, hh⟩ k out).2.length ≤ 405 := by omega
      have b1 : ∀ x : Ac, (acR out).length + (acR [x]).length ≤ 2000000 := fun x => ac_b (by omega) (by simp)
      clear sok hf ho
      have s1 := @step_1 L ⟨z, s, b, q, dd, hh⟩ k out
      have s2 := @step_2 L ⟨z, s, b, q, dd, hh⟩ k out
      have s3 := @step_3 L ⟨z, s, b, q, dd, hh⟩ k out
      have s4 := @step_4 L ⟨z, s, b, q, dd, hh⟩ k out
      dsimp only at s1 s2 s3 s4 hz hs hq
      (conv=>whnf);repeat((first|refine zD ?_|refine zA ?_|refine zT ?_|refine zF ?_);conv=>whnf)
      refine ⟨_, _, n1, ?_⟩
      clear n1
      generalize dval L k 16 = v at s1 s2 s3 s4 ⊢
      (conv=>whnf);repeat((first|refine zD ?_|refine zA ?_|refine zT ?_|refine zF ?_);conv=>whnf)
      refine And.intro (fun h => ?_) (fun h => ?_)
      · have hv := of_decide_eq_true h
        have s1 := s1 hv
        clear s2 s3 s4
        have n2 := nextF L (dnx L k) q hl
        have n3 := (scC_ok L (dnx L (dnx L k)) b hl).1
        generalize scC L (dnx L (dnx L k)) b = r at s1 n3
        generalize scStep L ⟨z, s, b, q, dd, hh⟩ k out = st at s1 hg m1 m2 sle
        subst s1
        dsimp only at hg m1 m2 sle
        generalize dval L (dnx L k) q = n at n2 hg m2
        (conv=>whnf);repeat((first|refine zD ?_|refine zA ?_|refine zT ?_|refine zF ?_);conv=>whnf)
        refine ⟨_, _, n2, ?_⟩
        (conv=>whnf);repeat((first|refine zD ?_|refine zA ?_|refine zT ?_|refine zF ?_);conv=>whnf)
        refine ⟨_, _, n3, ?_⟩
        (conv=>whnf);repeat((first|refine zD ?_|refine zA ?_|refine zT ?_|refine zF ?_);conv=>whnf)
        refine ⟨acSz [⟨1, n, r.1.1, r.1.2.1, sL r.1.2.2, []⟩], ?_⟩
        (conv=>whnf);repeat((first|refine zD ?_|refine zA ?_|refine zT ?_|refine zF ?_);conv=>whnf)
        refine ⟨bytes_le (by decide) (b1 ⟨1, n, r.1.1, r.1.2.1, sL r.1.2.2, []⟩), ?_⟩
        (conv=>whnf);repeat((first|refine zD ?_|refine zA ?_|refine zT ?_|refine zF ?_);conv=>whnf)
        refine again (f, r.2, out ++ [⟨1, n, r.1.1, r.1.2.1, sL r.1.2.2, []⟩]) ⟨sle, m1, m2, hg⟩ (Nat.lt_succ_self f) ?_
        (refine zA (zA ?_));(repeat' (first|exact trivial|with_reducible exact cvB_refl _|exact rfl|apply And.intro))
        all_goals exact congrArg (Blk.row _ _ _) (acApp out [⟨1, n, r.1.1, r.1.2.1, sL r.1.2.2, []⟩])
      have hv := of_decide_eq_false h
      clear s1
      (conv=>whnf);repeat((first|refine zD ?_|refine zA ?_|refine zT ?_|refine zF ?_);conv=>whnf)
      refine And.intro (fun h => ?_) (fun h => ?_)
      · have h5 : v = 5 := by simpa using h
        have s2 := s2 h5
        clear s3 s4
        generalize scStep L ⟨z, s, b, q, dd, hh⟩ k out = st at s2 hg m1 m2 sle
        subst s2
        dsimp only at hg m1 m2 sle
        (conv=>whnf);repeat((first|refine zD ?_|refine zA ?_|refine zT ?_|refine zF ?_);conv=>whnf)
        refine ⟨acSz [⟨3, 0, 0, 0, [], []⟩], ?_⟩
        (conv=>whnf);repeat((first|refine zD ?_|refine zA ?_|refine zT ?_|refine zF ?_);conv=>whnf)
        refine ⟨bytes_le (by decide) (b1 ⟨3, 0, 0, 0, [], []⟩), ?_⟩
        (conv=>whnf);repeat((first|refine zD ?_|refine zA ?_|refine zT ?_|refine zF ?_);conv=>whnf)
        refine again (f, dnx L k, out ++ [⟨3, 0, 0, 0, [], []⟩]) ⟨sle, m1, m2, hg⟩ (Nat.lt_succ_self f) ?_
        (refine zA (zA ?_));(repeat' (first|exact trivial|with_reducible exact cvB_refl _|exact rfl|apply And.intro))
        all_goals exact congrArg (Blk.row _ _ _) (acApp out [⟨3, 0, 0, 0, [], []⟩])
      have h5 : ¬ v = 5 := by simpa using h
      clear s2
      (conv=>whnf);repeat((first|refine zD ?_|refine zA ?_|refine zT ?_|refine zF ?_);conv=>whnf)
      refine And.intro (fun h => ?_) (fun h => ?_)
      · have h6 : v = 6 := by simpa using h
        have s3 := s3 h6
        clear s4
        have w1 : iwrap .i64 (z + 1) = z + 1 := w64_in (by omega)
        have w2 : iwrap .i64 (s + 1) = s + 1 := w64_in (by omega)
        have n2 := nextF L (dnx L k) (z + 1) hl
        have r2 := dval_in L (dnx L k) (n := z + 1) (by omega) (by omega)
        have l2 : dnx L (dnx L k) ≤ L.length := dnx_le (dnx_le hk)
        obtain ⟨M, hM⟩ : ∃ M : Nat, dval L (dnx L k) (z + 1) = M := ⟨(dval L (dnx L k) (z + 1)).toNat, by omega⟩
        rw [hM] at n2 r2 s3
        rw [Int.toNat_natCast] at s3
        clear hM
        generalize dnx L (dnx L k) = k2 at n2 s3 l2
        (conv=>whnf);repeat((first|refine zD ?_|refine zA ?_|refine zT ?_|refine zF ?_);conv=>whnf)
        rw [w1]
        refine ⟨_, _, n2, ?_⟩
        (conv=>whnf);repeat((first|refine zD ?_|refine zA ?_|refine zT ?_|refine zF ?_);conv=>whnf)
        have hKl : M ≤ 101 := by omega
        generalize hK : scKeep L (s + 1) M k2 [] = KR at s3
        generalize scStep L ⟨z, s, b, q, dd, hh⟩ k out = st at s3 hg m1 m2 sle
        subst s3
        dsimp only at hg m1 m2 sle
        refine vc_loop [0, 2, 4, 7, 9] [4, 54] (X := Nat × Nat × List Int) (fun x gs' => [(10, ATint x.1)]) (fun x gs' => [(0, .var 0 (dcs L x.2.1)), (9, .var (gs 9 + 1) [.i (.sc (.int .i64 4)), .i (.sc (.int .i64 0)), .i (.sc (.int .i64 0)), .i (.sc (.int .i64 0)), .i (.sc (.string ByteArray.empty)), .own 86 (gs' 86)]), (86, .row (gs' 86) 3 1 (wV x.2.2))]) (fun x => x.1 + x.2.2.length ≤ 101 ∧ scKeep L (s + 1) x.1 x.2.1 x.2.2 = KR) (fun x => x.1) _ (Ghost.ownNilV 9 5 86 3 1 (gs 9 + 1) _ rfl rfl (Nat.le_of_ble_eq_true rfl) (by decide)) (M, k2, []) ⟨hKl, hK⟩ ?_ ?_
        · (refine zA (zA ?_));(repeat' (first|exact trivial|with_reducible exact cvB_refl _|exact rfl|apply And.intro))
        rintro gs' ⟨m, kk, ks⟩ ⟨hm, hkr⟩
        dsimp only at hm hkr ⊢
        (conv=>whnf);repeat((first|refine zD ?_|refine zA ?_|refine zT ?_|refine zF ?_);conv=>whnf)
        refine And.intro (fun h => ?_) (fun h => ?_)
        · obtain ⟨m, rfl⟩ : ∃ g, m = g + 1 := ⟨m - 1, by have := of_decide_eq_true h; omega⟩
          have hkr : scKeep L (s + 1) m (dnx L kk) (ks ++ [dval L kk (s + 1)]) = KR := hkr
          have n3 := nextF L kk (s + 1) hl
          have w5 : iwrap .i64 (((m + 1 : Nat) : Int) - 1) = (m : Int) := (w64_in (by omega)).trans (by omega)
          generalize dval L kk (s + 1) = y at hkr n3
          (conv=>whnf);repeat((first|refine zD ?_|refine zA ?_|refine zT ?_|refine zF ?_);conv=>whnf)
          rw [w2]
          refine ⟨_, _, n3, ?_⟩
          (conv=>whnf);repeat((first|refine zD ?_|refine zA ?_|refine zT ?_|refine zF ?_);conv=>whnf)
          refine ⟨wSz [y], ?_⟩
          (conv=>whnf);repeat((first|refine zD ?_|refine zA ?_|refine zT ?_|refine zF ?_);conv=>whnf)
          refine ⟨bytes_le (by decide) (by simp [wV]; omega), ?_⟩
          (conv=>whnf);repeat((first|refine zD ?_|refine zA ?_|refine zT ?_|refine zF ?_);conv=>whnf)
          refine again (m, dnx L kk, ks ++ [y]) ⟨by simp; omega, hkr⟩ (Nat.lt_succ_self m) ?_
          (refine zA (zA ?_));(repeat' (first|exact trivial|with_reducible exact cvB_refl _|exact rfl|apply And.intro))
          all_goals first
            | exact congrArg (Value.int .i64) w5
            | exact congrArg (Blk.row _ _ _) (by simp [wV]; rfl)
        · obtain rfl : m = 0 := by have := of_decide_eq_false h; omega
          have hkr : (kk, ks) = KR := hkr
          subst hkr
          (conv=>whnf);repeat((first|refine zD ?_|refine zA ?_|refine zT ?_|refine zF ?_);conv=>whnf)
          refine ⟨acSz [⟨4, 0, 0, 0, [], ks⟩], ?_⟩
          (conv=>whnf);repeat((first|refine zD ?_|refine zA ?_|refine zT ?_|refine zF ?_);conv=>whnf)
          refine ⟨bytes_le (by decide) (b1 ⟨4, 0, 0, 0, [], ks⟩), ?_⟩
          (conv=>whnf);repeat((first|refine zD ?_|refine zA ?_|refine zT ?_|refine zF ?_);conv=>whnf)
          refine again (f, kk, out ++ [⟨4, 0, 0, 0, [], ks⟩]) ⟨sle, m1, m2, hg⟩ (Nat.lt_succ_self f) ?_
          (refine zA (zA ?_));(repeat' (first|exact trivial|with_reducible exact cvB_refl _|exact rfl|apply And.intro))
          all_goals exact congrArg (Blk.row _ _ _) (acApp out [⟨4, 0, 0, 0, [], ks⟩])
      · have h6 : ¬ v = 6 := by simpa using h
        have s4 := s4 hv h5 h6
        clear s3
        have w1 : iwrap .i64 (q + 3) = q + 3 := w64_in (by omega)
        have n2 := nextF L (dnx L k) (q + 3) hl
        have n3 := nextF L (dnx L (dnx L k)) 6 hl
        have r3 := dval_in L (dnx L (dnx L k)) (n := 6) (by decide) (by decide)
        generalize dval L (dnx L k) (q + 3) = t at n2 s4
        generalize dval L (dnx L (dnx L k)) 6 = u at n3 s4 r3
        obtain ⟨M, hM⟩ : ∃ M : Nat, 1 + u = M := ⟨(1 + u).toNat, by omega⟩
        have w2 : iwrap .i64 (1 + u) = (M : Int) := (w64_in (by omega)).trans hM
        rw [hM, Int.toNat_natCast] at s4
        have hM6 : M ≤ 6 := by omega
        generalize scStep L ⟨z, s, b, q, dd, hh⟩ k out = st at s4 hg m1 m2 sle
        subst s4
        dsimp only at hg m1 m2 sle
        (conv=>whnf);repeat((first|refine zD ?_|refine zA ?_|refine zT ?_|refine zF ?_);conv=>whnf)
        rw [w1]
        refine ⟨_, _, n2, ?_⟩
        (conv=>whnf);repeat((first|refine zD ?_|refine zA ?_|refine zT ?_|refine zF ?_);conv=>whnf)
        refine ⟨_, _, n3, ?_⟩
        (conv=>whnf);repeat((first|refine zD ?_|refine zA ?_|refine zT ?_|refine zF ?_);conv=>whnf)
        rw [w2]
        generalize hrep : out ++ List.replicate M (⟨2, t, 0, 0, [], []⟩ : Ac) = fin at hg m2
        refine vc_loop [0, 2, 4, 11] [0, 4] (X := Nat × List Ac) (fun x gs' => [(12, ATint x.1), (7, .v (.c (.own 54 (gs' 54))))]) (fun x gs' => [(54, .row (gs' 54) 41 6 (acR x.2))]) (fun x => x.1 ≤ 6 ∧ x.2 ++ List.replicate x.1 (⟨2, t, 0, 0, [], []⟩ : Ac) = fin) (fun x => x.1) _ (Ghost.refl _) (M, out) ⟨hM6, hrep⟩ ?_ ?_
        · (refine zA (zA ?_));(repeat' (first|exact trivial|with_reducible exact cvB_refl _|exact rfl|apply And.intro))
        rintro gs' ⟨m, o⟩ ⟨hm, ho⟩
        dsimp only at hm ho ⊢
        (conv=>whnf);repeat((first|refine zD ?_|refine zA ?_|refine zT ?_|refine zF ?_);conv=>whnf)
        refine And.intro (fun h => ?_) (fun h => ?_)
        · obtain ⟨m, rfl⟩ : ∃ g, m = g + 1 := ⟨m - 1, by have := of_decide_eq_true h; omega⟩
          have hol : o.length ≤ 405 := by
            have := congrArg List.length ho
            rw [List.length_append] at this
            omega
          have ho : (o ++ [⟨2, t, 0, 0, [], []⟩]) ++ List.replicate m (⟨2, t, 0, 0, [], []⟩ : Ac) = fin := by
            rw [← ho, List.append_assoc]
            rfl
          have w5 : iwrap .i64 (((m + 1 : Nat) : Int) - 1) = (m : Int) := (w64_in (by omega)).trans (by omega)
          (conv=>whnf);repeat((first|refine zD ?_|refine zA ?_|refine zT ?_|refine zF ?_);conv=>whnf)
          refine ⟨acSz [⟨2, t, 0, 0, [], []⟩], ?_⟩
          (conv=>whnf);repeat((first|refine zD ?_|refine zA ?_|refine zT ?_|refine zF ?_);conv=>whnf)
          refine ⟨bytes_le (by decide) (ac_b (a := o) (b := [⟨2, t, 0, 0, [], []⟩]) (by omega) (by simp)), ?_⟩
          (conv=>whnf);repeat((first|refine zD ?_|refine zA ?_|refine zT ?_|refine zF ?_);conv=>whnf)
          refine again (m, o ++ [⟨2, t, 0, 0, [], []⟩]) ⟨by omega, ho⟩ (Nat.lt_succ_self m) ?_
          (refine zA (zA ?_));(repeat' (first|exact trivial|with_reducible exact cvB_refl _|exact rfl|apply And.intro))
          all_goals first
            | exact congrArg (Value.int .i64) w5
            | exact congrArg (Blk.row _ _ _) (acApp o [⟨2, t, 0, 0, [], []⟩])
        · obtain rfl : m = 0 := by have := of_decide_eq_false h; omega
          have ho : o = fin := by rw [← ho]; simp
          subst ho
          (conv=>whnf);repeat((first|refine zD ?_|refine zA ?_|refine zT ?_|refine zF ?_);conv=>whnf)
          refine again (f, dnx L (dnx L (dnx L k)), o) ⟨sle, m1, m2, hg⟩ (Nat.lt_succ_self f) ?_
          (refine zA (zA ?_));(repeat' (first|exact trivial|with_reducible exact cvB_refl _|exact rfl|apply And.intro))
    · have hlo : ¬ out.length < 400 := by have := of_decide_eq_false h; rw [acLen] at this; omega
      rw [hend f k out (fun g => hlo g.2)] at hg
      subst hg
      (conv=>whnf);repeat((first|refine zD ?_|refine zA ?_|refine zT ?_|refine zF ?_);conv=>whnf)
      refine ⟨54, by decide, ?_⟩
      (conv=>whnf);repeat((first|refine zD ?_|refine zA ?_|refine zT ?_|refine zF ?_);conv=>whnf)
      rfl
  · have hlt : ¬ k < L.length := by have := of_decide_eq_false h; omega
    rw [hend f k out (fun g => hlt g.1)] at hg
    subst hg
    (conv=>whnf);repeat((first|refine zD ?_|refine zA ?_|refine zT ?_|refine zF ?_);conv=>whnf)
    refine ⟨54, by decide, ?_⟩
    (conv=>whnf);repeat((first|refine zD ?_|refine zA ?_|refine zT ?_|refine zF ?_);conv=>whnf)
    rfl
end Go.Proofs.YtikchieadclbhaaGreatDoor.Ab
