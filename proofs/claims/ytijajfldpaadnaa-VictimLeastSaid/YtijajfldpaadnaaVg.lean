/- Victims: VictimLeast. No condition. -/
import Derived.Test.YtijajfldpaadnaaVf
namespace Go.Proofs.Ytijajfldpaadnaa.Ab
set_option linter.unusedVariables false
set_option linter.unusedSimpArgs false
open Go.RowKit

theorem chGo_none (x : Vs) (n : Nat) : (chGo x n).2 = false → (chGo x n).1 = 0 ∧ ∀ i, i < n → vcan x (i : Int) = false := by
  induction n with
  | zero => intro _; exact ⟨rfl, fun i hi => absurd hi (Nat.not_lt_zero i)⟩
  | succ n ih =>
    intro h
    rw [chGo] at h ⊢
    by_cases hb : chB x (n : Int) (chGo x n) = true
    · rw [if_pos hb] at h
      cases h
    · rw [if_neg hb] at h ⊢
      obtain ⟨h1, h2⟩ := ih h
      refine ⟨h1, fun i hi => ?_⟩
      by_cases hin : i = n
      · subst hin
        unfold chB at hb
        rw [h] at hb
        simpa using hb
      · exact h2 i (by omega)
theorem chGo_some (x : Vs) (n : Nat) : (chGo x n).2 = true → ∃ z : Nat, (chGo x n).1 = z ∧ z < n ∧ vcan x (z : Int) = true ∧ ∀ i : Nat, i < n → vcan x (i : Int) = true → lvAt x z < lvAt x i ∨ (lvAt x z = lvAt x i ∧ z ≤ i) := by
  induction n with
  | zero => intro h; cases h
  | succ n ih =>
    intro h
    rw [chGo] at h ⊢
    by_cases hb : chB x (n : Int) (chGo x n) = true
    · rw [if_pos hb]
      have hb' := hb
      unfold chB at hb'
      rw [Bool.and_eq_true] at hb'
      refine ⟨n, rfl, Nat.lt_succ_self n, hb'.1, fun i hi hc => ?_⟩
      by_cases hin : i = n
      · subst hin
        exact Or.inr ⟨rfl, Nat.le_refl _⟩
      · have hin : i < n := by omega
        cases ho : (chGo x n).2 with
        | false =>
          have := (chGo_none x n ho).2 i hin
          rw [hc] at this
          cases this
        | true =>
          obtain ⟨z, e1, e2, e3, e4⟩ := ih ho
          have h2 := hb'.2
          rw [ho, e1] at h2
          have h2 : lvAt x (n : Int) < lvAt x (z : Int) := by simpa using h2
          have := e4 i hin hc
          left
          omega
    · rw [if_neg hb] at h ⊢
      obtain ⟨z, e1, e2, e3, e4⟩ := ih h
      refine ⟨z, e1, by omega, e3, fun i hi hc => ?_⟩
      by_cases hin : i = n
      · subst hin
        unfold chB at hb
        rw [h, hc, e1] at hb
        have hb : ¬ lvAt x (i : Int) < lvAt x (z : Int) := by simpa using hb
        omega
      · exact e4 i (by omega) hc
theorem vcan_yes {x : Vs} {k : Nat} (h : vcan x (k : Int) = true) : ∃ (h1 : k < x.d.zs.length) (h2 : k < x.lv.length) (h3 : k < x.pn.length), x.d.zs[k].st = 4 ∧ x.pn[k] = 0 ∧ x.lv[k] < iwrap .i64 (x.c.s - 1) ∧ lvAt x k = x.lv[k] ∧ (k : Int) < x.c.z := by
  have hd : isData x.c (k : Int) = true := by
    unfold vcan at h
    rw [Bool.and_eq_true] at h
    exact h.1
  by_cases hin : k < x.d.zs.length ∧ k < x.lv.length ∧ k < x.pn.length
  · obtain ⟨h1, h2, h3⟩ := hin
    rw [vcan_at hd h1 h2 h3, Bool.and_eq_true, Bool.and_eq_true] at h
    have q := of_decide_eq_true h.1
    refine ⟨h1, h2, h3, q.1, q.2.1, of_decide_eq_true h.2.2, ?_, (isData_nn hd).2.1⟩
    unfold lvAt
    rw [Int.toNat_natCast, List.getElem?_eq_getElem h2]
  · rw [vcan_out hin] at h
    cases h
theorem ddGo_none (x : Vs) (n : Nat) (h : ∀ i, i < n → vcan x (i : Int) = false) : ddGo x n = 0 := by
  induction n with
  | zero => rfl
  | succ n ih =>
    rw [ddGo, if_neg (by rw [h n (Nat.lt_succ_self n)]; decide)]
    exact ih (fun i hi => h i (by omega))
theorem ddGo_some (x : Vs) (n : Nat) (hs : 3 ≤ x.c.s ∧ x.c.s ≤ 6) (hl : ∀ l ∈ x.lv, 0 ≤ l) (hn : n ≤ 1000) : (0 ≤ ddGo x n ∧ ddGo x n ≤ 6 * n) ∧ ((∃ i, i < n ∧ vcan x (i : Int) = true) → 0 < ddGo x n) := by
  induction n with
  | zero => exact ⟨⟨Int.le_refl _, Int.le_refl _⟩, fun ⟨i, hi, _⟩ => absurd hi (Nat.not_lt_zero i)⟩
  | succ n ih =>
    obtain ⟨⟨h1, h2⟩, h3⟩ := ih (by omega)
    rw [ddGo]
    by_cases hc : vcan x (n : Int) = true
    · rw [if_pos hc]
      obtain ⟨_, h5, _, _, _, h6, h7, _⟩ := vcan_yes hc
      have h8 := hl _ (List.getElem_mem h5)
      rw [h7]
      rw [show iwrap .i64 (x.c.s - 1) = x.c.s - 1 from w64_in (by omega)] at h6
      rw [show iwrap .i64 (ddGo x n + x.c.s) = ddGo x n + x.c.s from w64_in (by omega), show iwrap .i64 (ddGo x n + x.c.s - 1) = ddGo x n + x.c.s - 1 from w64_in (by omega), show iwrap .i64 (ddGo x n + x.c.s - 1 - x.lv[n]) = ddGo x n + x.c.s - 1 - x.lv[n] from w64_in (by omega)]
      exact ⟨by omega, fun _ => by omega⟩
    · rw [if_neg hc]
      refine ⟨by omega, fun ⟨i, hi, hv⟩ => h3 ⟨i, ?_, hv⟩⟩
      by_cases hin : i = n
      · subst hin
        exact absurd hv hc
      · omega
theorem vRun_lv (L : List Int) (C : Nat) (b : Int) (pp : List Int) (k0 Z i : Nat) (hC : 3 ≤ C ∧ C ≤ 6) : ∀ l ∈ (vRun L C b pp k0 Z i).lv, 0 ≤ l := by
  induction i with
  | zero => intro l hl; cases hl
  | succ i ih =>
    intro l hl
    rw [vRun] at hl
    generalize vRun L C b pp k0 Z i = r at ih hl
    unfold vStep at hl
    dsimp only at hl
    rcases List.mem_append.1 hl with hl | hl
    · exact ih l hl
    · rw [List.mem_singleton] at hl
      rw [hl]
      exact (dval_in L _ (n := (C : Int) + 1) (by omega) (by omega)).1
set_option maxRecDepth 100000 in
set_option maxHeartbeats 32000000 in
theorem vLeastF (L : List Int) (hb : L.length ≤ 140737488355328) : Fun Try.prog 3 [slV (wV L)] [] (ATbool true) := by
  have hlight := lightF L hb
  have aw := vawakeF
  by_cases hL : L.length ≤ 300
  rotate_left
  · rw [decide_eq_false hL] at hlight
    refine fun_of_vc tabOk mixOk Try.func3 rfl (by rfl) (rs := [.tmp 2]) rfl rfl 137 ?_; rw [Try.ntmps3]
    (conv => whnf); repeat ((first | refine And.intro DrawOk.go ?_ | refine And.intro rfl ?_ | refine And.intro (fun _ => ?_) (fun h => Bool.noConfusion h) | refine And.intro (fun h => Bool.noConfusion h) (fun _ => ?_)); conv => whnf)
    refine ⟨_, _, hlight, ?_⟩
    (conv => whnf); repeat ((first | refine And.intro DrawOk.go ?_ | refine And.intro rfl ?_ | refine And.intro (fun _ => ?_) (fun h => Bool.noConfusion h) | refine And.intro (fun h => Bool.noConfusion h) (fun _ => ?_)); conv => whnf)
    refine ⟨_, _, aw, ?_⟩
    (conv => whnf); repeat ((first | refine And.intro DrawOk.go ?_ | refine And.intro rfl ?_ | refine And.intro (fun _ => ?_) (fun h => Bool.noConfusion h) | refine And.intro (fun h => Bool.noConfusion h) (fun _ => ?_)); conv => whnf)
    refine Exists.intro [] (And.intro List.nodup_nil ?_); ((conv => whnf); repeat ((first | refine And.intro DrawOk.go ?_ | refine And.intro rfl ?_ | refine And.intro (fun _ => ?_) (fun h => Bool.noConfusion h) | refine And.intro (fun h => Bool.noConfusion h) (fun _ => ?_)); conv => whnf))
    rfl
  rw [decide_eq_true hL] at hlight
  obtain ⟨C, Z, nb, q, d, h, k0, x0, hc, hnb, hC, hZ, hx, _, hm⟩ := vmadeF L hL
  obtain ⟨v1, v2, v3, v4, v5, v6⟩ := v_in (L := L) (nb := nb) (k0 := k0) (pp := List.replicate q (-1)) hC hZ
  have hlv := vRun_lv L C nb (List.replicate q (-1)) k0 Z Z hC
  generalize vRun L C nb (List.replicate q (-1)) k0 Z Z = R at hm v1 v2 v3 v4 v5 v6 hlv
  obtain ⟨_, zs, lv, pn, zz⟩ := R
  dsimp only at hm v1 v2 v3 v4 v5 v6 hlv
  generalize List.replicate q (-1) = pp at hm
  obtain ⟨X, hX⟩ : ∃ X : Vs, X = ⟨⟨Z, C, nb, q, d, h⟩, ⟨C, 3, 3, zs⟩, lv, pn, 0, pp, zz, (Z : Int) - 1 - x0, -1⟩ := ⟨_, rfl⟩
  have hch := chooseF X (by rw [hX]; exact v4) (by rw [hX]; exact v5)
  have hcan := fun (n : Int) => vcanF X n (by rw [hX]; exact v4)
  have hdd := deadF X (by rw [hX]; exact v4) (by rw [hX]; exact v5)
  have hXl : X.d.zs.length = Z := by rw [hX]; exact v1
  have hno := chGo_none X X.d.zs.length
  have hyes := chGo_some X X.d.zs.length
  have hcy := fun (k : Nat) => @vcan_yes X k
  have hd0 := ddGo_none X X.d.zs.length
  have hd1 := (ddGo_some X X.d.zs.length (by rw [hX]; dsimp only; omega) (by rw [hX]; exact hlv) (by omega)).2
  have hsx : stA X = .agg (stC ⟨Z, C, nb, q, d, h⟩ C 3 3 (.i (.sl (zR zs))) (.i (.sl (wV lv))) (.i (.sl (wV pn))) 0 (.i (.sl (wV pp))) (.i (.sl (zpR zz))) ((Z : Int) - 1 - x0) (-1) (.i (.sl []))) := by rw [hX]; rfl
  rw [hsx] at hch hdd
  simp only [hsx] at hcan
  rw [hXl] at hch hdd hno hyes hd0 hd1
  have hXd : X.d.zs = zs := by rw [hX]
  have hXv : X.lv = lv := by rw [hX]
  have hXp : X.pn = pn := by rw [hX]
  generalize chGo X Z = CH at hch hno hyes
  generalize ddGo X Z = DD at hdd hd0 hd1
  obtain ⟨zc, ok⟩ := CH
  dsimp only at hch hno hyes
  have hib := fun (i : Nat) (hi : i < Z) => v_ib (Nat.lt_of_lt_of_le hi hZ.2)
  clear hnb hx hc hL hb hZ v4 v5 v6 hlv hsx
  cases ok with
  | false =>
    obtain ⟨e1, e2⟩ := hno rfl
    have e3 := hd0 e2
    subst e1 e3
    clear hno hyes hd0 hd1 hcy
    refine fun_of_vc tabOk mixOk Try.func3 rfl (by rfl) (rs := [.tmp 2]) rfl rfl 137 ?_; rw [Try.ntmps3]
    (conv => whnf); repeat ((first | refine And.intro DrawOk.go ?_ | refine And.intro rfl ?_ | refine And.intro (fun _ => ?_) (fun h => Bool.noConfusion h) | refine And.intro (fun h => Bool.noConfusion h) (fun _ => ?_)); conv => whnf)
    refine ⟨_, _, hlight, ?_⟩
    (conv => whnf); repeat ((first | refine And.intro DrawOk.go ?_ | refine And.intro rfl ?_ | refine And.intro (fun _ => ?_) (fun h => Bool.noConfusion h) | refine And.intro (fun h => Bool.noConfusion h) (fun _ => ?_)); conv => whnf)
    refine ⟨_, _, hm, ?_⟩
    (conv => whnf); repeat ((first | refine And.intro DrawOk.go ?_ | refine And.intro rfl ?_ | refine And.intro (fun _ => ?_) (fun h => Bool.noConfusion h) | refine And.intro (fun h => Bool.noConfusion h) (fun _ => ?_)); conv => whnf)
    refine ⟨_, _, hch, ?_⟩
    (conv => whnf); repeat ((first | refine And.intro DrawOk.go ?_ | refine And.intro rfl ?_ | refine And.intro (fun _ => ?_) (fun h => Bool.noConfusion h) | refine And.intro (fun h => Bool.noConfusion h) (fun _ => ?_)); conv => whnf)
    refine vc_loop [3, 4, 5] [3, 12, 13, 14] (X := Nat) (fun i gs => [(6, ATint i)]) (fun i gs => []) (fun i => i ≤ Z) (fun i => Z - i) _ (Ghost.refl _) 0 (Nat.zero_le _) ?_ ?_
    · (refine And.intro rfl (And.intro rfl ?_)); (repeat' (first | exact trivial | with_reducible exact cvB_refl _ | exact rfl | apply And.intro))
    intro gs i hi
    (conv => whnf); repeat ((first | refine And.intro DrawOk.go ?_ | refine And.intro rfl ?_ | refine And.intro (fun _ => ?_) (fun h => Bool.noConfusion h) | refine And.intro (fun h => Bool.noConfusion h) (fun _ => ?_)); conv => whnf)
    refine And.intro (fun h => ?_) (fun h => ?_)
    · have hlt : i < Z := d_lt h
      have hci := hcan (i : Int)
      rw [e2 i hlt] at hci
      (conv => whnf); repeat ((first | refine And.intro DrawOk.go ?_ | refine And.intro rfl ?_ | refine And.intro (fun _ => ?_) (fun h => Bool.noConfusion h) | refine And.intro (fun h => Bool.noConfusion h) (fun _ => ?_)); conv => whnf)
      refine ⟨_, _, hci, ?_⟩
      (conv => whnf); repeat ((first | refine And.intro DrawOk.go ?_ | refine And.intro rfl ?_ | refine And.intro (fun _ => ?_) (fun h => Bool.noConfusion h) | refine And.intro (fun h => Bool.noConfusion h) (fun _ => ?_)); conv => whnf)
      refine again (i + 1) hlt (Nat.sub_lt_sub_left hlt (Nat.lt_succ_self i)) ?_
      (refine And.intro rfl (And.intro rfl ?_)); (repeat' (first | exact trivial | with_reducible exact cvB_refl _ | exact rfl | apply And.intro))
      all_goals exact congrArg (Value.int .i64) (w64_nat (hib i hlt))
    · obtain rfl : i = Z := d_ge h hi
      (conv => whnf); repeat ((first | refine And.intro DrawOk.go ?_ | refine And.intro rfl ?_ | refine And.intro (fun _ => ?_) (fun h => Bool.noConfusion h) | refine And.intro (fun h => Bool.noConfusion h) (fun _ => ?_)); conv => whnf)
      refine ⟨_, _, hdd, ?_⟩
      (conv => whnf); repeat ((first | refine And.intro DrawOk.go ?_ | refine And.intro rfl ?_ | refine And.intro (fun _ => ?_) (fun h => Bool.noConfusion h) | refine And.intro (fun h => Bool.noConfusion h) (fun _ => ?_)); conv => whnf)
      refine ⟨_, _, aw, ?_⟩
      (conv => whnf); repeat ((first | refine And.intro DrawOk.go ?_ | refine And.intro rfl ?_ | refine And.intro (fun _ => ?_) (fun h => Bool.noConfusion h) | refine And.intro (fun h => Bool.noConfusion h) (fun _ => ?_)); conv => whnf)
      refine Exists.intro [] (And.intro List.nodup_nil ?_); ((conv => whnf); repeat ((first | refine And.intro DrawOk.go ?_ | refine And.intro rfl ?_ | refine And.intro (fun _ => ?_) (fun h => Bool.noConfusion h) | refine And.intro (fun h => Bool.noConfusion h) (fun _ => ?_)); conv => whnf))
      rfl
  | true =>
    obtain ⟨z, e1, e2, e3, e4⟩ := hyes rfl
    have hdp := hd1 ⟨z, e2, e3⟩
    have e1 : zc = (z : Int) := e1
    subst e1
    clear hno hyes hd0 hd1
    obtain ⟨g1, g2, g3, s1, s2, s3, s4, s5⟩ := hcy z e3
    have iz := zItem g1
    have il := vItem g2
    have ip := vItem g3
    have hcz := hcan (z : Int)
    rw [e3] at hcz
    rw [s4] at e4
    generalize X.d.zs[z] = zn at iz s1
    generalize X.lv[z] = lz at il s3 s4 e4
    generalize X.pn[z] = pz at ip s2
    subst s2
    obtain ⟨st, du, ss⟩ := zn
    have s1 : st = 4 := s1
    subst s1
    rw [hXd] at iz g1
    rw [hXv] at il g2
    rw [hXp] at ip g3
    have hcs : X.c.s = (C : Int) := by rw [hX]
    rw [hcs] at s3
    replace iz : (zR zs)[((z : Int)).toNat]? = some [IV.sc (.int .i64 4), IV.sc (.int .i64 du), IV.sl (sV ss)] := iz
    have hcy2 : ∀ k : Nat, vcan X (k : Int) = true → ∃ lk, k < lv.length ∧ (wV lv)[((k : Int)).toNat]? = some [IV.sc (.int .i64 lk)] ∧ lvAt X k = lk := fun k hk => by
      obtain ⟨_, u2, _, _, _, _, u4, _⟩ := hcy k hk
      have := vItem u2
      refine ⟨_, ?_, ?_, u4⟩
      · rw [hXv] at u2; exact u2
      · generalize X.lv[k] = w at this
        rw [hXv] at this
        exact this
    clear hcy hX hXd hXv hXp hcs s4 s5 hXl
    have hz0 : (0 : Int) ≤ (z : Int) := Int.natCast_nonneg z
    have ll := vLen lv
    have lp := vLen pn
    have lz' := zLen zs
    have hzl : ((z : Int)).toNat < (wV lv).length := by rw [Int.toNat_natCast, ll]; exact g2
    have hzp : ((z : Int)).toNat < (wV pn).length := by rw [Int.toNat_natCast, lp]; exact g3
    have hzz : ((z : Int)).toNat < (zR zs).length := by rw [Int.toNat_natCast, lz']; exact g1
    refine fun_of_vc tabOk mixOk Try.func3 rfl (by rfl) (rs := [.tmp 2]) rfl rfl 137 ?_; rw [Try.ntmps3]
    (conv => whnf); repeat ((first | refine And.intro DrawOk.go ?_ | refine And.intro rfl ?_ | refine And.intro (fun _ => ?_) (fun h => Bool.noConfusion h) | refine And.intro (fun h => Bool.noConfusion h) (fun _ => ?_)); conv => whnf)
    refine ⟨_, _, hlight, ?_⟩
    (conv => whnf); repeat ((first | refine And.intro DrawOk.go ?_ | refine And.intro rfl ?_ | refine And.intro (fun _ => ?_) (fun h => Bool.noConfusion h) | refine And.intro (fun h => Bool.noConfusion h) (fun _ => ?_)); conv => whnf)
    refine ⟨_, _, hm, ?_⟩
    (conv => whnf); repeat ((first | refine And.intro DrawOk.go ?_ | refine And.intro rfl ?_ | refine And.intro (fun _ => ?_) (fun h => Bool.noConfusion h) | refine And.intro (fun h => Bool.noConfusion h) (fun _ => ?_)); conv => whnf)
    refine ⟨_, _, hch, ?_⟩
    (conv => whnf); repeat ((first | refine And.intro DrawOk.go ?_ | refine And.intro rfl ?_ | refine And.intro (fun _ => ?_) (fun h => Bool.noConfusion h) | refine And.intro (fun h => Bool.noConfusion h) (fun _ => ?_)); conv => whnf)
    refine vc_loop [3, 4, 5] [3, 12, 13, 14] (X := Nat) (fun i gs => [(6, ATint i)]) (fun i gs => []) (fun i => i ≤ Z) (fun i => Z - i) _ (Ghost.refl _) 0 (Nat.zero_le _) ?_ ?_
    · (refine And.intro rfl (And.intro rfl ?_)); (repeat' (first | exact trivial | with_reducible exact cvB_refl _ | exact rfl | apply And.intro))
    intro gs i hi
    (conv => whnf); repeat ((first | refine And.intro DrawOk.go ?_ | refine And.intro rfl ?_ | refine And.intro (fun _ => ?_) (fun h => Bool.noConfusion h) | refine And.intro (fun h => Bool.noConfusion h) (fun _ => ?_)); conv => whnf)
    refine And.intro (fun h => ?_) (fun h => ?_)
    · have hlt : i < Z := d_lt h
      have hci := hcan (i : Int)
      have hi4 := e4 i hlt
      have hi5 := hcy2 i
      clear hcan hcy2 e4
      generalize vcan X (i : Int) = b at hci hi4 hi5
      (conv => whnf); repeat ((first | refine And.intro DrawOk.go ?_ | refine And.intro rfl ?_ | refine And.intro (fun _ => ?_) (fun h => Bool.noConfusion h) | refine And.intro (fun h => Bool.noConfusion h) (fun _ => ?_)); conv => whnf)
      refine ⟨_, _, hci, ?_⟩
      cases b with
      | false =>
        (conv => whnf); repeat ((first | refine And.intro DrawOk.go ?_ | refine And.intro rfl ?_ | refine And.intro (fun _ => ?_) (fun h => Bool.noConfusion h) | refine And.intro (fun h => Bool.noConfusion h) (fun _ => ?_)); conv => whnf)
        refine again (i + 1) hlt (Nat.sub_lt_sub_left hlt (Nat.lt_succ_self i)) ?_
        (refine And.intro rfl (And.intro rfl ?_)); (repeat' (first | exact trivial | with_reducible exact cvB_refl _ | exact rfl | apply And.intro))
        all_goals exact congrArg (Value.int .i64) (w64_nat (hib i hlt))
      | true =>
        obtain ⟨lk, u1, u2, u3⟩ := hi5 rfl
        have hi4 := hi4 rfl
        rw [u3] at hi4
        have hkl : ((i : Int)).toNat < (wV lv).length := by rw [Int.toNat_natCast, ll]; exact u1
        have hi0 : (0 : Int) ≤ (i : Int) := Int.natCast_nonneg i
        (conv => whnf); repeat ((first | refine And.intro DrawOk.go ?_ | refine And.intro rfl ?_ | refine And.intro (fun _ => ?_) (fun h => Bool.noConfusion h) | refine And.intro (fun h => Bool.noConfusion h) (fun _ => ?_)); conv => whnf)
        repeat' (first | ((refine And.intro (fun h => ?_) (fun h => ?_)) <;> (try simp at h) <;> ((conv => whnf); repeat ((first | refine And.intro DrawOk.go ?_ | refine And.intro rfl ?_ | refine And.intro (fun _ => ?_) (fun h => Bool.noConfusion h) | refine And.intro (fun h => Bool.noConfusion h) (fun _ => ?_)); conv => whnf))) | (refine ⟨hz0, hzl, ?_⟩; ((conv => whnf); repeat ((first | refine And.intro DrawOk.go ?_ | refine And.intro rfl ?_ | refine And.intro (fun _ => ?_) (fun h => Bool.noConfusion h) | refine And.intro (fun h => Bool.noConfusion h) (fun _ => ?_)); conv => whnf))) | (refine ⟨_, il, ?_⟩; ((conv => whnf); repeat ((first | refine And.intro DrawOk.go ?_ | refine And.intro rfl ?_ | refine And.intro (fun _ => ?_) (fun h => Bool.noConfusion h) | refine And.intro (fun h => Bool.noConfusion h) (fun _ => ?_)); conv => whnf))) | (refine ⟨hi0, hkl, ?_⟩; ((conv => whnf); repeat ((first | refine And.intro DrawOk.go ?_ | refine And.intro rfl ?_ | refine And.intro (fun _ => ?_) (fun h => Bool.noConfusion h) | refine And.intro (fun h => Bool.noConfusion h) (fun _ => ?_)); conv => whnf))) | (refine ⟨_, u2, ?_⟩; ((conv => whnf); repeat ((first | refine And.intro DrawOk.go ?_ | refine And.intro rfl ?_ | refine And.intro (fun _ => ?_) (fun h => Bool.noConfusion h) | refine And.intro (fun h => Bool.noConfusion h) (fun _ => ?_)); conv => whnf))) | fail)
        all_goals first
          | (exfalso; omega)
          | (refine again (i + 1) hlt (Nat.sub_lt_sub_left hlt (Nat.lt_succ_self i)) ?_
             (refine And.intro rfl (And.intro rfl ?_)); (repeat' (first | exact trivial | with_reducible exact cvB_refl _ | exact rfl | apply And.intro))
             all_goals exact congrArg (Value.int .i64) (w64_nat (hib i hlt)))
    · obtain rfl : i = Z := d_ge h hi
      have hzi : z < i := e2
      (conv => whnf); repeat ((first | refine And.intro DrawOk.go ?_ | refine And.intro rfl ?_ | refine And.intro (fun _ => ?_) (fun h => Bool.noConfusion h) | refine And.intro (fun h => Bool.noConfusion h) (fun _ => ?_)); conv => whnf)
      repeat' (first | ((refine And.intro (fun h => ?_) (fun h => ?_)) <;> (try simp at h) <;> ((conv => whnf); repeat ((first | refine And.intro DrawOk.go ?_ | refine And.intro rfl ?_ | refine And.intro (fun _ => ?_) (fun h => Bool.noConfusion h) | refine And.intro (fun h => Bool.noConfusion h) (fun _ => ?_)); conv => whnf))) | (refine ⟨_, _, hcz, ?_⟩; ((conv => whnf); repeat ((first | refine And.intro DrawOk.go ?_ | refine And.intro rfl ?_ | refine And.intro (fun _ => ?_) (fun h => Bool.noConfusion h) | refine And.intro (fun h => Bool.noConfusion h) (fun _ => ?_)); conv => whnf))) | (refine ⟨_, _, hdd, ?_⟩; ((conv => whnf); repeat ((first | refine And.intro DrawOk.go ?_ | refine And.intro rfl ?_ | refine And.intro (fun _ => ?_) (fun h => Bool.noConfusion h) | refine And.intro (fun h => Bool.noConfusion h) (fun _ => ?_)); conv => whnf))) | (refine ⟨_, _, aw, ?_⟩; ((conv => whnf); repeat ((first | refine And.intro DrawOk.go ?_ | refine And.intro rfl ?_ | refine And.intro (fun _ => ?_) (fun h => Bool.noConfusion h) | refine And.intro (fun h => Bool.noConfusion h) (fun _ => ?_)); conv => whnf))) | (refine ⟨hz0, hzl, ?_⟩; ((conv => whnf); repeat ((first | refine And.intro DrawOk.go ?_ | refine And.intro rfl ?_ | refine And.intro (fun _ => ?_) (fun h => Bool.noConfusion h) | refine And.intro (fun h => Bool.noConfusion h) (fun _ => ?_)); conv => whnf))) | (refine ⟨_, il, ?_⟩; ((conv => whnf); repeat ((first | refine And.intro DrawOk.go ?_ | refine And.intro rfl ?_ | refine And.intro (fun _ => ?_) (fun h => Bool.noConfusion h) | refine And.intro (fun h => Bool.noConfusion h) (fun _ => ?_)); conv => whnf))) | (refine ⟨hz0, hzp, ?_⟩; ((conv => whnf); repeat ((first | refine And.intro DrawOk.go ?_ | refine And.intro rfl ?_ | refine And.intro (fun _ => ?_) (fun h => Bool.noConfusion h) | refine And.intro (fun h => Bool.noConfusion h) (fun _ => ?_)); conv => whnf))) | (refine ⟨_, ip, ?_⟩; ((conv => whnf); repeat ((first | refine And.intro DrawOk.go ?_ | refine And.intro rfl ?_ | refine And.intro (fun _ => ?_) (fun h => Bool.noConfusion h) | refine And.intro (fun h => Bool.noConfusion h) (fun _ => ?_)); conv => whnf))) | (refine ⟨hz0, hzz, ?_⟩; ((conv => whnf); repeat ((first | refine And.intro DrawOk.go ?_ | refine And.intro rfl ?_ | refine And.intro (fun _ => ?_) (fun h => Bool.noConfusion h) | refine And.intro (fun h => Bool.noConfusion h) (fun _ => ?_)); conv => whnf))) | (refine ⟨_, iz, ?_⟩; ((conv => whnf); repeat ((first | refine And.intro DrawOk.go ?_ | refine And.intro rfl ?_ | refine And.intro (fun _ => ?_) (fun h => Bool.noConfusion h) | refine And.intro (fun h => Bool.noConfusion h) (fun _ => ?_)); conv => whnf))) | fail)
      all_goals first
        | (exfalso; omega)
        | (refine Exists.intro [] (And.intro List.nodup_nil ?_); ((conv => whnf); repeat ((first | refine And.intro DrawOk.go ?_ | refine And.intro rfl ?_ | refine And.intro (fun _ => ?_) (fun h => Bool.noConfusion h) | refine And.intro (fun h => Bool.noConfusion h) (fun _ => ?_)); conv => whnf))
           rfl)
end Go.Proofs.Ytijajfldpaadnaa.Ab
namespace Go.Proofs.Ytijajfldpaadnaa
set_option linter.unusedVariables false
set_option linter.unusedSimpArgs false
open Ab
set_option maxRecDepth 100000 in
theorem victimLeast.walk {H : Type} {enc : TypeId × Value → H} {W : World} {base : Nat} (v : Value) (d : DataW H) (p : List MemPlace) (hv : Value.okWide Try.prog W .any base 22 v)
    (h : DataW.Trod enc Try.prog W 0 (fun _ => true) true 22 v d p) (hw : ∀ n ∈ d.weights Try.prog 22, n ≤ 140737488351232)
    (W' : World) (hW : W' = W := by rfl) : Calls Try.prog 3 #[v] W' (True1 W') := by
  subst hW
  obtain ⟨es, _, q1, q2⟩ := open_sl tabOk 3 (t := 22) (by decide +kernel) rfl hv h
  obtain ⟨xs, rfl⟩ := ints_of (d := 2) es (fun r hr => (q1 r hr).2)
  have b3 := slice_bound tabOk (e := 3) rfl h hw (q2 (fun _ _ => undef) (fun _ => 0))
  rw [bytesOf_eq tabOk (fun h => TK.noConfusion h)] at b3
  have b3' : (wV xs).length * 8 ≤ 140737488351232 := b3
  exact law_of_fun (vLeastF xs (by simp [wV] at b3'; omega)) rfl (reps_get (vs := [_]) ⟨q2 _ _, trivial⟩)
end Go.Proofs.Ytijajfldpaadnaa
