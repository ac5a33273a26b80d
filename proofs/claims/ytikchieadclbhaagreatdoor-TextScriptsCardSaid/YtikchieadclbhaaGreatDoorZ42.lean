/- The document's configuration of a line. No condition. -/
import Derived.Test.YtikchieadclbhaaGreatDoorZ41
namespace Go.Proofs.YtikchieadclbhaaGreatDoor.Ab
set_option linter.unusedVariables false
set_option linter.unusedSimpArgs false
open Go.RowKit

theorem sz_add {a b : ByteArray} {m n : Nat} (ha : a.size ≤ m) (hb : b.size ≤ n) : (a ++ b).size ≤ m + n := by
  rw [ByteArray.size_append]; omega
theorem sz_ok {a b : ByteArray} {m n : Nat} (ha : a.size ≤ m) (hb : b.size ≤ n) (h : m + n ≤ 9223372036854775807) : a.size + b.size ≤ 9223372036854775807 := by omega
set_option maxRecDepth 100000 in
set_option maxHeartbeats 16000000 in
theorem firstF (c : Cf) (hf : (cfL c).all fit = true) : Fun Tryz.prog 23 [cfV c] [] (.v (strV (sS (cLine c)))) := by
  have hx : ∀ n ∈ cfL c, fit n = true := List.all_eq_true.1 hf
  obtain ⟨n0, n1, n2, n3, n4, n5⟩ := c
  have f0 : fit n0 = true := hx n0 (by simp [cfL])
  have h0 := dR n0 f0
  have z0 := itoS_size f0
  have f1 : fit n1 = true := hx n1 (by simp [cfL])
  have h1 := dR n1 f1
  have z1 := itoS_size f1
  have f2 : fit n2 = true := hx n2 (by simp [cfL])
  have h2 := dR n2 f2
  have z2 := itoS_size f2
  have f3 : fit n3 = true := hx n3 (by simp [cfL])
  have h3 := dR n3 f3
  have z3 := itoS_size f3
  have f4 : fit n4 = true := hx n4 (by simp [cfL])
  have h4 := dR n4 f4
  have z4 := itoS_size f4
  have f5 : fit n5 = true := hx n5 (by simp [cfL])
  have h5 := dR n5 f5
  have z5 := itoS_size f5
  have e : sS (cLine ⟨n0, n1, n2, n3, n4, n5⟩) = (⟨#[99, 111, 110, 102, 105, 103, 32]⟩ : ByteArray) ++ itoS n0 ++ b32 ++ itoS n1 ++ b32 ++ itoS n2 ++ b32 ++ itoS n3 ++ b32 ++ itoS n4 ++ b32 ++ itoS n5 := by
    apply sL_inj
    repeat rw [sL_append]
    show cLine ⟨n0, n1, n2, n3, n4, n5⟩ = _
    rw [cLine_eq]
    simp [wConfig, sL, itoS, b32]
  rw [e]
  clear hx hf e f0 f1 f2 f3 f4 f5
  generalize itoS n0 = d0 at h0 z0 ⊢
  generalize itoS n1 = d1 at h1 z1 ⊢
  generalize itoS n2 = d2 at h2 z2 ⊢
  generalize itoS n3 = d3 at h3 z3 ⊢
  generalize itoS n4 = d4 at h4 z4 ⊢
  generalize itoS n5 = d5 at h5 z5 ⊢
  have hp : (⟨#[99, 111, 110, 102, 105, 103, 32]⟩ : ByteArray).size ≤ 7 := by decide
  have hb : b32.size ≤ 1 := by decide
  have s0 := sz_add hp z0
  have t1 := sz_add s0 hb
  have s1 := sz_add t1 z1
  have t2 := sz_add s1 hb
  have s2 := sz_add t2 z2
  have t3 := sz_add s2 hb
  have s3 := sz_add t3 z3
  have t4 := sz_add s3 hb
  have s4 := sz_add t4 z4
  have t5 := sz_add s4 hb
  have s5 := sz_add t5 z5
  refine fun_of_vc tabOk mixOk Tryz.func23 rfl (by rfl) (rs := [.tmp 2]) rfl rfl 36 ?_; rw [Tryz.ntmps23]
  (conv=>whnf);repeat((first|refine zD ?_|refine zA ?_|refine zT ?_|refine zF ?_);conv=>whnf)
  refine ⟨_, _, h0, ?_⟩
  (conv=>whnf);repeat((first|refine zD ?_|refine zA ?_|refine zT ?_|refine zF ?_);conv=>whnf)
  refine ⟨sz_ok hp z0 (by decide), ?_⟩
  (conv=>whnf);repeat((first|refine zD ?_|refine zA ?_|refine zT ?_|refine zF ?_);conv=>whnf)
  refine ⟨sz_ok s0 hb (by decide), ?_⟩
  (conv=>whnf);repeat((first|refine zD ?_|refine zA ?_|refine zT ?_|refine zF ?_);conv=>whnf)
  refine ⟨_, _, h1, ?_⟩
  (conv=>whnf);repeat((first|refine zD ?_|refine zA ?_|refine zT ?_|refine zF ?_);conv=>whnf)
  refine ⟨sz_ok t1 z1 (by decide), ?_⟩
  (conv=>whnf);repeat((first|refine zD ?_|refine zA ?_|refine zT ?_|refine zF ?_);conv=>whnf)
  refine ⟨sz_ok s1 hb (by decide), ?_⟩
  (conv=>whnf);repeat((first|refine zD ?_|refine zA ?_|refine zT ?_|refine zF ?_);conv=>whnf)
  refine ⟨_, _, h2, ?_⟩
  (conv=>whnf);repeat((first|refine zD ?_|refine zA ?_|refine zT ?_|refine zF ?_);conv=>whnf)
  refine ⟨sz_ok t2 z2 (by decide), ?_⟩
  (conv=>whnf);repeat((first|refine zD ?_|refine zA ?_|refine zT ?_|refine zF ?_);conv=>whnf)
  refine ⟨sz_ok s2 hb (by decide), ?_⟩
  (conv=>whnf);repeat((first|refine zD ?_|refine zA ?_|refine zT ?_|refine zF ?_);conv=>whnf)
  refine ⟨_, _, h3, ?_⟩
  (conv=>whnf);repeat((first|refine zD ?_|refine zA ?_|refine zT ?_|refine zF ?_);conv=>whnf)
  refine ⟨sz_ok t3 z3 (by decide), ?_⟩
  (conv=>whnf);repeat((first|refine zD ?_|refine zA ?_|refine zT ?_|refine zF ?_);conv=>whnf)
  refine ⟨sz_ok s3 hb (by decide), ?_⟩
  (conv=>whnf);repeat((first|refine zD ?_|refine zA ?_|refine zT ?_|refine zF ?_);conv=>whnf)
  refine ⟨_, _, h4, ?_⟩
  (conv=>whnf);repeat((first|refine zD ?_|refine zA ?_|refine zT ?_|refine zF ?_);conv=>whnf)
  refine ⟨sz_ok t4 z4 (by decide), ?_⟩
  (conv=>whnf);repeat((first|refine zD ?_|refine zA ?_|refine zT ?_|refine zF ?_);conv=>whnf)
  refine ⟨sz_ok s4 hb (by decide), ?_⟩
  (conv=>whnf);repeat((first|refine zD ?_|refine zA ?_|refine zT ?_|refine zF ?_);conv=>whnf)
  refine ⟨_, _, h5, ?_⟩
  (conv=>whnf);repeat((first|refine zD ?_|refine zA ?_|refine zT ?_|refine zF ?_);conv=>whnf)
  refine ⟨sz_ok t5 z5 (by decide), ?_⟩
  (conv=>whnf);repeat((first|refine zD ?_|refine zA ?_|refine zT ?_|refine zF ?_);conv=>whnf)
  refine Exists.intro [] (And.intro List.nodup_nil ?_); ((conv=>whnf);repeat((first|refine zD ?_|refine zA ?_|refine zT ?_|refine zF ?_);conv=>whnf))
  rfl
def E6 : List ByteArray := [bE, bE, bE, bE, bE, bE]
def l6 (ws : List ByteArray) (k : Nat) : ByteArray := (ws ++ E6).getD k bE
theorem l6_at {ws : List ByteArray} {k : Nat} (h : k < ws.length + 6) : (sV ws ++ sV E6)[k]? = some [.sc (.string (l6 ws k))] := by
  have h2 : k < (ws ++ E6).length := by simp [E6]; omega
  rw [sApp]
  unfold l6
  rw [List.getD_eq_getElem?_getD, List.getElem?_eq_getElem h2]
  simp only [sV, List.getElem?_map, List.getElem?_eq_getElem h2]
  rfl
theorem l6_data (ws : List ByteArray) (k : Nat) : (l6 ws k).data.toList = (ws.map (·.data.toList)).getD k [] := by
  unfold l6
  rw [List.getD_eq_getElem?_getD, List.getD_eq_getElem?_getD, List.getElem?_map]
  by_cases h : k < ws.length
  · rw [List.getElem?_append_left h, List.getElem?_eq_getElem h]; rfl
  · have h1 : ws[k]? = none := List.getElem?_eq_none (by omega)
    have h2 : ∀ j : Nat, E6[j]?.getD bE = bE
      | 0 => rfl
      | 1 => rfl
      | 2 => rfl
      | 3 => rfl
      | 4 => rfl
      | 5 => rfl
      | _ + 6 => rfl
    rw [List.getElem?_append_right (by omega), h1, h2]
    rfl
def rconfC (s : List UInt8) : Cf := if (cfL (rcf s)).all fit = true then rcf s else cf0
theorem confEnvR (s : ByteArray) (hs : s.size ≤ 900000) : ∃ (ws : List ByteArray) (l1 l2 l3 l4 l5 l6 : ByteArray),
    Fun Tryz.prog 47 [strV s, .c (.i (.sc (.int .u8 32)))] [.row 0 9 1 (sV ws)] (.v (.c (.own 0 0))) ∧
    (sV ws).length + (sV E6).length ≤ 2000000 ∧
    (sV ws ++ sV E6)[Int.toNat 1]? = some [.sc (.string l1)] ∧
    (sV ws ++ sV E6)[Int.toNat 2]? = some [.sc (.string l2)] ∧
    (sV ws ++ sV E6)[Int.toNat 3]? = some [.sc (.string l3)] ∧
    (sV ws ++ sV E6)[Int.toNat 4]? = some [.sc (.string l4)] ∧
    (sV ws ++ sV E6)[Int.toNat 5]? = some [.sc (.string l5)] ∧
    (sV ws ++ sV E6)[Int.toNat 6]? = some [.sc (.string l6)] ∧
    rcf s.data.toList = ⟨rnum l1.data.toList, rnum l2.data.toList, rnum l3.data.toList, rnum l4.data.toList, rnum l5.data.toList, rnum l6.data.toList⟩ := by
  have hl := pcs_len 32 s
  have hne := List.length_pos_iff.2 (pcs_ne 32 s)
  refine ⟨pcs 32 s, l6 (pcs 32 s) 1, l6 (pcs 32 s) 2, l6 (pcs 32 s) 3, l6 (pcs 32 s) 4, l6 (pcs 32 s) 5, l6 (pcs 32 s) 6, cutF 32 s (by omega), by rw [sLen, sLen]; simp only [E6, List.length_cons, List.length_nil]; omega, l6_at (k := 1) (by omega), l6_at (k := 2) (by omega), l6_at (k := 3) (by omega), l6_at (k := 4) (by omega), l6_at (k := 5) (by omega), l6_at (k := 6) (by omega), ?_⟩
  unfold rcf cfOf
  rw [← pcs_spl]
  simp only [l6_data]
set_option maxRecDepth 100000 in
set_option maxHeartbeats 16000000 in
theorem rconfF (s : ByteArray) (hs : s.size ≤ 900000) : Fun Tryz.prog 48 [strV s] [] (.tup [cfV (rconfC s.data.toList), bV (rok s.data.toList)]) := by
  obtain ⟨ws, l1, l2, l3, l4, l5, l6, hcut, hlen, i1, i2, i3, i4, i5, i6, hrc⟩ := confEnvR s hs
  have q1 := numR l1
  have q2 := numR l2
  have q3 := numR l3
  have q4 := numR l4
  have q5 := numR l5
  have q6 := numR l6
  have hb := bytes_le (b := 16) (by decide) hlen
  have hno : ∀ n ∈ cfL (rcf s.data.toList), fit n = false → rconfC s.data.toList = cf0 ∧ rok s.data.toList = false := fun n hn h => by
    have : (cfL (rcf s.data.toList)).all fit = false := List.all_eq_false.2 ⟨n, hn, by rw [h]; decide⟩
    unfold rconfC rok
    rw [this]
    exact ⟨rfl, rfl⟩
  have hyes : (cfL (rcf s.data.toList)).all fit = true → Fun Tryz.prog 23 [cfV (rcf s.data.toList)] [] (.v (strV (sS (cLine (rcf s.data.toList))))) ∧ rconfC s.data.toList = rcf s.data.toList ∧ ((sS (cLine (rcf s.data.toList))).toList == s.toList) = rok s.data.toList := fun h => by
    refine ⟨firstF _ h, by unfold rconfC; rw [if_pos h], ?_⟩
    unfold rok
    rw [h, eqS]
    rfl
  rw [hrc] at hno hyes
  generalize rconfC s.data.toList = RC at hno hyes ⊢
  generalize rok s.data.toList = RB at hno hyes ⊢
  clear hrc
  generalize rnum l1.data.toList = n1 at q1 hno hyes
  generalize rnum l2.data.toList = n2 at q2 hno hyes
  generalize rnum l3.data.toList = n3 at q3 hno hyes
  generalize rnum l4.data.toList = n4 at q4 hno hyes
  generalize rnum l5.data.toList = n5 at q5 hno hyes
  generalize rnum l6.data.toList = n6 at q6 hno hyes
  have m1 := smallF n1
  have m2 := smallF n2
  have m3 := smallF n3
  have m4 := smallF n4
  have m5 := smallF n5
  have m6 := smallF n6
  refine fun_of_vc tabOk mixOk Tryz.func48 rfl (by rfl) (rs := [.cell 2 29, .tmp 3]) rfl rfl 69 ?_; rw [Tryz.ntmps48]
  (conv=>whnf);repeat((first|refine zD ?_|refine zA ?_|refine zT ?_|refine zF ?_);conv=>whnf)
  refine ⟨_, _, hcut, ?_⟩
  (conv=>whnf);repeat((first|refine zD ?_|refine zA ?_|refine zT ?_|refine zF ?_);conv=>whnf)
  refine ⟨sSz E6, ?_⟩
  (conv=>whnf);repeat((first|refine zD ?_|refine zA ?_|refine zT ?_|refine zF ?_);conv=>whnf)
  refine ⟨hb, ?_⟩
  (conv=>whnf);repeat((first|refine zD ?_|refine zA ?_|refine zT ?_|refine zF ?_);conv=>whnf)
  refine ⟨by decide, lt_of_get i1, ?_⟩
  (conv=>whnf);repeat((first|refine zD ?_|refine zA ?_|refine zT ?_|refine zF ?_);conv=>whnf)
  refine ⟨_, i1, ?_⟩
  (conv=>whnf);repeat((first|refine zD ?_|refine zA ?_|refine zT ?_|refine zF ?_);conv=>whnf)
  refine ⟨_, _, q1, ?_⟩
  (conv=>whnf);repeat((first|refine zD ?_|refine zA ?_|refine zT ?_|refine zF ?_);conv=>whnf)
  refine ⟨by decide, lt_of_get i2, ?_⟩
  (conv=>whnf);repeat((first|refine zD ?_|refine zA ?_|refine zT ?_|refine zF ?_);conv=>whnf)
  refine ⟨_, i2, ?_⟩
  (conv=>whnf);repeat((first|refine zD ?_|refine zA ?_|refine zT ?_|refine zF ?_);conv=>whnf)
  refine ⟨_, _, q2, ?_⟩
  (conv=>whnf);repeat((first|refine zD ?_|refine zA ?_|refine zT ?_|refine zF ?_);conv=>whnf)
  refine ⟨by decide, lt_of_get i3, ?_⟩
  (conv=>whnf);repeat((first|refine zD ?_|refine zA ?_|refine zT ?_|refine zF ?_);conv=>whnf)
  refine ⟨_, i3, ?_⟩
  (conv=>whnf);repeat((first|refine zD ?_|refine zA ?_|refine zT ?_|refine zF ?_);conv=>whnf)
  refine ⟨_, _, q3, ?_⟩
  (conv=>whnf);repeat((first|refine zD ?_|refine zA ?_|refine zT ?_|refine zF ?_);conv=>whnf)
  refine ⟨by decide, lt_of_get i4, ?_⟩
  (conv=>whnf);repeat((first|refine zD ?_|refine zA ?_|refine zT ?_|refine zF ?_);conv=>whnf)
  refine ⟨_, i4, ?_⟩
  (conv=>whnf);repeat((first|refine zD ?_|refine zA ?_|refine zT ?_|refine zF ?_);conv=>whnf)
  refine ⟨_, _, q4, ?_⟩
  (conv=>whnf);repeat((first|refine zD ?_|refine zA ?_|refine zT ?_|refine zF ?_);conv=>whnf)
  refine ⟨by decide, lt_of_get i5, ?_⟩
  (conv=>whnf);repeat((first|refine zD ?_|refine zA ?_|refine zT ?_|refine zF ?_);conv=>whnf)
  refine ⟨_, i5, ?_⟩
  (conv=>whnf);repeat((first|refine zD ?_|refine zA ?_|refine zT ?_|refine zF ?_);conv=>whnf)
  refine ⟨_, _, q5, ?_⟩
  (conv=>whnf);repeat((first|refine zD ?_|refine zA ?_|refine zT ?_|refine zF ?_);conv=>whnf)
  refine ⟨by decide, lt_of_get i6, ?_⟩
  (conv=>whnf);repeat((first|refine zD ?_|refine zA ?_|refine zT ?_|refine zF ?_);conv=>whnf)
  refine ⟨_, i6, ?_⟩
  (conv=>whnf);repeat((first|refine zD ?_|refine zA ?_|refine zT ?_|refine zF ?_);conv=>whnf)
  refine ⟨_, _, q6, ?_⟩
  (conv=>whnf);repeat((first|refine zD ?_|refine zA ?_|refine zT ?_|refine zF ?_);conv=>whnf)
  refine vc_loop [0, 2, 5, 6] [2, 5, 6] (X := Nat) (fun i gs => [(7, ATint i)]) (fun i gs => []) (fun i => i ≤ 6 ∧ ∀ j, j < i → fit ([n1, n2, n3, n4, n5, n6].getD j 0) = true) (fun i => 6 - i) _ (Ghost.refl _) 0 ⟨by decide, fun j h => absurd h (Nat.not_lt_zero j)⟩ ?_ ?_
  · (refine zA (zA ?_));(repeat' (first|exact trivial|with_reducible exact cvB_refl _|exact rfl|apply And.intro))
  rintro gs i ⟨hi, hfs⟩
  have hc : i = 0 ∨ i = 1 ∨ i = 2 ∨ i = 3 ∨ i = 4 ∨ i = 5 ∨ i = 6 := by omega
  rcases hc with rfl | rfl | rfl | rfl | rfl | rfl | rfl
  · cases hc : fit n1 with
    | false =>
      obtain ⟨rfl, rfl⟩ := hno n1 (by simp [cfL]) hc
      rw [hc] at m1
      (conv=>whnf);repeat((first|refine zD ?_|refine zA ?_|refine zT ?_|refine zF ?_);conv=>whnf)
      refine ⟨by decide, by decide, ?_⟩
      (conv=>whnf);repeat((first|refine zD ?_|refine zA ?_|refine zT ?_|refine zF ?_);conv=>whnf)
      refine ⟨_, _, m1, ?_⟩
      (conv=>whnf);repeat((first|refine zD ?_|refine zA ?_|refine zT ?_|refine zF ?_);conv=>whnf)
      refine Exists.intro [] (And.intro List.nodup_nil ?_); ((conv=>whnf);repeat((first|refine zD ?_|refine zA ?_|refine zT ?_|refine zF ?_);conv=>whnf))
      rfl
    | true =>
      rw [hc] at m1
      (conv=>whnf);repeat((first|refine zD ?_|refine zA ?_|refine zT ?_|refine zF ?_);conv=>whnf)
      refine ⟨by decide, by decide, ?_⟩
      (conv=>whnf);repeat((first|refine zD ?_|refine zA ?_|refine zT ?_|refine zF ?_);conv=>whnf)
      refine ⟨_, _, m1, ?_⟩
      (conv=>whnf);repeat((first|refine zD ?_|refine zA ?_|refine zT ?_|refine zF ?_);conv=>whnf)
      refine again 1 ⟨by decide, fun j hj => (Nat.lt_succ_iff_lt_or_eq.1 hj).elim (hfs j) (fun e => by subst e; exact hc)⟩ (by decide) ?_
      (refine zA (zA ?_));(repeat' (first|exact trivial|with_reducible exact cvB_refl _|exact rfl|apply And.intro))
      all_goals first
        | exact congrArg (Value.int .i64) (w64_nat (k := 0) (by decide))
        | rfl
  · cases hc : fit n2 with
    | false =>
      obtain ⟨rfl, rfl⟩ := hno n2 (by simp [cfL]) hc
      rw [hc] at m2
      (conv=>whnf);repeat((first|refine zD ?_|refine zA ?_|refine zT ?_|refine zF ?_);conv=>whnf)
      refine ⟨by decide, by decide, ?_⟩
      (conv=>whnf);repeat((first|refine zD ?_|refine zA ?_|refine zT ?_|refine zF ?_);conv=>whnf)
      refine ⟨_, _, m2, ?_⟩
      (conv=>whnf);repeat((first|refine zD ?_|refine zA ?_|refine zT ?_|refine zF ?_);conv=>whnf)
      refine Exists.intro [] (And.intro List.nodup_nil ?_); ((conv=>whnf);repeat((first|refine zD ?_|refine zA ?_|refine zT ?_|refine zF ?_);conv=>whnf))
      rfl
    | true =>
      rw [hc] at m2
      (conv=>whnf);repeat((first|refine zD ?_|refine zA ?_|refine zT ?_|refine zF ?_);conv=>whnf)
      refine ⟨by decide, by decide, ?_⟩
      (conv=>whnf);repeat((first|refine zD ?_|refine zA ?_|refine zT ?_|refine zF ?_);conv=>whnf)
      refine ⟨_, _, m2, ?_⟩
      (conv=>whnf);repeat((first|refine zD ?_|refine zA ?_|refine zT ?_|refine zF ?_);conv=>whnf)
      refine again 2 ⟨by decide, fun j hj => (Nat.lt_succ_iff_lt_or_eq.1 hj).elim (hfs j) (fun e => by subst e; exact hc)⟩ (by decide) ?_
      (refine zA (zA ?_));(repeat' (first|exact trivial|with_reducible exact cvB_refl _|exact rfl|apply And.intro))
      all_goals first
        | exact congrArg (Value.int .i64) (w64_nat (k := 1) (by decide))
        | rfl
  · cases hc : fit n3 with
    | false =>
      obtain ⟨rfl, rfl⟩ := hno n3 (by simp [cfL]) hc
      rw [hc] at m3
      (conv=>whnf);repeat((first|refine zD ?_|refine zA ?_|refine zT ?_|refine zF ?_);conv=>whnf)
      refine ⟨by decide, by decide, ?_⟩
      (conv=>whnf);repeat((first|refine zD ?_|refine zA ?_|refine zT ?_|refine zF ?_);conv=>whnf)
      refine ⟨_, _, m3, ?_⟩
      (conv=>whnf);repeat((first|refine zD ?_|refine zA ?_|refine zT ?_|refine zF ?_);conv=>whnf)
      refine Exists.intro [] (And.intro List.nodup_nil ?_); ((conv=>whnf);repeat((first|refine zD ?_|refine zA ?_|refine zT ?_|refine zF ?_);conv=>whnf))
      rfl
    | true =>
      rw [hc] at m3
      (conv=>whnf);repeat((first|refine zD ?_|refine zA ?_|refine zT ?_|refine zF ?_);conv=>whnf)
      refine ⟨by decide, by decide, ?_⟩
      (conv=>whnf);repeat((first|refine zD ?_|refine zA ?_|refine zT ?_|refine zF ?_);conv=>whnf)
      refine ⟨_, _, m3, ?_⟩
      (conv=>whnf);repeat((first|refine zD ?_|refine zA ?_|refine zT ?_|refine zF ?_);conv=>whnf)
      refine again 3 ⟨by decide, fun j hj => (Nat.lt_succ_iff_lt_or_eq.1 hj).elim (hfs j) (fun e => by subst e; exact hc)⟩ (by decide) ?_
      (refine zA (zA ?_));(repeat' (first|exact trivial|with_reducible exact cvB_refl _|exact rfl|apply And.intro))
      all_goals first
        | exact congrArg (Value.int .i64) (w64_nat (k := 2) (by decide))
        | rfl
  · cases hc : fit n4 with
    | false =>
      obtain ⟨rfl, rfl⟩ := hno n4 (by simp [cfL]) hc
      rw [hc] at m4
      (conv=>whnf);repeat((first|refine zD ?_|refine zA ?_|refine zT ?_|refine zF ?_);conv=>whnf)
      refine ⟨by decide, by decide, ?_⟩
      (conv=>whnf);repeat((first|refine zD ?_|refine zA ?_|refine zT ?_|refine zF ?_);conv=>whnf)
      refine ⟨_, _, m4, ?_⟩
      (conv=>whnf);repeat((first|refine zD ?_|refine zA ?_|refine zT ?_|refine zF ?_);conv=>whnf)
      refine Exists.intro [] (And.intro List.nodup_nil ?_); ((conv=>whnf);repeat((first|refine zD ?_|refine zA ?_|refine zT ?_|refine zF ?_);conv=>whnf))
      rfl
    | true =>
      rw [hc] at m4
      (conv=>whnf);repeat((first|refine zD ?_|refine zA ?_|refine zT ?_|refine zF ?_);conv=>whnf)
      refine ⟨by decide, by decide, ?_⟩
      (conv=>whnf);repeat((first|refine zD ?_|refine zA ?_|refine zT ?_|refine zF ?_);conv=>whnf)
      refine ⟨_, _, m4, ?_⟩
      (conv=>whnf);repeat((first|refine zD ?_|refine zA ?_|refine zT ?_|refine zF ?_);conv=>whnf)
      refine again 4 ⟨by decide, fun j hj => (Nat.lt_succ_iff_lt_or_eq.1 hj).elim (hfs j) (fun e => by subst e; exact hc)⟩ (by decide) ?_
      (refine zA (zA ?_));(repeat' (first|exact trivial|with_reducible exact cvB_refl _|exact rfl|apply And.intro))
      all_goals first
        | exact congrArg (Value.int .i64) (w64_nat (k := 3) (by decide))
        | rfl
  · cases hc : fit n5 with
    | false =>
      obtain ⟨rfl, rfl⟩ := hno n5 (by simp [cfL]) hc
      rw [hc] at m5
      (conv=>whnf);repeat((first|refine zD ?_|refine zA ?_|refine zT ?_|refine zF ?_);conv=>whnf)
      refine ⟨by decide, by decide, ?_⟩
      (conv=>whnf);repeat((first|refine zD ?_|refine zA ?_|refine zT ?_|refine zF ?_);conv=>whnf)
      refine ⟨_, _, m5, ?_⟩
      (conv=>whnf);repeat((first|refine zD ?_|refine zA ?_|refine zT ?_|refine zF ?_);conv=>whnf)
      refine Exists.intro [] (And.intro List.nodup_nil ?_); ((conv=>whnf);repeat((first|refine zD ?_|refine zA ?_|refine zT ?_|refine zF ?_);conv=>whnf))
      rfl
    | true =>
      rw [hc] at m5
      (conv=>whnf);repeat((first|refine zD ?_|refine zA ?_|refine zT ?_|refine zF ?_);conv=>whnf)
      refine ⟨by decide, by decide, ?_⟩
      (conv=>whnf);repeat((first|refine zD ?_|refine zA ?_|refine zT ?_|refine zF ?_);conv=>whnf)
      refine ⟨_, _, m5, ?_⟩
      (conv=>whnf);repeat((first|refine zD ?_|refine zA ?_|refine zT ?_|refine zF ?_);conv=>whnf)
      refine again 5 ⟨by decide, fun j hj => (Nat.lt_succ_iff_lt_or_eq.1 hj).elim (hfs j) (fun e => by subst e; exact hc)⟩ (by decide) ?_
      (refine zA (zA ?_));(repeat' (first|exact trivial|with_reducible exact cvB_refl _|exact rfl|apply And.intro))
      all_goals first
        | exact congrArg (Value.int .i64) (w64_nat (k := 4) (by decide))
        | rfl
  · cases hc : fit n6 with
    | false =>
      obtain ⟨rfl, rfl⟩ := hno n6 (by simp [cfL]) hc
      rw [hc] at m6
      (conv=>whnf);repeat((first|refine zD ?_|refine zA ?_|refine zT ?_|refine zF ?_);conv=>whnf)
      refine ⟨by decide, by decide, ?_⟩
      (conv=>whnf);repeat((first|refine zD ?_|refine zA ?_|refine zT ?_|refine zF ?_);conv=>whnf)
      refine ⟨_, _, m6, ?_⟩
      (conv=>whnf);repeat((first|refine zD ?_|refine zA ?_|refine zT ?_|refine zF ?_);conv=>whnf)
      refine Exists.intro [] (And.intro List.nodup_nil ?_); ((conv=>whnf);repeat((first|refine zD ?_|refine zA ?_|refine zT ?_|refine zF ?_);conv=>whnf))
      rfl
    | true =>
      rw [hc] at m6
      (conv=>whnf);repeat((first|refine zD ?_|refine zA ?_|refine zT ?_|refine zF ?_);conv=>whnf)
      refine ⟨by decide, by decide, ?_⟩
      (conv=>whnf);repeat((first|refine zD ?_|refine zA ?_|refine zT ?_|refine zF ?_);conv=>whnf)
      refine ⟨_, _, m6, ?_⟩
      (conv=>whnf);repeat((first|refine zD ?_|refine zA ?_|refine zT ?_|refine zF ?_);conv=>whnf)
      refine again 6 ⟨by decide, fun j hj => (Nat.lt_succ_iff_lt_or_eq.1 hj).elim (hfs j) (fun e => by subst e; exact hc)⟩ (by decide) ?_
      (refine zA (zA ?_));(repeat' (first|exact trivial|with_reducible exact cvB_refl _|exact rfl|apply And.intro))
      all_goals first
        | exact congrArg (Value.int .i64) (w64_nat (k := 5) (by decide))
        | rfl
  · obtain ⟨hfi, e1, e2⟩ := hyes (by
      have h0 := hfs 0 (by decide); have h1 := hfs 1 (by decide); have h2 := hfs 2 (by decide); have h3 := hfs 3 (by decide); have h4 := hfs 4 (by decide); have h5 := hfs 5 (by decide)
      simp only [List.getD_cons_zero, List.getD_cons_succ] at h0 h1 h2 h3 h4 h5
      simp [cfL, h0, h1, h2, h3, h4, h5])
    subst e1
    clear hno hyes
    generalize sS (cLine ⟨n1, n2, n3, n4, n5, n6⟩) = L at hfi e2
    subst e2
    (conv=>whnf);repeat((first|refine zD ?_|refine zA ?_|refine zT ?_|refine zF ?_);conv=>whnf)
    refine ⟨_, _, hfi, ?_⟩
    (conv=>whnf);repeat((first|refine zD ?_|refine zA ?_|refine zT ?_|refine zF ?_);conv=>whnf)
    refine Exists.intro [] (And.intro List.nodup_nil ?_); ((conv=>whnf);repeat((first|refine zD ?_|refine zA ?_|refine zT ?_|refine zF ?_);conv=>whnf))
    rfl
end Go.Proofs.YtikchieadclbhaaGreatDoor.Ab
