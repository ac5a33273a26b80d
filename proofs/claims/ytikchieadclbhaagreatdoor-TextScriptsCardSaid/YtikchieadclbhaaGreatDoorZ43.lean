/- Values made of numbers: for each seat that has them. -/
import Derived.Test.YtikchieadclbhaaGreatDoorZ40
import Derived.Test.YtikchieadclbhaaGreatDoorZ25
import Derived.Test.YtikchieadclbhaaGreatDoorZ22
namespace Go.Proofs.YtikchieadclbhaaGreatDoor.Ab
set_option linter.unusedVariables false
set_option linter.unusedSimpArgs false
open Go.RowKit

def smallP (c : Cf) : Prop := (3 ≤ c.s ∧ c.s ≤ 6) ∧ (1 ≤ c.b ∧ c.b ≤ 6) ∧ (1 ≤ c.q ∧ c.q ≤ 3) ∧ (1 ≤ c.d ∧ c.d ≤ 3) ∧ (1 ≤ c.h ∧ c.h ≤ 3) ∧ ∃ v, 0 ≤ v ∧ v ≤ 2 ∧ c.z = 2 * Int.tdiv (c.b + 2 + c.s - 1) c.s + 6 + v
theorem dval_nil {k : Nat} {n : Int} {L : List Int} (h : L = []) : dval L k n = 0 := by subst h; rfl
theorem dnx_ge (L : List Int) (k : Nat) : k ≤ dnx L k := by unfold dnx; split <;> omega
set_option maxRecDepth 100000 in
set_option maxHeartbeats 16000000 in
theorem mkSmallF (L : List Int) (k : Nat) (hl : L.length ≤ 1000000) : ∃ c k', FunP Tryz.prog 7 (dcs L k) [] (dcs L k') (.v (cfV c)) ∧ smallP c ∧ (L = [] → c = ⟨8, 3, 1, 1, 1, 1⟩) ∧ (k ≤ L.length → k' ≤ L.length) := by
  have n1 := nextF L k 4 hl
  have r1 := dval_in L k (n := 4) (by omega) (by omega)
  have z1 : L = [] → dval L k 4 = 0 := dval_nil
  have l1 : k ≤ L.length → dnx L k ≤ L.length := dnx_le
  generalize dval L k 4 = v1 at n1 r1 z1
  generalize dnx L k = k1 at n1 l1
  have n2 := nextF L k1 6 hl
  have r2 := dval_in L k1 (n := 6) (by omega) (by omega)
  have z2 : L = [] → dval L k1 6 = 0 := dval_nil
  have l2 : k1 ≤ L.length → dnx L k1 ≤ L.length := dnx_le
  generalize dval L k1 6 = v2 at n2 r2 z2
  generalize dnx L k1 = k2 at n2 l2
  have n3 := nextF L k2 3 hl
  have r3 := dval_in L k2 (n := 3) (by omega) (by omega)
  have z3 : L = [] → dval L k2 3 = 0 := dval_nil
  have l3 : k2 ≤ L.length → dnx L k2 ≤ L.length := dnx_le
  generalize dval L k2 3 = v3 at n3 r3 z3
  generalize dnx L k2 = k3 at n3 l3
  have n4 := nextF L k3 3 hl
  have r4 := dval_in L k3 (n := 3) (by omega) (by omega)
  have z4 : L = [] → dval L k3 3 = 0 := dval_nil
  have l4 : k3 ≤ L.length → dnx L k3 ≤ L.length := dnx_le
  generalize dval L k3 3 = v4 at n4 r4 z4
  generalize dnx L k3 = k4 at n4 l4
  have n5 := nextF L k4 3 hl
  have r5 := dval_in L k4 (n := 3) (by omega) (by omega)
  have z5 : L = [] → dval L k4 3 = 0 := dval_nil
  have l5 : k4 ≤ L.length → dnx L k4 ≤ L.length := dnx_le
  generalize dval L k4 3 = v5 at n5 r5 z5
  generalize dnx L k4 = k5 at n5 l5
  have n6 := nextF L k5 3 hl
  have r6 := dval_in L k5 (n := 3) (by omega) (by omega)
  have z6 : L = [] → dval L k5 3 = 0 := dval_nil
  have l6 : k5 ≤ L.length → dnx L k5 ≤ L.length := dnx_le
  generalize dval L k5 3 = v6 at n6 r6 z6
  generalize dnx L k5 = k6 at n6 l6
  have hq : Int.tdiv (1 + v2 + 2 + (3 + v1) - 1) (3 + v1) = (1 + v2 + 2 + (3 + v1) - 1) / (3 + v1) := Int.tdiv_eq_ediv_of_nonneg (by omega)
  have hq1 : 0 ≤ (1 + v2 + 2 + (3 + v1) - 1) / (3 + v1) := Int.ediv_nonneg (by omega) (by omega)
  have hq2 : (1 + v2 + 2 + (3 + v1) - 1) / (3 + v1) ≤ 1 + v2 + 2 + (3 + v1) - 1 := Int.ediv_le_self _ (by omega)
  rw [← hq] at hq1 hq2
  refine ⟨⟨2 * Int.tdiv (1 + v2 + 2 + (3 + v1) - 1) (3 + v1) + 6 + v6, 3 + v1, 1 + v2, 1 + v3, 1 + v4, 1 + v5⟩, k6, ?_, ⟨⟨by dsimp only; omega, by dsimp only; omega⟩, ⟨by dsimp only; omega, by dsimp only; omega⟩, ⟨by dsimp only; omega, by dsimp only; omega⟩, ⟨by dsimp only; omega, by dsimp only; omega⟩, ⟨by dsimp only; omega, by dsimp only; omega⟩, v6, by omega, by omega, rfl⟩, ?_, fun h => l6 (l5 (l4 (l3 (l2 (l1 h)))))⟩
  rotate_left
  · intro h
    rw [z1 h, z2 h, z3 h, z4 h, z5 h, z6 h]
    rfl
  have e1 : iwrap .i64 (3 + v1) = 3 + v1 := w64_in (by omega)
  have e2 : iwrap .i64 (1 + v2) = 1 + v2 := w64_in (by omega)
  have e3 : iwrap .i64 (1 + v3) = 1 + v3 := w64_in (by omega)
  have e4 : iwrap .i64 (1 + v4) = 1 + v4 := w64_in (by omega)
  have e5 : iwrap .i64 (1 + v5) = 1 + v5 := w64_in (by omega)
  have e6 : iwrap .i64 (1 + v2 + 2) = 1 + v2 + 2 := w64_in (by omega)
  have e7 : iwrap .i64 (1 + v2 + 2 + (3 + v1)) = 1 + v2 + 2 + (3 + v1) := w64_in (by omega)
  have e8 : iwrap .i64 (1 + v2 + 2 + (3 + v1) - 1) = 1 + v2 + 2 + (3 + v1) - 1 := w64_in (by omega)
  refine funP_of_vc tabOk mixOk Tryz.func7 rfl (by rfl) (rs := [.cell 2 29]) rfl rfl rfl rfl rfl 41 ?_; rw [Tryz.ntmps7]
  (conv=>whnf);repeat((first|refine zD ?_|refine zA ?_|refine zT ?_|refine zF ?_);conv=>whnf)
  refine ⟨_, _, n1, ?_⟩
  (conv=>whnf);repeat((first|refine zD ?_|refine zA ?_|refine zT ?_|refine zF ?_);conv=>whnf)
  refine ⟨_, _, n2, ?_⟩
  (conv=>whnf);repeat((first|refine zD ?_|refine zA ?_|refine zT ?_|refine zF ?_);conv=>whnf)
  refine ⟨_, _, n3, ?_⟩
  (conv=>whnf);repeat((first|refine zD ?_|refine zA ?_|refine zT ?_|refine zF ?_);conv=>whnf)
  refine ⟨_, _, n4, ?_⟩
  (conv=>whnf);repeat((first|refine zD ?_|refine zA ?_|refine zT ?_|refine zF ?_);conv=>whnf)
  refine ⟨_, _, n5, ?_⟩
  (conv=>whnf);repeat((first|refine zD ?_|refine zA ?_|refine zT ?_|refine zF ?_);conv=>whnf)
  rw [e1, e2, e3, e4, e5]
  refine ⟨by omega, ?_⟩
  (conv=>whnf);repeat((first|refine zD ?_|refine zA ?_|refine zT ?_|refine zF ?_);conv=>whnf)
  refine ⟨_, _, n6, ?_⟩
  (conv=>whnf);repeat((first|refine zD ?_|refine zA ?_|refine zT ?_|refine zF ?_);conv=>whnf)
  rw [e6, e7, e8]
  generalize Int.tdiv (1 + v2 + 2 + (3 + v1) - 1) (3 + v1) = Q at hq1 hq2
  rw [show iwrap .i64 Q = Q from w64_in (by omega), show iwrap .i64 (2 * Q) = 2 * Q from w64_in (by omega), show iwrap .i64 (2 * Q + 6) = 2 * Q + 6 from w64_in (by omega), show iwrap .i64 (2 * Q + 6 + v6) = 2 * Q + 6 + v6 from w64_in (by omega)]
  rfl
theorem small_facts {c : Cf} (hs : smallP c) : cfChk c = 0 ∧ 0 ≤ lyFirst c ∧ lyFirst c ≤ 20 ∧ 6 ≤ lyData c ∧ lyData c ≤ 8 ∧ c.z = lyFirst c + lyData c := by
  obtain ⟨z, s, b, q, d, h⟩ := c
  obtain ⟨⟨s1, s2⟩, ⟨b1, b2⟩, ⟨q1, q2⟩, ⟨d1, d2⟩, ⟨h1, h2⟩, v, v1, v2, hz⟩ := hs
  dsimp only at s1 s2 b1 b2 q1 q2 d1 d2 h1 h2 hz ⊢
  have hs' : s = 3 ∨ s = 4 ∨ s = 5 ∨ s = 6 := by omega
  have hQ : ∃ Q, Int.tdiv (b + 2 + s - 1) s = Q ∧ 1 ≤ Q ∧ Q ≤ 3 := by
    refine ⟨_, rfl, ?_⟩
    rw [Int.tdiv_eq_ediv_of_nonneg (by omega)]
    rcases hs' with rfl | rfl | rfl | rfl <;> omega
  obtain ⟨Q, hQ, Q1, Q2⟩ := hQ
  rw [hQ] at hz
  have e1 : lySlot ⟨z, s, b, q, d, h⟩ = Q := by
    unfold lySlot
    dsimp only
    rw [show iwrap .i64 (b + 2) = b + 2 from w64_in (by omega), show iwrap .i64 (b + 2 + s) = b + 2 + s from w64_in (by omega), show iwrap .i64 (b + 2 + s - 1) = b + 2 + s - 1 from w64_in (by omega), hQ]
    exact w64_in (by omega)
  have e2 : lyFirst ⟨z, s, b, q, d, h⟩ = 2 * Q := by
    unfold lyFirst
    rw [e1]
    exact w64_in (by omega)
  have e3 : lyData ⟨z, s, b, q, d, h⟩ = 6 + v := by
    unfold lyData
    rw [e2]
    dsimp only
    exact (w64_in (by omega)).trans (by omega)
  have hm : ∃ M, (3 + v) * (s - 1) = M ∧ 6 ≤ M ∧ M ≤ 25 := by
    refine ⟨_, rfl, ?_⟩
    rcases hs' with rfl | rfl | rfl | rfl <;> omega
  obtain ⟨M, hM, M1, M2⟩ := hm
  have e4 : lyCap ⟨z, s, b, q, d, h⟩ = M - q - 1 := by
    unfold lyCap
    rw [e3]
    dsimp only
    rw [show iwrap .i64 (6 + v - 3) = 3 + v from (w64_in (by omega)).trans (by omega), show iwrap .i64 (s - 1) = s - 1 from w64_in (by omega), hM, show iwrap .i64 M = M from w64_in (by omega), show iwrap .i64 (M - q) = M - q from w64_in (by omega)]
    exact w64_in (by omega)
  refine ⟨?_, by omega, by omega, by omega, by omega, by omega⟩
  unfold cfChk
  rw [if_pos (cfOk_iff.2 ⟨by dsimp only; omega, by dsimp only; omega, by dsimp only; omega, by dsimp only; omega, by dsimp only; omega, by dsimp only; omega⟩), if_neg (by rw [e3, e4]; omega)]
end Go.Proofs.YtikchieadclbhaaGreatDoor.Ab
namespace Go.Proofs.YtikchieadclbhaaGreatDoor.Ab
set_option linter.unusedVariables false
set_option linter.unusedSimpArgs false
open Go.RowKit

def gv_strV (s : ByteArray) : AV := .c (.i (.sc (.string s)))
theorem gv_cVb_len (ws : List Int) : (cVb ws).length = ws.length := by simp [cVb]
theorem gv_cVb_item {ws : List Int} {n : Int} (h : n.toNat < ws.length) : (cVb ws)[n.toNat]? = some [.sc (.int .u8 ws[n.toNat])] := by simp [cVb, h]
theorem gv_cVb_set (ws : List Int) (n : Nat) (c : Int) : (cVb ws).set n [.sc (.int .u8 c)] = cVb (ws.set n c) := by simp [cVb, List.map_set]
def vby (n : Int) (j : Nat) : Int := iwrap .u8 (dmod (iwrap .i64 (n + iwrap .i64 (j * n))) 251)
def vrow (n : Int) (k : Nat) : List Int := (List.range 16).map fun j => if j < k then vby n j else 0
theorem vrow_len (n : Int) (k : Nat) : (vrow n k).length = 16 := by simp [vrow]
theorem vrow_set (n : Int) (k : Nat) : (vrow n k).set k (vby n k) = vrow n (k + 1) := by
  apply List.ext_getElem?
  intro j
  by_cases hj : j < 16
  · by_cases hk : k = j
    · subst hk
      rw [List.getElem?_set_self (by rw [vrow_len]; exact hj)]
      simp [vrow, hj]
    · rw [List.getElem?_set_ne hk]
      simp only [vrow, List.getElem?_map, List.getElem?_range hj, Option.map_some]
      congr 1
      by_cases h1 : j < k
      · rw [if_pos h1, if_pos (by omega)]
      · rw [if_neg h1, if_neg (by omega)]
  · rw [List.getElem?_eq_none (by rw [List.length_set, vrow_len]; omega), List.getElem?_eq_none (by rw [vrow_len]; omega)]
def vval (n : Int) : ByteArray := bytesStr ((vrow n 16).set 0 (iwrap .u8 (iwrap .i64 (1 + dmod n 255))))
theorem vval_size (n : Int) : (vval n).size = 16 := by simp [vval, bytesStr, ByteArray.size, vrow_len]

set_option maxRecDepth 100000 in
set_option maxHeartbeats 4000000 in
theorem valF (n : Int) : Fun Tryz.prog 36 [i64V n] [] (.v (gv_strV (vval n))) := by
  refine fun_of_vc tabOk mixOk Tryz.func36 rfl (by rfl) (rs := [.tmp 2]) rfl rfl 34 ?_; rw [Tryz.ntmps36]
  (conv=>whnf);repeat((first|refine zD ?_|refine zA ?_|refine zT ?_|refine zF ?_);conv=>whnf)
  refine ⟨by decide, rfl, by decide, by decide, ?_⟩
  (conv=>whnf);repeat((first|refine zD ?_|refine zA ?_|refine zT ?_|refine zF ?_);conv=>whnf)
  refine vc_loop [0, 2, 3] [] (X := Nat) (fun k gs => [(4, ATint k)]) (fun k _ => [(5, .row 1 5 1 (cVb (vrow n k)))]) (fun k => k ≤ 16) (fun k => 16 - k) _ (Ghost.refl _) 0 (by omega) ?_ ?_
  · (refine zA (zA ?_));(repeat' (first|exact trivial|exact rfl|apply And.intro|(refine congrArg (Value.int .i64) (w64_nat ?_);omega)))
  rintro gs k hk
  (conv=>whnf);repeat((first|refine zD ?_|refine zA ?_|refine zT ?_|refine zF ?_);conv=>whnf)
  refine And.intro (fun h4 => ?_) (fun h4 => ?_)
  · have hlt : k < 16 := by have := of_decide_eq_true h4; rw [gv_cVb_len, vrow_len] at this; omega
    (conv=>whnf);repeat((first|refine zD ?_|refine zA ?_|refine zT ?_|refine zF ?_);conv=>whnf)
    refine ⟨_, _, modF _ _, ?_⟩
    (conv=>whnf);repeat((first|refine zD ?_|refine zA ?_|refine zT ?_|refine zF ?_);conv=>whnf)
    refine ⟨by omega, by rw [gv_cVb_len, vrow_len]; omega, ?_⟩
    (conv=>whnf);repeat((first|refine zD ?_|refine zA ?_|refine zT ?_|refine zF ?_);conv=>whnf)
    refine ⟨_, gv_cVb_item (by rw [vrow_len]; omega), ?_⟩
    (conv=>whnf);repeat((first|refine zD ?_|refine zA ?_|refine zT ?_|refine zF ?_);conv=>whnf)
    refine again (k + 1) hlt (by omega) ?_
    (refine zA (zA ?_));(repeat' (first|exact trivial|exact rfl|apply And.intro|(refine congrArg (Value.int .i64) (w64_nat ?_);omega)))
    exact congrArg (Blk.row _ _ _) (by rw [← vrow_set, ← gv_cVb_set]; rfl)
  · have hge : 16 ≤ k := by have := of_decide_eq_false h4; rw [gv_cVb_len, vrow_len] at this; omega
    obtain rfl : k = 16 := by omega
    (conv=>whnf);repeat((first|refine zD ?_|refine zA ?_|refine zT ?_|refine zF ?_);conv=>whnf)
    refine ⟨_, _, modF _ _, ?_⟩
    (conv=>whnf);repeat((first|refine zD ?_|refine zA ?_|refine zT ?_|refine zF ?_);conv=>whnf)
    refine ⟨by decide, by rw [gv_cVb_len, vrow_len]; decide, ?_⟩
    (conv=>whnf);repeat((first|refine zD ?_|refine zA ?_|refine zT ?_|refine zF ?_);conv=>whnf)
    refine ⟨_, gv_cVb_item (by rw [vrow_len]; decide), ?_⟩
    (conv=>whnf);repeat((first|refine zD ?_|refine zA ?_|refine zT ?_|refine zF ?_);conv=>whnf)
    refine ⟨_, (gv_cVb_set _ _ _), ?_⟩
    (conv=>whnf);repeat((first|refine zD ?_|refine zA ?_|refine zT ?_|refine zF ?_);conv=>whnf)
    refine Exists.intro [] (And.intro List.nodup_nil ?_); ((conv=>whnf);repeat((first|refine zD ?_|refine zA ?_|refine zT ?_|refine zF ?_);conv=>whnf))
    rfl

end Go.Proofs.YtikchieadclbhaaGreatDoor.Ab
