/- Victims: states made of numbers, the walk. No condition. -/
import Derived.Test.YtijajfldpaadnaaVd
namespace Go.Proofs.Ytijajfldpaadnaa.Ab
set_option linter.unusedVariables false
set_option linter.unusedSimpArgs false
open Go.RowKit

theorem v_num {c : Cf} (hsp : smallP c) : ∃ (C Z nb q : Nat) (d h : Int), c = ⟨Z, C, nb, q, d, h⟩ ∧ cfChk c = 0 ∧ (1 ≤ nb ∧ nb ≤ 6) ∧ (3 ≤ C ∧ C ≤ 6) ∧ (3 ≤ Z ∧ Z ≤ 28) ∧ (1 ≤ q ∧ q ≤ 4) := by
  obtain ⟨hc, hF0, hF1, hD0, hD1, hcz⟩ := small_facts hsp
  have hsS := hsp.1
  have hsB := hsp.2.1
  have hsQ := hsp.2.2.1
  obtain ⟨z, s, b, q, d, h⟩ := c
  dsimp only at *
  refine ⟨s.toNat, z.toNat, b.toNat, q.toNat, d, h, ?_, hc, by omega, by omega, by omega, by omega⟩
  congr 1 <;> omega
theorem d_lt {a b : Nat} (h : decide ((a : Int) < (b : Int)) = true) : a < b := by have := of_decide_eq_true h; omega
theorem d_ge {a b : Nat} (h : decide ((a : Int) < (b : Int)) = false) (hle : a ≤ b) : a = b := by have := of_decide_eq_false h; omega
theorem v_rec {L : List Int} {k nb i : Nat} (hnb : 1 ≤ nb ∧ nb ≤ 6) (hi : i < 6) : iwrap .i64 (1 + (i : Int)) = 1 + (i : Int) ∧ Fun Try.prog 66 [rV (mkRec L k nb (1 + (i : Int)))] [] (.v (strV (sS (encL (mkRec L k nb (1 + (i : Int))))))) :=
  ⟨w64_in (by omega), secFv_of (mkRec_ok (by omega) (by omega)).1⟩
theorem v_w {C : Nat} (hC : 3 ≤ C ∧ C ≤ 6) : iwrap .i64 ((C : Int) + 1) = (C : Int) + 1 := w64_in (by omega)
theorem v_host {Z : Nat} {x : Int} (hZ : 3 ≤ Z ∧ Z ≤ 28) (hx : 0 ≤ x ∧ x < 3) : iwrap .i64 (iwrap .i64 ((Z : Int) - 1) - x) = (Z : Int) - 1 - x := by
  rw [show iwrap .i64 ((Z : Int) - 1) = (Z : Int) - 1 from w64_in (by omega)]
  exact w64_in (by omega)
theorem v_jb {j : Nat} (h : j < 6) : j ≤ 9223372036854775806 := by omega
theorem v_ib {j : Nat} (h : j < 28) : j ≤ 9223372036854775806 := by omega
theorem sApp (a b : List ByteArray) : sV a ++ sV b = sV (a ++ b) := by simp [sV]
theorem wApp (a b : List Int) : wV a ++ wV b = wV (a ++ b) := by simp [wV]
theorem w_b {a b : List Int} (h : a.length ≤ 30) (h2 : b.length ≤ 30) : (wV a).length + (wV b).length ≤ 2000000 := by
  simp only [wV, List.length_map]
  omega
theorem s_b {a b : List ByteArray} (h : a.length ≤ 30) (h2 : b.length ≤ 30) : (sV a).length + (sV b).length ≤ 2000000 := by
  simp only [sV, List.length_map]
  omega
set_option maxRecDepth 100000 in
set_option maxHeartbeats 32000000 in
theorem vmadeF (L : List Int) (hL : L.length ≤ 300) : ∃ (C Z nb q : Nat) (d h : Int) (k0 : Nat) (x0 : Int), cfChk ⟨Z, C, nb, q, d, h⟩ = 0 ∧ (1 ≤ nb ∧ nb ≤ 6) ∧ (3 ≤ C ∧ C ≤ 6) ∧ (3 ≤ Z ∧ Z ≤ 28) ∧ (0 ≤ x0 ∧ x0 < 3) ∧ (L = [] → C = 3 ∧ Z = 8 ∧ nb = 1 ∧ q = 1 ∧ d = 1 ∧ h = 1 ∧ x0 = 0) ∧
    Fun Try.prog 17 [slV (wV L)] [.row 0 66 3 (zR (vRun L C nb (List.replicate q (-1)) k0 Z Z).zs), .row 0 3 1 (wV (vRun L C nb (List.replicate q (-1)) k0 Z Z).lv), .row 0 3 1 (wV (vRun L C nb (List.replicate q (-1)) k0 Z Z).pn)]
      (.v (.agg (stC ⟨Z, C, nb, q, d, h⟩ C 3 3 (.own 0 0) (.own 1 0) (.own 2 0) 0 (.i (.sl (wV (List.replicate q (-1))))) (.i (.sl (zpR (vRun L C nb (List.replicate q (-1)) k0 Z Z).zz))) ((Z : Int) - 1 - x0) (-1) (.i (.sl []))))) := by
  have hl : L.length ≤ 1000000 := by omega
  have hroll := rollF L hl
  obtain ⟨c, k1, hsm, hsp, hnil, hk0⟩ := smallF L 0 hl
  obtain ⟨C, Z, nb, q, d, h, rfl, hc, hnb, hC, hZ, hq⟩ := v_num hsp
  have a0 := nextF L k1 3 hl
  have hx0 := dval_in L k1 (n := 3) (by decide) (by decide)
  refine ⟨C, Z, nb, q, d, h, dnx L k1, dval L k1 3, hc, hnb, hC, hZ, hx0, fun hn => ?_, ?_⟩
  · have := hnil hn
    injection this with e1 e2 e3 e4 e5 e6
    subst hn
    exact ⟨by omega, by omega, by omega, by omega, e5, e6, rfl⟩
  have hnew := dnewO Z C hZ hC
  have hep := enewF' q hq
  have hinv := fun i => vRun_inv L C nb (List.replicate q (-1)) (dnx L k1) Z i hC
  have hst : vRun L C nb (List.replicate q (-1)) (dnx L k1) Z 0 = ⟨dnx L k1, List.replicate Z z0, [], [], []⟩ := rfl
  have hsu : ∀ i, vRun L C nb (List.replicate q (-1)) (dnx L k1) Z (i + 1) = vStep L C nb (List.replicate q (-1)) i (vRun L C nb (List.replicate q (-1)) (dnx L k1) Z i) := fun i => rfl
  have hret := fun (zz : List (Int × Int)) (hzz : zz.length ≤ 1000000) (i : Int) => eretF' 0 (List.replicate q (-1)) zz hzz i
  have hw1 := v_host hZ hx0
  have hcw := v_w hC
  generalize vRun L C nb (List.replicate q (-1)) (dnx L k1) Z = run at hinv hst hsu ⊢
  generalize List.replicate q (-1) = pp at hep hsu hret ⊢
  generalize List.replicate Z z0 = zs0 at hnew hst
  generalize dnx L k1 = k2 at a0 hst
  generalize dval L k1 3 = x0 at a0 hw1 ⊢
  unfold cfV at hsm
  dsimp only at hsm
  clear hnil hk0 hsp hc hx0 hL hq
  refine fun_of_vc (tabXOk [4000078]) mixOk Try.func17 rfl (by rfl) (rs := [.cell 2 58]) rfl rfl 129 ?_; rw [Try.ntmps17]
  (conv => whnf); repeat ((first | refine And.intro DrawOk.go ?_ | refine And.intro rfl ?_ | refine And.intro (fun _ => ?_) (fun h => Bool.noConfusion h) | refine And.intro (fun h => Bool.noConfusion h) (fun _ => ?_)); conv => whnf)
  refine ⟨_, _, hroll, ?_⟩
  (conv => whnf); repeat ((first | refine And.intro DrawOk.go ?_ | refine And.intro rfl ?_ | refine And.intro (fun _ => ?_) (fun h => Bool.noConfusion h) | refine And.intro (fun h => Bool.noConfusion h) (fun _ => ?_)); conv => whnf)
  refine ⟨_, _, hsm, ?_⟩
  (conv => whnf); repeat ((first | refine And.intro DrawOk.go ?_ | refine And.intro rfl ?_ | refine And.intro (fun _ => ?_) (fun h => Bool.noConfusion h) | refine And.intro (fun h => Bool.noConfusion h) (fun _ => ?_)); conv => whnf)
  refine ⟨_, _, hnew, ?_⟩
  (conv => whnf); repeat ((first | refine And.intro DrawOk.go ?_ | refine And.intro rfl ?_ | refine And.intro (fun _ => ?_) (fun h => Bool.noConfusion h) | refine And.intro (fun h => Bool.noConfusion h) (fun _ => ?_)); conv => whnf)
  refine ⟨_, _, a0, ?_⟩
  (conv => whnf); repeat ((first | refine And.intro DrawOk.go ?_ | refine And.intro rfl ?_ | refine And.intro (fun _ => ?_) (fun h => Bool.noConfusion h) | refine And.intro (fun h => Bool.noConfusion h) (fun _ => ?_)); conv => whnf)
  rw [hw1]
  refine ⟨_, _, hep, ?_⟩
  (conv => whnf); repeat ((first | refine And.intro DrawOk.go ?_ | refine And.intro rfl ?_ | refine And.intro (fun _ => ?_) (fun h => Bool.noConfusion h) | refine And.intro (fun h => Bool.noConfusion h) (fun _ => ?_)); conv => whnf)
  refine vc_loop [2, 3, 4, 7] [2, 4] (X := Nat × Vr) (fun x gs => [(8, ATint x.1)]) (fun x gs => [(13, .var 1 (dcs L x.2.k)), (7, .var 1 (stC ⟨Z, C, nb, q, d, h⟩ C 3 3 (.own 21 (gs 21)) (.own 100 (gs 100)) (.own 110 (gs 110)) 0 (.i (.sl (wV pp))) (.i (.sl (zpR x.2.zz))) ((Z : Int) - 1 - x0) (-1) .nl)), (21, .row (gs 21) 66 3 (zR x.2.zs)), (100, .row (gs 100) 3 1 (wV x.2.lv)), (110, .row (gs 110) 3 1 (wV x.2.pn))]) (fun x => x.1 ≤ Z ∧ run x.1 = x.2) (fun x => Z - x.1) _
    ((Ghost.ownNilV 7 11 100 3 1 1 _ rfl rfl (Nat.le_of_ble_eq_true rfl) (by decide)).trans (Ghost.ownNilV 7 12 110 3 1 1 _ rfl rfl (Nat.le_of_ble_eq_true rfl) (by decide))) (0, ⟨k2, zs0, [], [], []⟩) ⟨Nat.zero_le _, hst⟩ ?_ ?_
  · (refine And.intro rfl (And.intro rfl ?_)); (repeat' (first | exact trivial | with_reducible exact cvB_refl _ | exact rfl | apply And.intro))
  intro gs x hx
  obtain ⟨i, k, zs, lv, pn, zz⟩ := x
  have hi : i ≤ Z := hx.1
  have he : run i = ⟨k, zs, lv, pn, zz⟩ := hx.2
  clear hx
  have hs := hsu i
  have hin := hinv i
  rw [he] at hs hin
  dsimp only at hin
  (conv => whnf); repeat ((first | refine And.intro DrawOk.go ?_ | refine And.intro rfl ?_ | refine And.intro (fun _ => ?_) (fun h => Bool.noConfusion h) | refine And.intro (fun h => Bool.noConfusion h) (fun _ => ?_)); conv => whnf)
  refine And.intro (fun h => ?_) (fun h => ?_)
  · have hlt : i < Z := d_lt h
    clear hinv hsu hst
    obtain ⟨z1, z2, z3, z4, z5⟩ := hin
    have hzz := hret zz (by omega) (i : Int)
    have hiz : i < zs.length := by omega
    have hlv : lv.length ≤ 30 := by omega
    have hpn : pn.length ≤ 30 := by omega
    clear hret z1 z2 z3 z4 z5
    have hib := v_ib (Nat.lt_of_lt_of_le hlt hZ.2)
    clear hZ
    have b1 := nextF L k ((C : Int) + 1) hl
    obtain ⟨hn, hnC⟩ := vN_le (L := L) (k := k) hC
    rw [← hn] at b1
    unfold vStep at hs
    dsimp only at hs
    have hsec : ∀ j, vSec L nb (dnx L k) (j + 1) = (nx3 L (vSec L nb (dnx L k) j).1, (vSec L nb (dnx L k) j).2 ++ [sS (encL (mkRec L (vSec L nb (dnx L k) j).1 nb (1 + (j : Int))))]) := fun j => rfl
    have hs0 : vSec L nb (dnx L k) 0 = (dnx L k, []) := rfl
    have hsl := fun j => vSec_len L nb (dnx L k) j
    generalize vSec L nb (dnx L k) = S at hs hsec hs0 hsl
    generalize vN L C k = n at hs b1 hn hnC
    clear hn
    (conv => whnf); repeat ((first | refine And.intro DrawOk.go ?_ | refine And.intro rfl ?_ | refine And.intro (fun _ => ?_) (fun h => Bool.noConfusion h) | refine And.intro (fun h => Bool.noConfusion h) (fun _ => ?_)); conv => whnf)
    rw [hcw]
    refine ⟨_, _, b1, ?_⟩
    (conv => whnf); repeat ((first | refine And.intro DrawOk.go ?_ | refine And.intro rfl ?_ | refine And.intro (fun _ => ?_) (fun h => Bool.noConfusion h) | refine And.intro (fun h => Bool.noConfusion h) (fun _ => ?_)); conv => whnf)
    refine vc_loop [2, 3, 4, 7, 8, 9, 10] [2, 4, 7, 21, 100, 110] (X := Nat × Nat × List ByteArray) (fun y gs' => [(11, ATint y.1)]) (fun y gs' => [(13, .var 1 (dcs L y.2.1)), (10, .var (gs 10 + 1) [.i (.sc (.int .i64 0)), .i (.sc (.int .i64 0)), .own 68 (gs' 68)]), (68, .row (gs' 68) 9 1 (sV y.2.2))]) (fun y => y.1 ≤ n ∧ S y.1 = y.2) (fun y => n - y.1) _ (Ghost.ownNilV 10 2 68 9 1 (gs 10 + 1) _ rfl rfl (Nat.le_of_ble_eq_true rfl) (by decide)) (0, dnx L k, []) ⟨Nat.zero_le _, hs0⟩ ?_ ?_
    · (refine And.intro rfl (And.intro rfl ?_)); (repeat' (first | exact trivial | with_reducible exact cvB_refl _ | exact rfl | apply And.intro))
    intro gs' y hy
    obtain ⟨j, kk, ss⟩ := y
    have hj : j ≤ n := hy.1
    have he2 : S j = (kk, ss) := hy.2
    clear hy
    have hssl := hsl j
    have hss := hsec j
    rw [he2] at hss hssl
    dsimp only at hss hssl
    (conv => whnf); repeat ((first | refine And.intro DrawOk.go ?_ | refine And.intro rfl ?_ | refine And.intro (fun _ => ?_) (fun h => Bool.noConfusion h) | refine And.intro (fun h => Bool.noConfusion h) (fun _ => ?_)); conv => whnf)
    refine And.intro (fun h2 => ?_) (fun h2 => ?_)
    · have hlt2 : j < n := d_lt h2
      obtain ⟨w1, f1⟩ := v_rec (L := L) (k := kk) hnb (Nat.lt_of_lt_of_le hlt2 (Nat.le_trans hnC hC.2))
      have m1 := mkRecF L kk nb (1 + (j : Int)) hl
      have hjb := v_jb (Nat.lt_of_lt_of_le hlt2 (Nat.le_trans hnC hC.2))
      have hb := s_b (a := ss) (b := [sS (encL (mkRec L kk nb (1 + (j : Int))))]) (Nat.le_trans (Nat.le_of_eq hssl) (Nat.le_trans hj (Nat.le_trans hnC (Nat.le_trans hC.2 (by decide))))) (by simp)
      generalize mkRec L kk nb (1 + (j : Int)) = r at hss f1 m1 hb
      generalize sS (encL r) = sec at hss f1 hb
      (conv => whnf); repeat ((first | refine And.intro DrawOk.go ?_ | refine And.intro rfl ?_ | refine And.intro (fun _ => ?_) (fun h => Bool.noConfusion h) | refine And.intro (fun h => Bool.noConfusion h) (fun _ => ?_)); conv => whnf)
      rw [w1]
      refine ⟨_, _, m1, ?_⟩
      (conv => whnf); repeat ((first | refine And.intro DrawOk.go ?_ | refine And.intro rfl ?_ | refine And.intro (fun _ => ?_) (fun h => Bool.noConfusion h) | refine And.intro (fun h => Bool.noConfusion h) (fun _ => ?_)); conv => whnf)
      refine ⟨_, _, f1, ?_⟩
      (conv => whnf); repeat ((first | refine And.intro DrawOk.go ?_ | refine And.intro rfl ?_ | refine And.intro (fun _ => ?_) (fun h => Bool.noConfusion h) | refine And.intro (fun h => Bool.noConfusion h) (fun _ => ?_)); conv => whnf)
      refine ⟨sSz [sec], ?_⟩
      (conv => whnf); repeat ((first | refine And.intro DrawOk.go ?_ | refine And.intro rfl ?_ | refine And.intro (fun _ => ?_) (fun h => Bool.noConfusion h) | refine And.intro (fun h => Bool.noConfusion h) (fun _ => ?_)); conv => whnf)
      refine ⟨bytes_le (by decide) hb, ?_⟩
      (conv => whnf); repeat ((first | refine And.intro DrawOk.go ?_ | refine And.intro rfl ?_ | refine And.intro (fun _ => ?_) (fun h => Bool.noConfusion h) | refine And.intro (fun h => Bool.noConfusion h) (fun _ => ?_)); conv => whnf)
      refine again (j + 1, nx3 L kk, ss ++ [sec]) ⟨hlt2, hss⟩ (Nat.sub_lt_sub_left hlt2 (Nat.lt_succ_self j)) ?_
      (refine And.intro rfl (And.intro rfl ?_)); (repeat' (first | exact trivial | with_reducible exact cvB_refl _ | exact rfl | apply And.intro))
      all_goals first
        | exact congrArg (Value.int .i64) (w64_nat hjb)
        | exact congrArg (Blk.row _ _ _) (sApp ss [sec])
    · obtain rfl : j = n := d_ge h2 hj
      rw [he2] at hs
      dsimp only at hs
      clear hsec hs0 hsl hss h2 hj he2
      have hT1 : (j : Int) = (C : Int) → vSt L C j kk = (kk, (4 : Int), ((j : Nat) : Int)) := fun e => by unfold vSt; rw [if_pos (Int.ofNat_inj.1 e)]
      have hT2 : ¬ (j : Int) = (C : Int) → dval L kk 4 > 0 → vSt L C j kk = (dnx L kk, (4 : Int), ((j : Nat) : Int)) := fun e g => by unfold vSt; rw [if_neg (fun h => e (congrArg _ h)), if_pos g]
      have hT3 : ¬ (j : Int) = (C : Int) → ¬ dval L kk 4 > 0 → (j : Int) > 0 → vSt L C j kk = (dnx L kk, (3 : Int), (0 : Int)) := fun e g f => by unfold vSt; rw [if_neg (fun h => e (congrArg _ h)), if_neg g, if_pos (Int.ofNat_lt.1 f)]
      have hT4 : ¬ (j : Int) = (C : Int) → ¬ dval L kk 4 > 0 → ¬ (j : Int) > 0 → vSt L C j kk = (dnx L kk, (0 : Int), (0 : Int)) := fun e g f => by unfold vSt; rw [if_neg (fun h => e (congrArg _ h)), if_neg g, if_neg (fun h => f (Int.ofNat_lt.2 h))]
      generalize vSt L C j kk = T at hs hT1 hT2 hT3 hT4
      have b2 := nextF L kk 4 hl
      (conv => whnf); repeat ((first | refine And.intro DrawOk.go ?_ | refine And.intro rfl ?_ | refine And.intro (fun _ => ?_) (fun h => Bool.noConfusion h) | refine And.intro (fun h => Bool.noConfusion h) (fun _ => ?_)); conv => whnf)
      refine vc_join [2, 3, 4, 7, 8, 10] [2, 4, 7, 21, 100, 110] (X := Unit) (fun _ _ => []) (fun _ gs3 => [(13, .var 1 (dcs L T.1)), (10, .var (gs 10 + 1) [.i (.sc (.int .i64 T.2.1)), .i (.sc (.int .i64 T.2.2)), .i (.sl (sV ss))])]) (fun _ => True) ?_ ?_
      · (conv => whnf); repeat ((first | refine And.intro DrawOk.go ?_ | refine And.intro rfl ?_ | refine And.intro (fun _ => ?_) (fun h => Bool.noConfusion h) | refine And.intro (fun h => Bool.noConfusion h) (fun _ => ?_)); conv => whnf)
        refine And.intro (fun h3 => ?_) (fun h3 => ?_)
        · have e := hT1 (by simpa using h3)
          subst e
          (conv => whnf); repeat ((first | refine And.intro DrawOk.go ?_ | refine And.intro rfl ?_ | refine And.intro (fun _ => ?_) (fun h => Bool.noConfusion h) | refine And.intro (fun h => Bool.noConfusion h) (fun _ => ?_)); conv => whnf)
          refine joined () trivial ?_
          (refine And.intro rfl (And.intro rfl ?_)); (repeat' (first | exact trivial | with_reducible exact cvB_refl _ | exact rfl | apply And.intro))
        · have h3' : ¬ (j : Int) = (C : Int) := by simpa using h3
          (conv => whnf); repeat ((first | refine And.intro DrawOk.go ?_ | refine And.intro rfl ?_ | refine And.intro (fun _ => ?_) (fun h => Bool.noConfusion h) | refine And.intro (fun h => Bool.noConfusion h) (fun _ => ?_)); conv => whnf)
          refine ⟨_, _, b2, ?_⟩
          (conv => whnf); repeat ((first | refine And.intro DrawOk.go ?_ | refine And.intro rfl ?_ | refine And.intro (fun _ => ?_) (fun h => Bool.noConfusion h) | refine And.intro (fun h => Bool.noConfusion h) (fun _ => ?_)); conv => whnf)
          refine And.intro (fun h4 => ?_) (fun h4 => ?_)
          · have e := hT2 h3' (of_decide_eq_true h4)
            subst e
            (conv => whnf); repeat ((first | refine And.intro DrawOk.go ?_ | refine And.intro rfl ?_ | refine And.intro (fun _ => ?_) (fun h => Bool.noConfusion h) | refine And.intro (fun h => Bool.noConfusion h) (fun _ => ?_)); conv => whnf)
            refine joined () trivial ?_
            (refine And.intro rfl (And.intro rfl ?_)); (repeat' (first | exact trivial | with_reducible exact cvB_refl _ | exact rfl | apply And.intro))
          · have h4' := of_decide_eq_false h4
            (conv => whnf); repeat ((first | refine And.intro DrawOk.go ?_ | refine And.intro rfl ?_ | refine And.intro (fun _ => ?_) (fun h => Bool.noConfusion h) | refine And.intro (fun h => Bool.noConfusion h) (fun _ => ?_)); conv => whnf)
            refine And.intro (fun h5 => ?_) (fun h5 => ?_)
            · have e := hT3 h3' h4' (of_decide_eq_true h5)
              subst e
              (conv => whnf); repeat ((first | refine And.intro DrawOk.go ?_ | refine And.intro rfl ?_ | refine And.intro (fun _ => ?_) (fun h => Bool.noConfusion h) | refine And.intro (fun h => Bool.noConfusion h) (fun _ => ?_)); conv => whnf)
              refine joined () trivial ?_
              (refine And.intro rfl (And.intro rfl ?_)); (repeat' (first | exact trivial | with_reducible exact cvB_refl _ | exact rfl | apply And.intro))
            · have e := hT4 h3' h4' (of_decide_eq_false h5)
              subst e
              (conv => whnf); repeat ((first | refine And.intro DrawOk.go ?_ | refine And.intro rfl ?_ | refine And.intro (fun _ => ?_) (fun h => Bool.noConfusion h) | refine And.intro (fun h => Bool.noConfusion h) (fun _ => ?_)); conv => whnf)
              refine joined () trivial ?_
              (refine And.intro rfl (And.intro rfl ?_)); (repeat' (first | exact trivial | with_reducible exact cvB_refl _ | exact rfl | apply And.intro))
      intro gs3 _ _
      clear hT1 hT2 hT3 hT4 b2 b1
      obtain ⟨k3, st, du⟩ := T
      dsimp only at hs
      have b3 := nextF L k3 ((C : Int) + 1) hl
      have b4 := nextF L (dnx L k3) 8 hl
      have b5 := nextF L (dnx L (dnx L k3)) 7 hl
      generalize dnx L (dnx L (dnx L k3)) = k6 at hs b5
      generalize dval L (dnx L (dnx L k3)) 7 = v7 at hs b5
      generalize dnx L (dnx L k3) = k5 at b4 b5
      generalize dval L (dnx L k3) 8 = v8 at hs b4
      generalize dnx L k3 = k4 at b3 b4
      generalize dval L k3 ((C : Int) + 1) = v1 at hs b3
      have hb1 := w_b (a := lv) (b := [v1]) hlv (by simp)
      have hb2 := w_b (a := pn) (b := [iwrap .i64 (Int.tdiv v8 7)]) hpn (by simp)
      have hset : (zR zs).set ((i : Int)).toNat [IV.sc (.int .i64 st), IV.sc (.int .i64 du), IV.sl (sV ss)] = zR (zs.set i ⟨st, du, ss⟩) := zSet zs i ⟨st, du, ss⟩
      (conv => whnf); repeat ((first | refine And.intro DrawOk.go ?_ | refine And.intro rfl ?_ | refine And.intro (fun _ => ?_) (fun h => Bool.noConfusion h) | refine And.intro (fun h => Bool.noConfusion h) (fun _ => ?_)); conv => whnf)
      refine ⟨Int.natCast_nonneg _, by rw [Int.toNat_natCast, zLen]; exact hiz, ?_⟩
      (conv => whnf); repeat ((first | refine And.intro DrawOk.go ?_ | refine And.intro rfl ?_ | refine And.intro (fun _ => ?_) (fun h => Bool.noConfusion h) | refine And.intro (fun h => Bool.noConfusion h) (fun _ => ?_)); conv => whnf)
      refine ⟨_, zItem hiz, ?_⟩
      (conv => whnf); repeat ((first | refine And.intro DrawOk.go ?_ | refine And.intro rfl ?_ | refine And.intro (fun _ => ?_) (fun h => Bool.noConfusion h) | refine And.intro (fun h => Bool.noConfusion h) (fun _ => ?_)); conv => whnf)
      rw [hcw]
      refine ⟨_, _, b3, ?_⟩
      (conv => whnf); repeat ((first | refine And.intro DrawOk.go ?_ | refine And.intro rfl ?_ | refine And.intro (fun _ => ?_) (fun h => Bool.noConfusion h) | refine And.intro (fun h => Bool.noConfusion h) (fun _ => ?_)); conv => whnf)
      refine ⟨wSz [v1], ?_⟩
      (conv => whnf); repeat ((first | refine And.intro DrawOk.go ?_ | refine And.intro rfl ?_ | refine And.intro (fun _ => ?_) (fun h => Bool.noConfusion h) | refine And.intro (fun h => Bool.noConfusion h) (fun _ => ?_)); conv => whnf)
      refine ⟨bytes_le (by decide) hb1, ?_⟩
      (conv => whnf); repeat ((first | refine And.intro DrawOk.go ?_ | refine And.intro rfl ?_ | refine And.intro (fun _ => ?_) (fun h => Bool.noConfusion h) | refine And.intro (fun h => Bool.noConfusion h) (fun _ => ?_)); conv => whnf)
      refine ⟨_, _, b4, ?_⟩
      (conv => whnf); repeat ((first | refine And.intro DrawOk.go ?_ | refine And.intro rfl ?_ | refine And.intro (fun _ => ?_) (fun h => Bool.noConfusion h) | refine And.intro (fun h => Bool.noConfusion h) (fun _ => ?_)); conv => whnf)
      refine ⟨by decide, ?_⟩
      (conv => whnf); repeat ((first | refine And.intro DrawOk.go ?_ | refine And.intro rfl ?_ | refine And.intro (fun _ => ?_) (fun h => Bool.noConfusion h) | refine And.intro (fun h => Bool.noConfusion h) (fun _ => ?_)); conv => whnf)
      refine ⟨wSz [iwrap .i64 (Int.tdiv v8 7)], ?_⟩
      (conv => whnf); repeat ((first | refine And.intro DrawOk.go ?_ | refine And.intro rfl ?_ | refine And.intro (fun _ => ?_) (fun h => Bool.noConfusion h) | refine And.intro (fun h => Bool.noConfusion h) (fun _ => ?_)); conv => whnf)
      refine ⟨bytes_le (by decide) hb2, ?_⟩
      (conv => whnf); repeat ((first | refine And.intro DrawOk.go ?_ | refine And.intro rfl ?_ | refine And.intro (fun _ => ?_) (fun h => Bool.noConfusion h) | refine And.intro (fun h => Bool.noConfusion h) (fun _ => ?_)); conv => whnf)
      refine ⟨_, _, b5, ?_⟩
      (conv => whnf); repeat ((first | refine And.intro DrawOk.go ?_ | refine And.intro rfl ?_ | refine And.intro (fun _ => ?_) (fun h => Bool.noConfusion h) | refine And.intro (fun h => Bool.noConfusion h) (fun _ => ?_)); conv => whnf)
      refine And.intro (fun h3 => ?_) (fun h3 => ?_)
      · rw [if_pos (by simpa using h3)] at hs
        (conv => whnf); repeat ((first | refine And.intro DrawOk.go ?_ | refine And.intro rfl ?_ | refine And.intro (fun _ => ?_) (fun h => Bool.noConfusion h) | refine And.intro (fun h => Bool.noConfusion h) (fun _ => ?_)); conv => whnf)
        refine ⟨_, _, hzz, ?_⟩
        (conv => whnf); repeat ((first | refine And.intro DrawOk.go ?_ | refine And.intro rfl ?_ | refine And.intro (fun _ => ?_) (fun h => Bool.noConfusion h) | refine And.intro (fun h => Bool.noConfusion h) (fun _ => ?_)); conv => whnf)
        refine again (i + 1, _) ⟨hlt, hs⟩ (Nat.sub_lt_sub_left hlt (Nat.lt_succ_self i)) ?_
        (refine And.intro rfl (And.intro rfl ?_)); (repeat' (first | exact trivial | with_reducible exact cvB_refl _ | exact rfl | apply And.intro))
        all_goals first
          | exact congrArg (Value.int .i64) (w64_nat hib)
          | exact congrArg (Blk.row _ _ _) hset
          | ((conv => whnf); exact congrArg (Blk.row _ _ _) hset)
          | exact congrArg (Blk.row _ _ _) (wApp lv [v1])
          | exact congrArg (Blk.row _ _ _) (wApp pn [iwrap .i64 (Int.tdiv v8 7)])
      · rw [if_neg (by simpa using h3)] at hs
        (conv => whnf); repeat ((first | refine And.intro DrawOk.go ?_ | refine And.intro rfl ?_ | refine And.intro (fun _ => ?_) (fun h => Bool.noConfusion h) | refine And.intro (fun h => Bool.noConfusion h) (fun _ => ?_)); conv => whnf)
        refine again (i + 1, _) ⟨hlt, hs⟩ (Nat.sub_lt_sub_left hlt (Nat.lt_succ_self i)) ?_
        (refine And.intro rfl (And.intro rfl ?_)); (repeat' (first | exact trivial | with_reducible exact cvB_refl _ | exact rfl | apply And.intro))
        all_goals first
          | exact congrArg (Value.int .i64) (w64_nat hib)
          | exact congrArg (Blk.row _ _ _) hset
          | ((conv => whnf); exact congrArg (Blk.row _ _ _) hset)
          | exact congrArg (Blk.row _ _ _) (wApp lv [v1])
          | exact congrArg (Blk.row _ _ _) (wApp pn [iwrap .i64 (Int.tdiv v8 7)])
  · obtain rfl : i = Z := d_ge h hi
    rw [he]
    (conv => whnf); repeat ((first | refine And.intro DrawOk.go ?_ | refine And.intro rfl ?_ | refine And.intro (fun _ => ?_) (fun h => Bool.noConfusion h) | refine And.intro (fun h => Bool.noConfusion h) (fun _ => ?_)); conv => whnf)
    refine ⟨[21, 100, 110], by simp, ?_⟩
    (conv => whnf); repeat ((first | refine And.intro DrawOk.go ?_ | refine And.intro rfl ?_ | refine And.intro (fun _ => ?_) (fun h => Bool.noConfusion h) | refine And.intro (fun h => Bool.noConfusion h) (fun _ => ?_)); conv => whnf)
    rfl
end Go.Proofs.Ytijajfldpaadnaa.Ab
