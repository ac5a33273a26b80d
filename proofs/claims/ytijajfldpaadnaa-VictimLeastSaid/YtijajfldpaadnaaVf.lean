/- Victims: the sanity check. No condition. -/
import Derived.Test.YtijajfldpaadnaaVe
import Derived.Test.YtijajfldpaadnaaOd
namespace Go.Proofs.Ytijajfldpaadnaa.Ab
set_option linter.unusedVariables false
set_option linter.unusedSimpArgs false
open Go.RowKit

theorem dval_nl (k : Nat) (n : Int) : dval [] k n = 0 := dval_nil rfl
theorem vRun_nil (b : Int) (pp : List Int) (k0 Z : Nat) (i : Nat) : (vRun [] 3 b pp k0 Z i).zs = List.replicate Z z0 ∧ (vRun [] 3 b pp k0 Z i).lv = List.replicate i 0 ∧ (vRun [] 3 b pp k0 Z i).pn = List.replicate i 0 ∧ (vRun [] 3 b pp k0 Z i).zz = [] := by
  induction i with
  | zero => exact ⟨rfl, rfl, rfl, rfl⟩
  | succ i ih =>
    obtain ⟨h1, h2, h3, h4⟩ := ih
    rw [vRun]
    generalize vRun [] 3 b pp k0 Z i = r at h1 h2 h3 h4
    obtain ⟨k, zs, lv, pn, zz⟩ := r
    dsimp only at h1 h2 h3 h4
    subst h1 h2 h3 h4
    have hn : vN [] 3 k = 0 := by unfold vN; rw [dval_nl]; rfl
    unfold vStep
    dsimp only
    rw [hn]
    have ht : (vSt [] 3 0 (vSec [] b (dnx [] k) 0).1).2 = (0, 0) := by unfold vSt; rw [if_neg (by decide), dval_nl, if_neg (by decide), if_neg (by decide)]
    have hss : (vSec [] b (dnx [] k) 0).2 = [] := rfl
    rw [dval_nl, dval_nl, dval_nl, hss, show (vSt [] 3 0 (vSec [] b (dnx [] k) 0).1).2.1 = 0 from by rw [ht], show (vSt [] 3 0 (vSec [] b (dnx [] k) 0).1).2.2 = 0 from by rw [ht], if_neg (by decide)]
    refine ⟨?_, ?_, ?_, rfl⟩
    · exact List.set_replicate_self
    · rw [List.replicate_succ']
    · rw [List.replicate_succ', show iwrap .i64 (Int.tdiv 0 7) = 0 from by decide +kernel]
def aZ : Nat → List Zn
  | 0 => List.replicate 8 z0
  | i + 1 => (aZ i).set i ⟨4, 0, []⟩
def aL : Nat → List Int
  | 0 => List.replicate 8 0
  | i + 1 => (aL i).set i 2
theorem aZ_len (i : Nat) : (aZ i).length = 8 := by induction i with
  | zero => rfl
  | succ i ih => rw [aZ, List.length_set, ih]
theorem aL_len (i : Nat) : (aL i).length = 8 := by induction i with
  | zero => rfl
  | succ i ih => rw [aL, List.length_set, ih]
def aX (lv : List Int) : Vs := ⟨⟨8, 3, 1, 1, 1, 1⟩, ⟨3, 3, 3, aZ 8⟩, lv, List.replicate 8 0, 0, [-1], [], 7, -1⟩
theorem a_item {i : Nat} (h : i < 8) : ∃ z : Zn, z.ss = [] ∧ z.du = 0 ∧ (zR (aZ i))[((i : Int)).toNat]? = some [IV.sc (.int .i64 z.st), IV.sc (.int .i64 0), IV.sl []] := by
  have : i = 0 ∨ i = 1 ∨ i = 2 ∨ i = 3 ∨ i = 4 ∨ i = 5 ∨ i = 6 ∨ i = 7 := by omega
  rcases this with rfl | rfl | rfl | rfl | rfl | rfl | rfl | rfl <;> exact ⟨z0, rfl, rfl, rfl⟩
theorem a_setZ (i : Nat) : (zR (aZ i)).set ((i : Int)).toNat [IV.sc (.int .i64 4), IV.sc (.int .i64 0), IV.sl []] = zR (aZ (i + 1)) := zSet (aZ i) i ⟨4, 0, []⟩
theorem a_setL (i : Nat) : (wV (aL i)).set ((i : Int)).toNat [IV.sc (.int .i64 2)] = wV (aL (i + 1)) := by simp [wV, aL, List.map_set]
theorem a_itemL {i : Nat} (h : i < 8) : ∃ z : Int, (wV (aL i))[((i : Int)).toNat]? = some [IV.sc (.int .i64 z)] := by
  have hl := aL_len i
  exact ⟨(aL i)[i]'(by omega), vItem (by omega)⟩
theorem a_ch1 : chGo (aX (aL 8)) 8 = (0, false) := by decide +kernel
theorem a_ch2 : chGo (aX (((aL 8).set 6 0).set 5 1)) 8 = (6, true) := by decide +kernel
theorem a_dd : ddGo (aX (((aL 8).set 6 0).set 5 1)) 8 = 3 := by decide +kernel
set_option maxRecDepth 100000 in
set_option maxHeartbeats 32000000 in
theorem vawakeF : Fun Try.prog 16 [] [] (ATbool true) := by
  obtain ⟨C, Z, nb, q, d, h, k0, x0, _, _, _, _, _, hnil, hm⟩ := vmadeF [] (by decide)
  obtain ⟨rfl, rfl, rfl, rfl, rfl, rfl, rfl⟩ := hnil rfl
  obtain ⟨r1, r2, r3, r4⟩ := vRun_nil ((1 : Nat) : Int) (List.replicate 1 (-1)) k0 8 8
  rw [r1, r2, r3, r4] at hm
  clear r1 r2 r3 r4
  have c1 := chooseF (aX (aL 8)) (by decide) (by decide)
  have c2 := chooseF (aX (((aL 8).set 6 0).set 5 1)) (by decide) (by decide)
  have d2 := deadF (aX (((aL 8).set 6 0).set 5 1)) (by decide) (by decide)
  have l8 : ∀ lv, (aX lv).d.zs.length = 8 := fun lv => aZ_len 8
  rw [l8] at c1 c2 d2
  rw [a_ch1] at c1
  rw [a_ch2] at c2
  rw [a_dd] at d2
  have zl := fun i => (zLen (aZ i)).trans (aZ_len i)
  have ll := fun i => (vLen (aL i)).trans (aL_len i)
  refine fun_of_vc tabOk mixOk Try.func16 rfl (by rfl) (rs := [.tmp 0]) rfl rfl 74 ?_; rw [Try.ntmps16]
  (conv => whnf); repeat ((first | refine And.intro DrawOk.go ?_ | refine And.intro rfl ?_ | refine And.intro (fun _ => ?_) (fun h => Bool.noConfusion h) | refine And.intro (fun h => Bool.noConfusion h) (fun _ => ?_)); conv => whnf)
  refine ⟨_, _, hm, ?_⟩
  (conv => whnf); repeat ((first | refine And.intro DrawOk.go ?_ | refine And.intro rfl ?_ | refine And.intro (fun _ => ?_) (fun h => Bool.noConfusion h) | refine And.intro (fun h => Bool.noConfusion h) (fun _ => ?_)); conv => whnf)
  refine vc_loop [1] [1, 10] (X := Nat) (fun i gs => [(2, ATint i)]) (fun i gs => [(8, .row 1 66 3 (zR (aZ i))), (9, .row 1 3 1 (wV (aL i)))]) (fun i => i ≤ 8) (fun i => 8 - i) _ (Ghost.refl _) 0 (by decide) ?_ ?_
  · (refine And.intro rfl (And.intro rfl ?_)); (repeat' (first | exact trivial | exact rfl | apply And.intro | (refine congrArg (Value.int .i64) (w64_nat ?_); omega)))
  intro gs i hi
  (conv => whnf); repeat ((first | refine And.intro DrawOk.go ?_ | refine And.intro rfl ?_ | refine And.intro (fun _ => ?_) (fun h => Bool.noConfusion h) | refine And.intro (fun h => Bool.noConfusion h) (fun _ => ?_)); conv => whnf)
  refine And.intro (fun h => ?_) (fun h => ?_)
  · have hlt : i < 8 := by have := of_decide_eq_true h; rw [zl] at this; omega
    obtain ⟨z, e1, e2, hit⟩ := a_item hlt
    obtain ⟨z', hit'⟩ := a_itemL hlt
    (conv => whnf); repeat ((first | refine And.intro DrawOk.go ?_ | refine And.intro rfl ?_ | refine And.intro (fun _ => ?_) (fun h => Bool.noConfusion h) | refine And.intro (fun h => Bool.noConfusion h) (fun _ => ?_)); conv => whnf)
    refine ⟨Int.natCast_nonneg _, by rw [Int.toNat_natCast, zl]; exact hlt, ?_⟩
    (conv => whnf); repeat ((first | refine And.intro DrawOk.go ?_ | refine And.intro rfl ?_ | refine And.intro (fun _ => ?_) (fun h => Bool.noConfusion h) | refine And.intro (fun h => Bool.noConfusion h) (fun _ => ?_)); conv => whnf)
    refine ⟨_, hit, ?_⟩
    (conv => whnf); repeat ((first | refine And.intro DrawOk.go ?_ | refine And.intro rfl ?_ | refine And.intro (fun _ => ?_) (fun h => Bool.noConfusion h) | refine And.intro (fun h => Bool.noConfusion h) (fun _ => ?_)); conv => whnf)
    refine ⟨Int.natCast_nonneg _, by rw [Int.toNat_natCast, ll]; exact hlt, ?_⟩
    (conv => whnf); repeat ((first | refine And.intro DrawOk.go ?_ | refine And.intro rfl ?_ | refine And.intro (fun _ => ?_) (fun h => Bool.noConfusion h) | refine And.intro (fun h => Bool.noConfusion h) (fun _ => ?_)); conv => whnf)
    refine ⟨_, hit', ?_⟩
    (conv => whnf); repeat ((first | refine And.intro DrawOk.go ?_ | refine And.intro rfl ?_ | refine And.intro (fun _ => ?_) (fun h => Bool.noConfusion h) | refine And.intro (fun h => Bool.noConfusion h) (fun _ => ?_)); conv => whnf)
    refine again (i + 1) hlt (by omega) ?_
    (refine And.intro rfl (And.intro rfl ?_)); (repeat' (first | exact trivial | exact rfl | apply And.intro | (refine congrArg (Value.int .i64) (w64_nat ?_); omega)))
    all_goals first
      | exact congrArg (Blk.row _ _ _) (a_setZ i)
      | exact congrArg (Blk.row _ _ _) (a_setL i)
  obtain rfl : i = 8 := by have := of_decide_eq_false h; rw [zl] at this; omega
  (conv => whnf); repeat ((first | refine And.intro DrawOk.go ?_ | refine And.intro rfl ?_ | refine And.intro (fun _ => ?_) (fun h => Bool.noConfusion h) | refine And.intro (fun h => Bool.noConfusion h) (fun _ => ?_)); conv => whnf)
  refine ⟨_, _, c1, ?_⟩
  (conv => whnf); repeat ((first | refine And.intro DrawOk.go ?_ | refine And.intro rfl ?_ | refine And.intro (fun _ => ?_) (fun h => Bool.noConfusion h) | refine And.intro (fun h => Bool.noConfusion h) (fun _ => ?_)); conv => whnf)
  have hn2 : iwrap .i64 (((zR (aZ 8)).length : Int) - 2) = 6 := by rw [zl]; decide +kernel
  have hn3 : iwrap .i64 (((zR (aZ 8)).length : Int) - 3) = 5 := by rw [zl]; decide +kernel
  have w6 : (wV (aL 8)).set (6 : Int).toNat [IV.sc (.int .i64 0)] = wV ((aL 8).set 6 0) := by simp [wV, List.map_set]
  have w5 : (wV ((aL 8).set 6 0)).set (5 : Int).toNat [IV.sc (.int .i64 1)] = wV (((aL 8).set 6 0).set 5 1) := by simp [wV, List.map_set]
  rw [hn2]
  refine ⟨by decide, by rw [ll]; decide, ?_⟩
  (conv => whnf); repeat ((first | refine And.intro DrawOk.go ?_ | refine And.intro rfl ?_ | refine And.intro (fun _ => ?_) (fun h => Bool.noConfusion h) | refine And.intro (fun h => Bool.noConfusion h) (fun _ => ?_)); conv => whnf)
  refine ⟨[IV.sc (.int .i64 2)], rfl, ?_⟩
  (conv => whnf); repeat ((first | refine And.intro DrawOk.go ?_ | refine And.intro rfl ?_ | refine And.intro (fun _ => ?_) (fun h => Bool.noConfusion h) | refine And.intro (fun h => Bool.noConfusion h) (fun _ => ?_)); conv => whnf)
  rw [hn3]
  refine ⟨by decide, by rw [List.length_set, ll]; decide, ?_⟩
  (conv => whnf); repeat ((first | refine And.intro DrawOk.go ?_ | refine And.intro rfl ?_ | refine And.intro (fun _ => ?_) (fun h => Bool.noConfusion h) | refine And.intro (fun h => Bool.noConfusion h) (fun _ => ?_)); conv => whnf)
  refine ⟨[IV.sc (.int .i64 2)], rfl, ?_⟩
  (conv => whnf); repeat ((first | refine And.intro DrawOk.go ?_ | refine And.intro rfl ?_ | refine And.intro (fun _ => ?_) (fun h => Bool.noConfusion h) | refine And.intro (fun h => Bool.noConfusion h) (fun _ => ?_)); conv => whnf)
  rw [w6, w5]
  refine ⟨_, _, c2, ?_⟩
  (conv => whnf); repeat ((first | refine And.intro DrawOk.go ?_ | refine And.intro rfl ?_ | refine And.intro (fun _ => ?_) (fun h => Bool.noConfusion h) | refine And.intro (fun h => Bool.noConfusion h) (fun _ => ?_)); conv => whnf)
  rw [hn2]
  refine And.intro (fun _ => ?_) (fun h => absurd h (by decide))
  (conv => whnf); repeat ((first | refine And.intro DrawOk.go ?_ | refine And.intro rfl ?_ | refine And.intro (fun _ => ?_) (fun h => Bool.noConfusion h) | refine And.intro (fun h => Bool.noConfusion h) (fun _ => ?_)); conv => whnf)
  refine ⟨_, _, d2, ?_⟩
  (conv => whnf); repeat ((first | refine And.intro DrawOk.go ?_ | refine And.intro rfl ?_ | refine And.intro (fun _ => ?_) (fun h => Bool.noConfusion h) | refine And.intro (fun h => Bool.noConfusion h) (fun _ => ?_)); conv => whnf)
  refine Exists.intro [] (And.intro List.nodup_nil ?_); ((conv => whnf); repeat ((first | refine And.intro DrawOk.go ?_ | refine And.intro rfl ?_ | refine And.intro (fun _ => ?_) (fun h => Bool.noConfusion h) | refine And.intro (fun h => Bool.noConfusion h) (fun _ => ?_)); conv => whnf))
  rfl
/-! ### VictimMade -/
theorem v_in {L : List Int} {C nb k0 Z : Nat} {pp : List Int} (hC : 3 ≤ C ∧ C ≤ 6) (hZ : 3 ≤ Z ∧ Z ≤ 28) : (vRun L C nb pp k0 Z Z).zs.length = Z ∧ (vRun L C nb pp k0 Z Z).lv.length = Z ∧ (vRun L C nb pp k0 Z Z).pn.length = Z ∧ (vRun L C nb pp k0 Z Z).zz.length ≤ 1000000 ∧
    (vRun L C nb pp k0 Z Z).zs.length ≤ 1000000 ∧ ∀ z ∈ (vRun L C nb pp k0 Z Z).zs, z.ss.length ≤ 1000000 := by
  obtain ⟨h1, h2, h3, h4, h5⟩ := vRun_inv L C nb pp k0 Z Z hC
  exact ⟨h1, h2, h3, by omega, by omega, fun z hz => Nat.le_trans (h5 z hz) (by decide)⟩
theorem odd_le {D : Dv} {w a b : Int} (h : D.zs.length ≤ 1000000) : (odd D w a b).zs.length ≤ 1000000 := by
  unfold odd
  split
  · exact h
  · dsimp only
    split
    · decide
    · rw [List.length_set]; exact h
theorem v_cut {k Z : Nat} (h : k < Z) : (k : Int) ≤ ((Z - 0 : Nat) : Int) := by omega
theorem wCut (l : List Int) (k : Nat) : List.drop (0 + (0 : Int).toNat) (List.take (0 + ((k : Int)).toNat) (wV l)) = wV (l.take k) := by
  rw [Int.toNat_natCast, show (0 : Int).toNat = 0 from rfl, Nat.zero_add, Nat.zero_add, List.drop_zero, wV, wV, List.map_take]
theorem k_mod {a : Int} {Z : Nat} (hZ : 3 ≤ Z ∧ Z ≤ 28) : ∃ k : Nat, dmod a Z = k ∧ k < Z := by
  have := dmod_in (x := a) (n := (Z : Int)) (by omega) (by omega)
  exact ⟨(dmod a Z).toNat, by omega, by omega⟩
set_option maxRecDepth 100000 in
set_option maxHeartbeats 32000000 in
theorem vMadeF (L : List Int) (zone w a b : Int) (hb : L.length ≤ 140737488355328) : Fun Try.prog 4 [slV (wV L), i64V zone, i64V w, i64V a, i64V b] [] (ATbool true) := by
  have hlight := lightF L hb
  have aw := vawakeF
  by_cases hL : L.length ≤ 300
  rotate_left
  · rw [decide_eq_false hL] at hlight
    refine fun_of_vc tabOk mixOk Try.func4 rfl (by rfl) (rs := [.tmp 10]) rfl rfl 87 ?_; rw [Try.ntmps4]
    (conv => whnf); repeat ((first | refine And.intro DrawOk.go ?_ | refine And.intro rfl ?_ | refine And.intro (fun _ => ?_) (fun h => Bool.noConfusion h) | refine And.intro (fun h => Bool.noConfusion h) (fun _ => ?_)); conv => whnf)
    refine ⟨_, _, hlight, ?_⟩
    (conv => whnf); repeat ((first | refine And.intro DrawOk.go ?_ | refine And.intro rfl ?_ | refine And.intro (fun _ => ?_) (fun h => Bool.noConfusion h) | refine And.intro (fun h => Bool.noConfusion h) (fun _ => ?_)); conv => whnf)
    refine ⟨_, _, aw, ?_⟩
    (conv => whnf); repeat ((first | refine And.intro DrawOk.go ?_ | refine And.intro rfl ?_ | refine And.intro (fun _ => ?_) (fun h => Bool.noConfusion h) | refine And.intro (fun h => Bool.noConfusion h) (fun _ => ?_)); conv => whnf)
    refine Exists.intro [] (And.intro List.nodup_nil ?_); ((conv => whnf); repeat ((first | refine And.intro DrawOk.go ?_ | refine And.intro rfl ?_ | refine And.intro (fun _ => ?_) (fun h => Bool.noConfusion h) | refine And.intro (fun h => Bool.noConfusion h) (fun _ => ?_)); conv => whnf))
    rfl
  rw [decide_eq_true hL] at hlight
  obtain ⟨C, Z, nb, q, d, h, k0, x0, hc, hnb, hC, hZ, hx, _, hm⟩ := vmadeF L hL
  obtain ⟨v1, v2, v3, v4, v5, v6⟩ := v_in (L := L) (nb := nb) (k0 := k0) (pp := List.replicate q (-1)) hC hZ
  obtain ⟨k, hk, hkZ⟩ := k_mod (a := a) hZ
  have mk := modF a Z
  rw [hk] at mk
  have mw := modF w 5
  have m5 := modF b 5
  generalize vRun L C nb (List.replicate q (-1)) k0 Z Z = R at hm v1 v2 v3 v4 v5 v6
  obtain ⟨_, zs, lv, pn, zz⟩ := R
  dsimp only at hm v1 v2 v3 v4 v5 v6
  generalize List.replicate q (-1) = pp at hm
  have ag := fun (n : Int) => vagreeF ⟨⟨Z, C, nb, q, d, h⟩, ⟨C, 3, 3, zs⟩, lv, pn, 0, pp, zz, (Z : Int) - 1 - x0, -1⟩ n v4 v5
  have g0 := fun (n : Int) => vagreeF ⟨⟨Z, C, nb, q, d, h⟩, odd ⟨C, 3, 3, zs⟩ b a b, lv, pn, 0, pp, zz, (Z : Int) - 1 - x0, -1⟩ n v4 (odd_le v5)
  have g1 := fun (n : Int) => vagreeF ⟨⟨Z, C, nb, q, d, h⟩, ⟨C, 3, 3, zs⟩, lv.take k, pn, 0, pp, zz, (Z : Int) - 1 - x0, -1⟩ n v4 v5
  have g2 := fun (n : Int) => vagreeF ⟨⟨Z, C, nb, q, d, h⟩, ⟨C, 3, 3, zs⟩, lv, pn.take k, 0, pp, zz, (Z : Int) - 1 - x0, -1⟩ n v4 v5
  have g3 := fun (n : Int) => vagreeF ⟨⟨Z, iwrap .i64 (iwrap .i64 ((C : Int) + dmod b 5) - 2), nb, q, d, h⟩, ⟨C, 3, 3, zs⟩, lv, pn, 0, pp, zz, (Z : Int) - 1 - x0, -1⟩ n v4 v5
  have g4 := fun (n : Int) => vagreeF ⟨⟨Z, C, nb, q, d, h⟩, ⟨C, 3, 3, zs⟩, lv, pn, 0, pp, zz, (Z : Int) - 1 - x0, (k : Int)⟩ n v4 v5
  have od := oddF C 3 3 zs b a b v5 v6
  unfold stA stL at ag g0 g1 g2 g3 g4
  dsimp only at ag g0 g1 g2 g3 g4
  generalize odd ⟨(C : Int), 3, 3, zs⟩ b a b = D at g0 od
  obtain ⟨d1, d2, d3, d4⟩ := D
  dsimp only at g0
  have w1 := wCut lv k
  have w2 := wCut pn k
  generalize lv.take k = lvk at g1 w1
  generalize pn.take k = pnk at g2 w2
  generalize dmod b 5 = y5 at m5 g3
  clear v1 v4 v5 v6 hk hZ hC hnb hx hc hL hb
  generalize dmod w 5 = W at mw
  refine fun_of_vc tabOk mixOk Try.func4 rfl (by rfl) (rs := [.tmp 10]) rfl rfl 87 ?_; rw [Try.ntmps4]
  (conv => whnf); repeat ((first | refine And.intro DrawOk.go ?_ | refine And.intro rfl ?_ | refine And.intro (fun _ => ?_) (fun h => Bool.noConfusion h) | refine And.intro (fun h => Bool.noConfusion h) (fun _ => ?_)); conv => whnf)
  refine ⟨_, _, hlight, ?_⟩
  (conv => whnf); repeat ((first | refine And.intro DrawOk.go ?_ | refine And.intro rfl ?_ | refine And.intro (fun _ => ?_) (fun h => Bool.noConfusion h) | refine And.intro (fun h => Bool.noConfusion h) (fun _ => ?_)); conv => whnf)
  refine ⟨_, _, hm, ?_⟩
  (conv => whnf); repeat ((first | refine And.intro DrawOk.go ?_ | refine And.intro rfl ?_ | refine And.intro (fun _ => ?_) (fun h => Bool.noConfusion h) | refine And.intro (fun h => Bool.noConfusion h) (fun _ => ?_)); conv => whnf)
  refine ⟨_, _, mk, ?_⟩
  (conv => whnf); repeat ((first | refine And.intro DrawOk.go ?_ | refine And.intro rfl ?_ | refine And.intro (fun _ => ?_) (fun h => Bool.noConfusion h) | refine And.intro (fun h => Bool.noConfusion h) (fun _ => ?_)); conv => whnf)
  refine ⟨_, _, ag _, ?_⟩
  (conv => whnf); repeat ((first | refine And.intro DrawOk.go ?_ | refine And.intro rfl ?_ | refine And.intro (fun _ => ?_) (fun h => Bool.noConfusion h) | refine And.intro (fun h => Bool.noConfusion h) (fun _ => ?_)); conv => whnf)
  refine ⟨_, _, ag _, ?_⟩
  (conv => whnf); repeat ((first | refine And.intro DrawOk.go ?_ | refine And.intro rfl ?_ | refine And.intro (fun _ => ?_) (fun h => Bool.noConfusion h) | refine And.intro (fun h => Bool.noConfusion h) (fun _ => ?_)); conv => whnf)
  refine ⟨_, _, mw, ?_⟩
  (conv => whnf); repeat ((first | refine And.intro DrawOk.go ?_ | refine And.intro rfl ?_ | refine And.intro (fun _ => ?_) (fun h => Bool.noConfusion h) | refine And.intro (fun h => Bool.noConfusion h) (fun _ => ?_)); conv => whnf)
  refine And.intro (fun h0 => ?_) (fun h0 => ?_)
  · (conv => whnf); repeat ((first | refine And.intro DrawOk.go ?_ | refine And.intro rfl ?_ | refine And.intro (fun _ => ?_) (fun h => Bool.noConfusion h) | refine And.intro (fun h => Bool.noConfusion h) (fun _ => ?_)); conv => whnf)
    refine ⟨_, _, od, ?_⟩
    (conv => whnf); repeat ((first | refine And.intro DrawOk.go ?_ | refine And.intro rfl ?_ | refine And.intro (fun _ => ?_) (fun h => Bool.noConfusion h) | refine And.intro (fun h => Bool.noConfusion h) (fun _ => ?_)); conv => whnf)
    refine ⟨_, _, g0 _, ?_⟩
    (conv => whnf); repeat ((first | refine And.intro DrawOk.go ?_ | refine And.intro rfl ?_ | refine And.intro (fun _ => ?_) (fun h => Bool.noConfusion h) | refine And.intro (fun h => Bool.noConfusion h) (fun _ => ?_)); conv => whnf)
    refine ⟨_, _, aw, ?_⟩
    (conv => whnf); repeat ((first | refine And.intro DrawOk.go ?_ | refine And.intro rfl ?_ | refine And.intro (fun _ => ?_) (fun h => Bool.noConfusion h) | refine And.intro (fun h => Bool.noConfusion h) (fun _ => ?_)); conv => whnf)
    refine Exists.intro [] (And.intro List.nodup_nil ?_); ((conv => whnf); repeat ((first | refine And.intro DrawOk.go ?_ | refine And.intro rfl ?_ | refine And.intro (fun _ => ?_) (fun h => Bool.noConfusion h) | refine And.intro (fun h => Bool.noConfusion h) (fun _ => ?_)); conv => whnf))
    rfl
  (conv => whnf); repeat ((first | refine And.intro DrawOk.go ?_ | refine And.intro rfl ?_ | refine And.intro (fun _ => ?_) (fun h => Bool.noConfusion h) | refine And.intro (fun h => Bool.noConfusion h) (fun _ => ?_)); conv => whnf)
  refine And.intro (fun h1 => ?_) (fun h1 => ?_)
  · (conv => whnf); repeat ((first | refine And.intro DrawOk.go ?_ | refine And.intro rfl ?_ | refine And.intro (fun _ => ?_) (fun h => Bool.noConfusion h) | refine And.intro (fun h => Bool.noConfusion h) (fun _ => ?_)); conv => whnf)
    refine ⟨by decide, Int.natCast_nonneg _, by rw [vLen, v2]; exact v_cut hkZ, ?_⟩
    (conv => whnf); repeat ((first | refine And.intro DrawOk.go ?_ | refine And.intro rfl ?_ | refine And.intro (fun _ => ?_) (fun h => Bool.noConfusion h) | refine And.intro (fun h => Bool.noConfusion h) (fun _ => ?_)); conv => whnf)
    rw [w1]
    refine ⟨_, _, g1 _, ?_⟩
    (conv => whnf); repeat ((first | refine And.intro DrawOk.go ?_ | refine And.intro rfl ?_ | refine And.intro (fun _ => ?_) (fun h => Bool.noConfusion h) | refine And.intro (fun h => Bool.noConfusion h) (fun _ => ?_)); conv => whnf)
    refine ⟨_, _, aw, ?_⟩
    (conv => whnf); repeat ((first | refine And.intro DrawOk.go ?_ | refine And.intro rfl ?_ | refine And.intro (fun _ => ?_) (fun h => Bool.noConfusion h) | refine And.intro (fun h => Bool.noConfusion h) (fun _ => ?_)); conv => whnf)
    refine Exists.intro [] (And.intro List.nodup_nil ?_); ((conv => whnf); repeat ((first | refine And.intro DrawOk.go ?_ | refine And.intro rfl ?_ | refine And.intro (fun _ => ?_) (fun h => Bool.noConfusion h) | refine And.intro (fun h => Bool.noConfusion h) (fun _ => ?_)); conv => whnf))
    rfl
  (conv => whnf); repeat ((first | refine And.intro DrawOk.go ?_ | refine And.intro rfl ?_ | refine And.intro (fun _ => ?_) (fun h => Bool.noConfusion h) | refine And.intro (fun h => Bool.noConfusion h) (fun _ => ?_)); conv => whnf)
  refine And.intro (fun h2 => ?_) (fun h2 => ?_)
  · (conv => whnf); repeat ((first | refine And.intro DrawOk.go ?_ | refine And.intro rfl ?_ | refine And.intro (fun _ => ?_) (fun h => Bool.noConfusion h) | refine And.intro (fun h => Bool.noConfusion h) (fun _ => ?_)); conv => whnf)
    refine ⟨by decide, Int.natCast_nonneg _, by rw [vLen, v3]; exact v_cut hkZ, ?_⟩
    (conv => whnf); repeat ((first | refine And.intro DrawOk.go ?_ | refine And.intro rfl ?_ | refine And.intro (fun _ => ?_) (fun h => Bool.noConfusion h) | refine And.intro (fun h => Bool.noConfusion h) (fun _ => ?_)); conv => whnf)
    rw [w2]
    refine ⟨_, _, g2 _, ?_⟩
    (conv => whnf); repeat ((first | refine And.intro DrawOk.go ?_ | refine And.intro rfl ?_ | refine And.intro (fun _ => ?_) (fun h => Bool.noConfusion h) | refine And.intro (fun h => Bool.noConfusion h) (fun _ => ?_)); conv => whnf)
    refine ⟨_, _, aw, ?_⟩
    (conv => whnf); repeat ((first | refine And.intro DrawOk.go ?_ | refine And.intro rfl ?_ | refine And.intro (fun _ => ?_) (fun h => Bool.noConfusion h) | refine And.intro (fun h => Bool.noConfusion h) (fun _ => ?_)); conv => whnf)
    refine Exists.intro [] (And.intro List.nodup_nil ?_); ((conv => whnf); repeat ((first | refine And.intro DrawOk.go ?_ | refine And.intro rfl ?_ | refine And.intro (fun _ => ?_) (fun h => Bool.noConfusion h) | refine And.intro (fun h => Bool.noConfusion h) (fun _ => ?_)); conv => whnf))
    rfl
  (conv => whnf); repeat ((first | refine And.intro DrawOk.go ?_ | refine And.intro rfl ?_ | refine And.intro (fun _ => ?_) (fun h => Bool.noConfusion h) | refine And.intro (fun h => Bool.noConfusion h) (fun _ => ?_)); conv => whnf)
  refine And.intro (fun h3 => ?_) (fun h3 => ?_)
  · (conv => whnf); repeat ((first | refine And.intro DrawOk.go ?_ | refine And.intro rfl ?_ | refine And.intro (fun _ => ?_) (fun h => Bool.noConfusion h) | refine And.intro (fun h => Bool.noConfusion h) (fun _ => ?_)); conv => whnf)
    refine ⟨_, _, m5, ?_⟩
    (conv => whnf); repeat ((first | refine And.intro DrawOk.go ?_ | refine And.intro rfl ?_ | refine And.intro (fun _ => ?_) (fun h => Bool.noConfusion h) | refine And.intro (fun h => Bool.noConfusion h) (fun _ => ?_)); conv => whnf)
    refine ⟨_, _, g3 _, ?_⟩
    (conv => whnf); repeat ((first | refine And.intro DrawOk.go ?_ | refine And.intro rfl ?_ | refine And.intro (fun _ => ?_) (fun h => Bool.noConfusion h) | refine And.intro (fun h => Bool.noConfusion h) (fun _ => ?_)); conv => whnf)
    refine ⟨_, _, aw, ?_⟩
    (conv => whnf); repeat ((first | refine And.intro DrawOk.go ?_ | refine And.intro rfl ?_ | refine And.intro (fun _ => ?_) (fun h => Bool.noConfusion h) | refine And.intro (fun h => Bool.noConfusion h) (fun _ => ?_)); conv => whnf)
    refine Exists.intro [] (And.intro List.nodup_nil ?_); ((conv => whnf); repeat ((first | refine And.intro DrawOk.go ?_ | refine And.intro rfl ?_ | refine And.intro (fun _ => ?_) (fun h => Bool.noConfusion h) | refine And.intro (fun h => Bool.noConfusion h) (fun _ => ?_)); conv => whnf))
    rfl
  (conv => whnf); repeat ((first | refine And.intro DrawOk.go ?_ | refine And.intro rfl ?_ | refine And.intro (fun _ => ?_) (fun h => Bool.noConfusion h) | refine And.intro (fun h => Bool.noConfusion h) (fun _ => ?_)); conv => whnf)
  refine ⟨_, _, g4 _, ?_⟩
  (conv => whnf); repeat ((first | refine And.intro DrawOk.go ?_ | refine And.intro rfl ?_ | refine And.intro (fun _ => ?_) (fun h => Bool.noConfusion h) | refine And.intro (fun h => Bool.noConfusion h) (fun _ => ?_)); conv => whnf)
  refine ⟨_, _, aw, ?_⟩
  (conv => whnf); repeat ((first | refine And.intro DrawOk.go ?_ | refine And.intro rfl ?_ | refine And.intro (fun _ => ?_) (fun h => Bool.noConfusion h) | refine And.intro (fun h => Bool.noConfusion h) (fun _ => ?_)); conv => whnf)
  refine Exists.intro [] (And.intro List.nodup_nil ?_); ((conv => whnf); repeat ((first | refine And.intro DrawOk.go ?_ | refine And.intro rfl ?_ | refine And.intro (fun _ => ?_) (fun h => Bool.noConfusion h) | refine And.intro (fun h => Bool.noConfusion h) (fun _ => ?_)); conv => whnf))
  rfl
end Go.Proofs.Ytijajfldpaadnaa.Ab
namespace Go.Proofs.Ytijajfldpaadnaa
set_option linter.unusedVariables false
set_option linter.unusedSimpArgs false
open Ab
set_option maxRecDepth 100000 in
theorem victimMade.walk {H : Type} {enc : TypeId × Value → H} {W : World} {base : Nat} (v : Value) (d : DataW H) (p : List MemPlace) (hv : Value.okWide Try.prog W .any base 22 v)
    (h : DataW.Trod enc Try.prog W 0 (fun _ => true) true 22 v d p) (hw : ∀ n ∈ d.weights Try.prog 22, n ≤ 140737488351232)
    (a1 : Int) (_w1 : (Lit.int .i64 a1).wf = true) (a2 : Int) (_w2 : (Lit.int .i64 a2).wf = true) (a3 : Int) (_w3 : (Lit.int .i64 a3).wf = true) (a4 : Int) (_w4 : (Lit.int .i64 a4).wf = true)
    (W' : World) (hW : W' = W := by rfl) : Calls Try.prog 4 #[v, .int .i64 a1, .int .i64 a2, .int .i64 a3, .int .i64 a4] W' (True1 W') := by
  subst hW
  obtain ⟨es, _, q1, q2⟩ := open_sl tabOk 3 (t := 22) (by decide +kernel) rfl hv h
  obtain ⟨xs, rfl⟩ := ints_of (d := 2) es (fun r hr => (q1 r hr).2)
  have b3 := slice_bound tabOk (e := 3) rfl h hw (q2 (fun _ _ => undef) (fun _ => 0))
  rw [bytesOf_eq tabOk (fun h => TK.noConfusion h)] at b3
  have b3' : (wV xs).length * 8 ≤ 140737488351232 := b3
  exact law_of_fun (vMadeF xs a1 a2 a3 a4 (by simp [wV] at b3'; omega)) rfl (reps_get (vs := [_, _, _, _, _]) ⟨q2 _ _, .sc _ rfl, .sc _ rfl, .sc _ rfl, .sc _ rfl, trivial⟩)
end Go.Proofs.Ytijajfldpaadnaa
