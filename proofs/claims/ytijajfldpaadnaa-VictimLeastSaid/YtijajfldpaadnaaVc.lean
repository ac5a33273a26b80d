/- Victims: all functions of the specification and of the code. No condition. -/
import Derived.Test.YtijajfldpaadnaaEe
import Derived.Test.YtijajfldpaadnaaPb
import Derived.Test.YtijajfldpaadnaaDa
namespace Go.Proofs.Ytijajfldpaadnaa.Ab
set_option linter.unusedVariables false
set_option linter.unusedSimpArgs false
open Go.RowKit

/-- What the functions look at. -/
structure Vs where
  c : Cf
  d : Dv
  lv : List Int
  pn : List Int
  g : Int
  pp : List Int
  zz : List (Int × Int)
  h : Int
  cl : Int
def sc0 : AV1 := .i (.sc (.int .i64 0))
/-- The cells of a state. -/
def stC (c : Cf) (s mo ma : Int) (zo lv pn : AV1) (g : Int) (pp zz : AV1) (h cl : Int) (n : AV1) : List AV1 :=
  [.i (.sc (.int .i64 c.z)), .i (.sc (.int .i64 c.s)), .i (.sc (.int .i64 c.b)), .i (.sc (.int .i64 c.q)), .i (.sc (.int .i64 c.d)), .i (.sc (.int .i64 c.h)),
   .i (.sc (.int .i64 s)), .i (.sc (.int .i64 mo)), .i (.sc (.int .i64 ma)), zo, n, lv, pn, n, .i (.sc (.int .i64 g)), pp, zz, n, .i (.sc (.int .i64 h)), .i (.sc (.int .i64 cl)), n, n,
   .i (.sc (.int .i64 0)), .i (.sc (.int .i64 0)), .i (.sc (.int .i64 0)), .i (.sc (.int .i64 0)), .i (.sc (.int .i64 0)), .i (.sc (.int .i64 0)), .i (.sc (.int .i64 0)), .i (.sc (.int .i64 0)), .i (.sc (.int .i64 0)), .i (.sc (.int .i64 0)), .i (.sc (.int .i64 0)),
   .i (.sc (.int .i64 0)), .i (.sc (.int .i64 0)), .i (.sc (.int .i64 0)), .i (.sc (.int .i64 0)), .i (.sc (.int .i64 0)), .i (.sc (.int .i64 0)), n, n,
   .i (.sc (.int .i64 0)), .i (.sc (.int .i64 0)), .i (.sc (.int .i64 0)), .i (.sc (.int .i64 0)), .i (.sc (.bool false)), .i (.sc (.bool false)), n]
def stL (x : Vs) : List AV1 := stC x.c x.d.s x.d.mo x.d.ma (.i (.sl (zR x.d.zs))) (.i (.sl (wV x.lv))) (.i (.sl (wV x.pn))) x.g (.i (.sl (wV x.pp))) (.i (.sl (zpR x.zz))) x.h x.cl (.i (.sl []))
def stA (x : Vs) : AV := .agg (stL x)
def stI (x : Vs) : List IV :=
  [.sc (.int .i64 x.c.z), .sc (.int .i64 x.c.s), .sc (.int .i64 x.c.b), .sc (.int .i64 x.c.q), .sc (.int .i64 x.c.d), .sc (.int .i64 x.c.h),
   .sc (.int .i64 x.d.s), .sc (.int .i64 x.d.mo), .sc (.int .i64 x.d.ma), .sl (zR x.d.zs), .sl [], .sl (wV x.lv), .sl (wV x.pn), .sl [], .sc (.int .i64 x.g), .sl (wV x.pp), .sl (zpR x.zz), .sl [], .sc (.int .i64 x.h), .sc (.int .i64 x.cl), .sl [], .sl [],
   .sc (.int .i64 0), .sc (.int .i64 0), .sc (.int .i64 0), .sc (.int .i64 0), .sc (.int .i64 0), .sc (.int .i64 0), .sc (.int .i64 0), .sc (.int .i64 0), .sc (.int .i64 0), .sc (.int .i64 0), .sc (.int .i64 0),
   .sc (.int .i64 0), .sc (.int .i64 0), .sc (.int .i64 0), .sc (.int .i64 0), .sc (.int .i64 0), .sc (.int .i64 0), .sl [], .sl [],
   .sc (.int .i64 0), .sc (.int .i64 0), .sc (.int .i64 0), .sc (.int .i64 0), .sc (.bool false), .sc (.bool false), .sl []]
def vcan (x : Vs) (n : Int) : Bool := isData x.c n && match x.d.zs[n.toNat]?, x.lv[n.toNat]?, x.pn[n.toNat]? with
  | some z, some l, some p => decide (z.st = 4 ∧ p = 0 ∧ n ≠ x.h ∧ n ≠ x.cl) && (!(x.zz.any (znB n)) && decide (l < iwrap .i64 (x.c.s - 1)))
  | _, _, _ => false
theorem isData_nn {c : Cf} {n : Int} (h : isData c n = true) : 0 ≤ n ∧ n < c.z ∧ c.z ≤ 32 := by
  unfold isData at h
  obtain ⟨h1, h2, h3⟩ := of_decide_eq_true h
  have hok : cfOk c = true := by
    unfold cfChk at h1
    split at h1
    · assumption
    · cases h1
  obtain ⟨b1, b2, b3, _⟩ := cfOk_iff.1 hok
  have hs : 0 ≤ lySlot c ∧ lySlot c ≤ 1000 := by
    unfold lySlot
    rw [show iwrap .i64 (c.b + 2) = c.b + 2 from w64_in (by omega), show iwrap .i64 (c.b + 2 + c.s) = c.b + 2 + c.s from w64_in (by omega), show iwrap .i64 (c.b + 2 + c.s - 1) = c.b + 2 + c.s - 1 from w64_in (by omega)]
    have e1 : 0 ≤ Int.tdiv (c.b + 2 + c.s - 1) c.s := Int.tdiv_nonneg (by omega) (by omega)
    have e2 : Int.tdiv (c.b + 2 + c.s - 1) c.s ≤ c.b + 2 + c.s - 1 := Int.tdiv_le_self _ (by omega)
    rw [show iwrap .i64 (Int.tdiv (c.b + 2 + c.s - 1) c.s) = Int.tdiv (c.b + 2 + c.s - 1) c.s from w64_in (by omega)]
    omega
  have hf : lyFirst c = 2 * lySlot c := w64_in (by omega)
  omega
theorem vcan_no {x : Vs} {n : Int} (h : isData x.c n = false) : vcan x n = false := by unfold vcan; rw [h]; rfl
theorem vcan_out {x : Vs} {k : Nat} (h : ¬ (k < x.d.zs.length ∧ k < x.lv.length ∧ k < x.pn.length)) : vcan x (k : Int) = false := by
  unfold vcan
  rw [Int.toNat_natCast]
  split
  · rename_i h1 h2 h3
    exact absurd ⟨(List.getElem?_eq_some_iff.1 h1).1, (List.getElem?_eq_some_iff.1 h2).1, (List.getElem?_eq_some_iff.1 h3).1⟩ h
  · exact Bool.and_false _
theorem vcan_at {x : Vs} {k : Nat} (hd : isData x.c (k : Int) = true) (h1 : k < x.d.zs.length) (h2 : k < x.lv.length) (h3 : k < x.pn.length) :
    vcan x (k : Int) = (decide (x.d.zs[k].st = 4 ∧ x.pn[k] = 0 ∧ (k : Int) ≠ x.h ∧ (k : Int) ≠ x.cl) && (!(x.zz.any (znB (k : Int))) && decide (x.lv[k] < iwrap .i64 (x.c.s - 1)))) := by
  unfold vcan
  rw [Int.toNat_natCast, List.getElem?_eq_getElem h1, List.getElem?_eq_getElem h2, List.getElem?_eq_getElem h3, hd]
  rfl
theorem vLen (z : List Int) : (wV z).length = z.length := by simp [wV]
theorem vItem {z : List Int} {k : Nat} (h : k < z.length) : (wV z)[((k : Int)).toNat]? = some [.sc (.int .i64 z[k])] := by simp [wV, h]
set_option maxRecDepth 100000 in
set_option maxHeartbeats 32000000 in
theorem vcanF (x : Vs) (n : Int) (hz : x.zz.length ≤ 1000000) : Fun Try.prog 19 [stA x, i64V n] [] (ATbool (vcan x n)) := by
  have hdF := isDataF x.c n
  obtain ⟨⟨cz, cs, cb, cq, cd, ch⟩, ⟨ds, dmo, dma, zs⟩, lv, pn, g, pp, zz, h, cl⟩ := x
  dsimp only at hz hdF
  by_cases hd : isData ⟨cz, cs, cb, cq, cd, ch⟩ n = true
  rotate_left
  · rw [Bool.not_eq_true] at hd
    rw [vcan_no hd]
    rw [hd] at hdF
    simp only [stA, stL, stC]
    refine fun_of_vc tabOk mixOk Try.func19 rfl (by rfl) (rs := [.tmp 4]) rfl rfl 95 ?_; rw [Try.ntmps19]
    (conv => whnf); repeat ((first | refine And.intro DrawOk.go ?_ | refine And.intro rfl ?_ | refine And.intro (fun _ => ?_) (fun h => Bool.noConfusion h) | refine And.intro (fun h => Bool.noConfusion h) (fun _ => ?_)); conv => whnf)
    refine ⟨_, _, hdF, ?_⟩
    (conv => whnf); repeat ((first | refine And.intro DrawOk.go ?_ | refine And.intro rfl ?_ | refine And.intro (fun _ => ?_) (fun h => Bool.noConfusion h) | refine And.intro (fun h => Bool.noConfusion h) (fun _ => ?_)); conv => whnf)
    refine Exists.intro [] (And.intro List.nodup_nil ?_); ((conv => whnf); repeat ((first | refine And.intro DrawOk.go ?_ | refine And.intro rfl ?_ | refine And.intro (fun _ => ?_) (fun h => Bool.noConfusion h) | refine And.intro (fun h => Bool.noConfusion h) (fun _ => ?_)); conv => whnf))
    rfl
  obtain ⟨hn0, hn1, hn2⟩ := isData_nn hd
  dsimp only at hn1 hn2
  obtain ⟨k, rfl⟩ : ∃ k : Nat, n = k := ⟨n.toNat, by omega⟩
  have l1 := zLen zs
  have l2 := vLen lv
  have l3 := vLen pn
  by_cases hin : k < zs.length ∧ k < lv.length ∧ k < pn.length
  rotate_left
  · rw [vcan_out (x := ⟨⟨cz, cs, cb, cq, cd, ch⟩, ⟨ds, dmo, dma, zs⟩, lv, pn, g, pp, zz, h, cl⟩) hin]
    rw [hd] at hdF
    simp only [stA, stL, stC]
    refine fun_of_vc tabOk mixOk Try.func19 rfl (by rfl) (rs := [.tmp 4]) rfl rfl 95 ?_; rw [Try.ntmps19]
    (conv => whnf); repeat ((first | refine And.intro DrawOk.go ?_ | refine And.intro rfl ?_ | refine And.intro (fun _ => ?_) (fun h => Bool.noConfusion h) | refine And.intro (fun h => Bool.noConfusion h) (fun _ => ?_)); conv => whnf)
    repeat' (first | ((refine And.intro (fun h => ?_) (fun h => ?_)) <;> (try simp at h) <;> ((conv => whnf); repeat ((first | refine And.intro DrawOk.go ?_ | refine And.intro rfl ?_ | refine And.intro (fun _ => ?_) (fun h => Bool.noConfusion h) | refine And.intro (fun h => Bool.noConfusion h) (fun _ => ?_)); conv => whnf))) | (refine ⟨_, _, hdF, ?_⟩; ((conv => whnf); repeat ((first | refine And.intro DrawOk.go ?_ | refine And.intro rfl ?_ | refine And.intro (fun _ => ?_) (fun h => Bool.noConfusion h) | refine And.intro (fun h => Bool.noConfusion h) (fun _ => ?_)); conv => whnf))) | fail)
    all_goals first
      | (exfalso; omega)
      | (refine Exists.intro [] (And.intro List.nodup_nil ?_); ((conv => whnf); repeat ((first | refine And.intro DrawOk.go ?_ | refine And.intro rfl ?_ | refine And.intro (fun _ => ?_) (fun h => Bool.noConfusion h) | refine And.intro (fun h => Bool.noConfusion h) (fun _ => ?_)); conv => whnf))
         rfl)
  obtain ⟨k1, k2, k3⟩ := hin
  have hv := vcan_at (x := ⟨⟨cz, cs, cb, cq, cd, ch⟩, ⟨ds, dmo, dma, zs⟩, lv, pn, g, pp, zz, h, cl⟩) hd k1 k2 k3
  dsimp only at hv
  rw [hv]
  rw [hd] at hdF
  have i1 := zItem k1
  have i2 := vItem k2
  have i3 := vItem k3
  have hk0 : (0 : Int) ≤ (k : Int) := Int.natCast_nonneg k
  generalize zs[k] = z at i1 ⊢
  generalize lv[k] = l at i2 ⊢
  generalize pn[k] = p at i3 ⊢
  obtain ⟨st, du, ss⟩ := z
  dsimp only
  replace i1 : (zR zs)[((k : Int)).toNat]? = some [IV.sc (.int .i64 st), IV.sc (.int .i64 du), IV.sl (sV ss)] := i1
  by_cases hq : st = 4 ∧ p = 0 ∧ (k : Int) ≠ h ∧ (k : Int) ≠ cl
  rotate_left
  · rw [decide_eq_false hq, Bool.false_and]
    simp only [stA, stL, stC]
    refine fun_of_vc tabOk mixOk Try.func19 rfl (by rfl) (rs := [.tmp 4]) rfl rfl 95 ?_; rw [Try.ntmps19]
    (conv => whnf); repeat ((first | refine And.intro DrawOk.go ?_ | refine And.intro rfl ?_ | refine And.intro (fun _ => ?_) (fun h => Bool.noConfusion h) | refine And.intro (fun h => Bool.noConfusion h) (fun _ => ?_)); conv => whnf)
    repeat' (first | ((refine And.intro (fun h => ?_) (fun h => ?_)) <;> (try simp at h) <;> ((conv => whnf); repeat ((first | refine And.intro DrawOk.go ?_ | refine And.intro rfl ?_ | refine And.intro (fun _ => ?_) (fun h => Bool.noConfusion h) | refine And.intro (fun h => Bool.noConfusion h) (fun _ => ?_)); conv => whnf))) | (refine ⟨_, _, hdF, ?_⟩; ((conv => whnf); repeat ((first | refine And.intro DrawOk.go ?_ | refine And.intro rfl ?_ | refine And.intro (fun _ => ?_) (fun h => Bool.noConfusion h) | refine And.intro (fun h => Bool.noConfusion h) (fun _ => ?_)); conv => whnf))) | (refine ⟨hk0, _, i1, rfl, ?_⟩; ((conv => whnf); repeat ((first | refine And.intro DrawOk.go ?_ | refine And.intro rfl ?_ | refine And.intro (fun _ => ?_) (fun h => Bool.noConfusion h) | refine And.intro (fun h => Bool.noConfusion h) (fun _ => ?_)); conv => whnf))) | (refine ⟨hk0, _, i3, rfl, ?_⟩; ((conv => whnf); repeat ((first | refine And.intro DrawOk.go ?_ | refine And.intro rfl ?_ | refine And.intro (fun _ => ?_) (fun h => Bool.noConfusion h) | refine And.intro (fun h => Bool.noConfusion h) (fun _ => ?_)); conv => whnf))) | fail)
    all_goals first
      | (exfalso; omega)
      | (refine Exists.intro [] (And.intro List.nodup_nil ?_); ((conv => whnf); repeat ((first | refine And.intro DrawOk.go ?_ | refine And.intro rfl ?_ | refine And.intro (fun _ => ?_) (fun h => Bool.noConfusion h) | refine And.intro (fun h => Bool.noConfusion h) (fun _ => ?_)); conv => whnf))
         rfl)
  rw [decide_eq_true hq, Bool.true_and]
  obtain ⟨q1, q2, q3, q4⟩ := hq
  have zl := zpLen zz
  simp only [stA, stL, stC]
  refine fun_of_vc tabOk mixOk Try.func19 rfl (by rfl) (rs := [.tmp 4]) rfl rfl 95 ?_; rw [Try.ntmps19]
  (conv => whnf); repeat ((first | refine And.intro DrawOk.go ?_ | refine And.intro rfl ?_ | refine And.intro (fun _ => ?_) (fun h => Bool.noConfusion h) | refine And.intro (fun h => Bool.noConfusion h) (fun _ => ?_)); conv => whnf)
  repeat' (first | ((refine And.intro (fun h => ?_) (fun h => ?_)) <;> (try simp at h) <;> ((conv => whnf); repeat ((first | refine And.intro DrawOk.go ?_ | refine And.intro rfl ?_ | refine And.intro (fun _ => ?_) (fun h => Bool.noConfusion h) | refine And.intro (fun h => Bool.noConfusion h) (fun _ => ?_)); conv => whnf))) | (refine ⟨_, _, hdF, ?_⟩; ((conv => whnf); repeat ((first | refine And.intro DrawOk.go ?_ | refine And.intro rfl ?_ | refine And.intro (fun _ => ?_) (fun h => Bool.noConfusion h) | refine And.intro (fun h => Bool.noConfusion h) (fun _ => ?_)); conv => whnf))) | (refine ⟨hk0, _, i1, rfl, ?_⟩; ((conv => whnf); repeat ((first | refine And.intro DrawOk.go ?_ | refine And.intro rfl ?_ | refine And.intro (fun _ => ?_) (fun h => Bool.noConfusion h) | refine And.intro (fun h => Bool.noConfusion h) (fun _ => ?_)); conv => whnf))) | (refine ⟨hk0, _, i3, rfl, ?_⟩; ((conv => whnf); repeat ((first | refine And.intro DrawOk.go ?_ | refine And.intro rfl ?_ | refine And.intro (fun _ => ?_) (fun h => Bool.noConfusion h) | refine And.intro (fun h => Bool.noConfusion h) (fun _ => ?_)); conv => whnf))) | fail)
  all_goals first
    | (exfalso; omega)
    | skip
  all_goals
    refine vc_loop [1, 2, 69, 70] [2] (X := Nat) (fun i gs => [(71, ATint i)]) (fun _ _ => []) (fun i => i ≤ zz.length ∧ zz.any (znB (k : Int)) = (zz.drop i).any (znB (k : Int))) (fun i => zz.length - i) _ (Ghost.refl _) 0 ⟨Nat.zero_le _, rfl⟩ ?_ ?_
    · ((refine And.intro rfl (And.intro rfl ?_)); (repeat' (first | exact trivial | exact rfl | apply And.intro | (refine congrArg (Value.int .i64) (w64_nat ?_); omega))))
    rintro gs i ⟨hi, ha⟩
    ((conv => whnf); repeat ((first | refine And.intro DrawOk.go ?_ | refine And.intro rfl ?_ | refine And.intro (fun _ => ?_) (fun h => Bool.noConfusion h) | refine And.intro (fun h => Bool.noConfusion h) (fun _ => ?_)); conv => whnf))
    refine And.intro (fun h4 => ?_) (fun h4 => ?_)
    · have hlt : i < zz.length := by have := of_decide_eq_true h4; omega
      rw [List.drop_eq_getElem_cons hlt, List.any_cons] at ha
      have hit := zpItem hlt
      generalize zz[i] = y at ha hit
      obtain ⟨y1, y2⟩ := y
      replace hit : (zpR zz)[((i : Int)).toNat]? = some [IV.sc (.int .i64 y1), IV.sc (.int .i64 y2)] := hit
      ((conv => whnf); repeat ((first | refine And.intro DrawOk.go ?_ | refine And.intro rfl ?_ | refine And.intro (fun _ => ?_) (fun h => Bool.noConfusion h) | refine And.intro (fun h => Bool.noConfusion h) (fun _ => ?_)); conv => whnf))
      refine ⟨Int.natCast_nonneg i, _, hit, rfl, ?_⟩
      ((conv => whnf); repeat ((first | refine And.intro DrawOk.go ?_ | refine And.intro rfl ?_ | refine And.intro (fun _ => ?_) (fun h => Bool.noConfusion h) | refine And.intro (fun h => Bool.noConfusion h) (fun _ => ?_)); conv => whnf))
      refine And.intro (fun h5 => ?_) (fun h5 => ?_)
      · ((conv => whnf); repeat ((first | refine And.intro DrawOk.go ?_ | refine And.intro rfl ?_ | refine And.intro (fun _ => ?_) (fun h => Bool.noConfusion h) | refine And.intro (fun h => Bool.noConfusion h) (fun _ => ?_)); conv => whnf))
        refine Exists.intro [] (And.intro List.nodup_nil ?_); ((conv => whnf); repeat ((first | refine And.intro DrawOk.go ?_ | refine And.intro rfl ?_ | refine And.intro (fun _ => ?_) (fun h => Bool.noConfusion h) | refine And.intro (fun h => Bool.noConfusion h) (fun _ => ?_)); conv => whnf))
        rw [ha, show znB (k : Int) (y1, y2) = true from h5]; rfl
      · ((conv => whnf); repeat ((first | refine And.intro DrawOk.go ?_ | refine And.intro rfl ?_ | refine And.intro (fun _ => ?_) (fun h => Bool.noConfusion h) | refine And.intro (fun h => Bool.noConfusion h) (fun _ => ?_)); conv => whnf))
        refine again (i + 1) ⟨hlt, ?_⟩ (by omega) ?_
        · rw [ha, show znB (k : Int) (y1, y2) = false from h5, Bool.false_or]
        · ((refine And.intro rfl (And.intro rfl ?_)); (repeat' (first | exact trivial | exact rfl | apply And.intro | (refine congrArg (Value.int .i64) (w64_nat ?_); omega))))
    · have hge : ¬ i < zz.length := by have := of_decide_eq_false h4; omega
      rw [List.drop_of_length_le (by omega)] at ha
      rw [ha]
      ((conv => whnf); repeat ((first | refine And.intro DrawOk.go ?_ | refine And.intro rfl ?_ | refine And.intro (fun _ => ?_) (fun h => Bool.noConfusion h) | refine And.intro (fun h => Bool.noConfusion h) (fun _ => ?_)); conv => whnf))
      refine ⟨hk0, _, i2, rfl, ?_⟩
      ((conv => whnf); repeat ((first | refine And.intro DrawOk.go ?_ | refine And.intro rfl ?_ | refine And.intro (fun _ => ?_) (fun h => Bool.noConfusion h) | refine And.intro (fun h => Bool.noConfusion h) (fun _ => ?_)); conv => whnf))
      refine Exists.intro [] (And.intro List.nodup_nil ?_); ((conv => whnf); repeat ((first | refine And.intro DrawOk.go ?_ | refine And.intro rfl ?_ | refine And.intro (fun _ => ?_) (fun h => Bool.noConfusion h) | refine And.intro (fun h => Bool.noConfusion h) (fun _ => ?_)); conv => whnf))
      rfl
set_option maxRecDepth 100000 in
set_option maxHeartbeats 32000000 in
theorem vcanF' (x : Vs) (n : Int) (hz : x.zz.length ≤ 1000000) : Fun Try.prog 72 [stA x, i64V n] [] (ATbool (vcan x n)) := by
  have hdF := isDataF' x.c n
  have hrt := isRetF x.g x.pp x.zz hz n
  obtain ⟨⟨cz, cs, cb, cq, cd, ch⟩, ⟨ds, dmo, dma, zs⟩, lv, pn, g, pp, zz, h, cl⟩ := x
  dsimp only at hz hdF hrt
  by_cases hd : isData ⟨cz, cs, cb, cq, cd, ch⟩ n = true
  rotate_left
  · rw [Bool.not_eq_true] at hd
    rw [vcan_no hd]
    rw [hd] at hdF
    simp only [stA, stL, stC]
    refine fun_of_vc tabOk mixOk Try.func72 rfl (by rfl) (rs := [.tmp 4]) rfl rfl 89 ?_; rw [Try.ntmps72]
    (conv => whnf); repeat ((first | refine And.intro DrawOk.go ?_ | refine And.intro rfl ?_ | refine And.intro (fun _ => ?_) (fun h => Bool.noConfusion h) | refine And.intro (fun h => Bool.noConfusion h) (fun _ => ?_)); conv => whnf)
    refine ⟨_, _, hdF, ?_⟩
    (conv => whnf); repeat ((first | refine And.intro DrawOk.go ?_ | refine And.intro rfl ?_ | refine And.intro (fun _ => ?_) (fun h => Bool.noConfusion h) | refine And.intro (fun h => Bool.noConfusion h) (fun _ => ?_)); conv => whnf)
    refine Exists.intro [] (And.intro List.nodup_nil ?_); ((conv => whnf); repeat ((first | refine And.intro DrawOk.go ?_ | refine And.intro rfl ?_ | refine And.intro (fun _ => ?_) (fun h => Bool.noConfusion h) | refine And.intro (fun h => Bool.noConfusion h) (fun _ => ?_)); conv => whnf))
    rfl
  obtain ⟨hn0, hn1, hn2⟩ := isData_nn hd
  dsimp only at hn1 hn2
  obtain ⟨k, rfl⟩ : ∃ k : Nat, n = k := ⟨n.toNat, by omega⟩
  have l1 := zLen zs
  have l2 := vLen lv
  have l3 := vLen pn
  by_cases hin : k < zs.length ∧ k < lv.length ∧ k < pn.length
  rotate_left
  · rw [vcan_out (x := ⟨⟨cz, cs, cb, cq, cd, ch⟩, ⟨ds, dmo, dma, zs⟩, lv, pn, g, pp, zz, h, cl⟩) hin]
    rw [hd] at hdF
    simp only [stA, stL, stC]
    refine fun_of_vc tabOk mixOk Try.func72 rfl (by rfl) (rs := [.tmp 4]) rfl rfl 89 ?_; rw [Try.ntmps72]
    (conv => whnf); repeat ((first | refine And.intro DrawOk.go ?_ | refine And.intro rfl ?_ | refine And.intro (fun _ => ?_) (fun h => Bool.noConfusion h) | refine And.intro (fun h => Bool.noConfusion h) (fun _ => ?_)); conv => whnf)
    repeat' (first | ((refine And.intro (fun h => ?_) (fun h => ?_)) <;> (try simp at h) <;> ((conv => whnf); repeat ((first | refine And.intro DrawOk.go ?_ | refine And.intro rfl ?_ | refine And.intro (fun _ => ?_) (fun h => Bool.noConfusion h) | refine And.intro (fun h => Bool.noConfusion h) (fun _ => ?_)); conv => whnf))) | (refine ⟨_, _, hdF, ?_⟩; ((conv => whnf); repeat ((first | refine And.intro DrawOk.go ?_ | refine And.intro rfl ?_ | refine And.intro (fun _ => ?_) (fun h => Bool.noConfusion h) | refine And.intro (fun h => Bool.noConfusion h) (fun _ => ?_)); conv => whnf))) | fail)
    all_goals first
      | (exfalso; omega)
      | (refine Exists.intro [] (And.intro List.nodup_nil ?_); ((conv => whnf); repeat ((first | refine And.intro DrawOk.go ?_ | refine And.intro rfl ?_ | refine And.intro (fun _ => ?_) (fun h => Bool.noConfusion h) | refine And.intro (fun h => Bool.noConfusion h) (fun _ => ?_)); conv => whnf))
         rfl)
  obtain ⟨k1, k2, k3⟩ := hin
  have hv := vcan_at (x := ⟨⟨cz, cs, cb, cq, cd, ch⟩, ⟨ds, dmo, dma, zs⟩, lv, pn, g, pp, zz, h, cl⟩) hd k1 k2 k3
  dsimp only at hv
  rw [hv]
  rw [hd] at hdF
  have i1 := zItem k1
  have i2 := vItem k2
  have i3 := vItem k3
  have hk0 : (0 : Int) ≤ (k : Int) := Int.natCast_nonneg k
  generalize zs[k] = z at i1 ⊢
  generalize lv[k] = l at i2 ⊢
  generalize pn[k] = p at i3 ⊢
  obtain ⟨st, du, ss⟩ := z
  dsimp only
  replace i1 : (zR zs)[((k : Int)).toNat]? = some [IV.sc (.int .i64 st), IV.sc (.int .i64 du), IV.sl (sV ss)] := i1
  generalize zz.any (znB (k : Int)) = R at hrt ⊢
  by_cases hq : st = 4 ∧ p = 0 ∧ (k : Int) ≠ h ∧ (k : Int) ≠ cl
  rotate_left
  · rw [decide_eq_false hq, Bool.false_and]
    simp only [stA, stL, stC]
    refine fun_of_vc tabOk mixOk Try.func72 rfl (by rfl) (rs := [.tmp 4]) rfl rfl 89 ?_; rw [Try.ntmps72]
    (conv => whnf); repeat ((first | refine And.intro DrawOk.go ?_ | refine And.intro rfl ?_ | refine And.intro (fun _ => ?_) (fun h => Bool.noConfusion h) | refine And.intro (fun h => Bool.noConfusion h) (fun _ => ?_)); conv => whnf)
    repeat' (first | ((refine And.intro (fun h => ?_) (fun h => ?_)) <;> (try simp at h) <;> ((conv => whnf); repeat ((first | refine And.intro DrawOk.go ?_ | refine And.intro rfl ?_ | refine And.intro (fun _ => ?_) (fun h => Bool.noConfusion h) | refine And.intro (fun h => Bool.noConfusion h) (fun _ => ?_)); conv => whnf))) | (refine ⟨_, _, hdF, ?_⟩; ((conv => whnf); repeat ((first | refine And.intro DrawOk.go ?_ | refine And.intro rfl ?_ | refine And.intro (fun _ => ?_) (fun h => Bool.noConfusion h) | refine And.intro (fun h => Bool.noConfusion h) (fun _ => ?_)); conv => whnf))) | (refine ⟨hk0, _, i1, rfl, ?_⟩; ((conv => whnf); repeat ((first | refine And.intro DrawOk.go ?_ | refine And.intro rfl ?_ | refine And.intro (fun _ => ?_) (fun h => Bool.noConfusion h) | refine And.intro (fun h => Bool.noConfusion h) (fun _ => ?_)); conv => whnf))) | (refine ⟨hk0, _, i3, rfl, ?_⟩; ((conv => whnf); repeat ((first | refine And.intro DrawOk.go ?_ | refine And.intro rfl ?_ | refine And.intro (fun _ => ?_) (fun h => Bool.noConfusion h) | refine And.intro (fun h => Bool.noConfusion h) (fun _ => ?_)); conv => whnf))) | fail)
    all_goals first
      | (exfalso; omega)
      | (refine Exists.intro [] (And.intro List.nodup_nil ?_); ((conv => whnf); repeat ((first | refine And.intro DrawOk.go ?_ | refine And.intro rfl ?_ | refine And.intro (fun _ => ?_) (fun h => Bool.noConfusion h) | refine And.intro (fun h => Bool.noConfusion h) (fun _ => ?_)); conv => whnf))
         rfl)
  rw [decide_eq_true hq, Bool.true_and]
  obtain ⟨q1, q2, q3, q4⟩ := hq
  cases R with
  | true =>
    simp only [stA, stL, stC]
    refine fun_of_vc tabOk mixOk Try.func72 rfl (by rfl) (rs := [.tmp 4]) rfl rfl 89 ?_; rw [Try.ntmps72]
    (conv => whnf); repeat ((first | refine And.intro DrawOk.go ?_ | refine And.intro rfl ?_ | refine And.intro (fun _ => ?_) (fun h => Bool.noConfusion h) | refine And.intro (fun h => Bool.noConfusion h) (fun _ => ?_)); conv => whnf)
    repeat' (first | ((refine And.intro (fun h => ?_) (fun h => ?_)) <;> (try simp at h) <;> ((conv => whnf); repeat ((first | refine And.intro DrawOk.go ?_ | refine And.intro rfl ?_ | refine And.intro (fun _ => ?_) (fun h => Bool.noConfusion h) | refine And.intro (fun h => Bool.noConfusion h) (fun _ => ?_)); conv => whnf))) | (refine ⟨_, _, hdF, ?_⟩; ((conv => whnf); repeat ((first | refine And.intro DrawOk.go ?_ | refine And.intro rfl ?_ | refine And.intro (fun _ => ?_) (fun h => Bool.noConfusion h) | refine And.intro (fun h => Bool.noConfusion h) (fun _ => ?_)); conv => whnf))) | (refine ⟨_, _, hrt, ?_⟩; ((conv => whnf); repeat ((first | refine And.intro DrawOk.go ?_ | refine And.intro rfl ?_ | refine And.intro (fun _ => ?_) (fun h => Bool.noConfusion h) | refine And.intro (fun h => Bool.noConfusion h) (fun _ => ?_)); conv => whnf))) | (refine ⟨hk0, _, i1, rfl, ?_⟩; ((conv => whnf); repeat ((first | refine And.intro DrawOk.go ?_ | refine And.intro rfl ?_ | refine And.intro (fun _ => ?_) (fun h => Bool.noConfusion h) | refine And.intro (fun h => Bool.noConfusion h) (fun _ => ?_)); conv => whnf))) | (refine ⟨hk0, _, i3, rfl, ?_⟩; ((conv => whnf); repeat ((first | refine And.intro DrawOk.go ?_ | refine And.intro rfl ?_ | refine And.intro (fun _ => ?_) (fun h => Bool.noConfusion h) | refine And.intro (fun h => Bool.noConfusion h) (fun _ => ?_)); conv => whnf))) | fail)
    all_goals first
      | (exfalso; omega)
      | (refine Exists.intro [] (And.intro List.nodup_nil ?_); ((conv => whnf); repeat ((first | refine And.intro DrawOk.go ?_ | refine And.intro rfl ?_ | refine And.intro (fun _ => ?_) (fun h => Bool.noConfusion h) | refine And.intro (fun h => Bool.noConfusion h) (fun _ => ?_)); conv => whnf))
         rfl)
  | false =>
    simp only [stA, stL, stC]
    refine fun_of_vc tabOk mixOk Try.func72 rfl (by rfl) (rs := [.tmp 4]) rfl rfl 89 ?_; rw [Try.ntmps72]
    (conv => whnf); repeat ((first | refine And.intro DrawOk.go ?_ | refine And.intro rfl ?_ | refine And.intro (fun _ => ?_) (fun h => Bool.noConfusion h) | refine And.intro (fun h => Bool.noConfusion h) (fun _ => ?_)); conv => whnf)
    repeat' (first | ((refine And.intro (fun h => ?_) (fun h => ?_)) <;> (try simp at h) <;> ((conv => whnf); repeat ((first | refine And.intro DrawOk.go ?_ | refine And.intro rfl ?_ | refine And.intro (fun _ => ?_) (fun h => Bool.noConfusion h) | refine And.intro (fun h => Bool.noConfusion h) (fun _ => ?_)); conv => whnf))) | (refine ⟨_, _, hdF, ?_⟩; ((conv => whnf); repeat ((first | refine And.intro DrawOk.go ?_ | refine And.intro rfl ?_ | refine And.intro (fun _ => ?_) (fun h => Bool.noConfusion h) | refine And.intro (fun h => Bool.noConfusion h) (fun _ => ?_)); conv => whnf))) | (refine ⟨_, _, hrt, ?_⟩; ((conv => whnf); repeat ((first | refine And.intro DrawOk.go ?_ | refine And.intro rfl ?_ | refine And.intro (fun _ => ?_) (fun h => Bool.noConfusion h) | refine And.intro (fun h => Bool.noConfusion h) (fun _ => ?_)); conv => whnf))) | (refine ⟨hk0, _, i1, rfl, ?_⟩; ((conv => whnf); repeat ((first | refine And.intro DrawOk.go ?_ | refine And.intro rfl ?_ | refine And.intro (fun _ => ?_) (fun h => Bool.noConfusion h) | refine And.intro (fun h => Bool.noConfusion h) (fun _ => ?_)); conv => whnf))) | (refine ⟨hk0, _, i3, rfl, ?_⟩; ((conv => whnf); repeat ((first | refine And.intro DrawOk.go ?_ | refine And.intro rfl ?_ | refine And.intro (fun _ => ?_) (fun h => Bool.noConfusion h) | refine And.intro (fun h => Bool.noConfusion h) (fun _ => ?_)); conv => whnf))) | (refine ⟨hk0, _, i2, rfl, ?_⟩; ((conv => whnf); repeat ((first | refine And.intro DrawOk.go ?_ | refine And.intro rfl ?_ | refine And.intro (fun _ => ?_) (fun h => Bool.noConfusion h) | refine And.intro (fun h => Bool.noConfusion h) (fun _ => ?_)); conv => whnf))) | fail)
    all_goals first
      | (exfalso; omega)
      | (refine Exists.intro [] (And.intro List.nodup_nil ?_); ((conv => whnf); repeat ((first | refine And.intro DrawOk.go ?_ | refine And.intro rfl ?_ | refine And.intro (fun _ => ?_) (fun h => Bool.noConfusion h) | refine And.intro (fun h => Bool.noConfusion h) (fun _ => ?_)); conv => whnf))
         rfl)
end Go.Proofs.Ytijajfldpaadnaa.Ab
namespace Go.Proofs.Ytijajfldpaadnaa.Ab
set_option linter.unusedVariables false
set_option linter.unusedSimpArgs false
open Go.RowKit

def lvAt (x : Vs) (n : Int) : Int := match x.lv[n.toNat]? with
  | some l => l
  | none => 0
def chB (x : Vs) (i : Int) (st : Int × Bool) : Bool := vcan x i && (!st.2 || decide (lvAt x i < lvAt x st.1))
def chGo (x : Vs) : Nat → Int × Bool
  | 0 => (0, false)
  | i + 1 => if chB x i (chGo x i) = true then ((i : Int), true) else chGo x i
def ddGo (x : Vs) : Nat → Int
  | 0 => 0
  | i + 1 => if vcan x i = true then iwrap .i64 (iwrap .i64 (iwrap .i64 (ddGo x i + x.c.s) - 1) - lvAt x i) else ddGo x i
theorem vcan_in {x : Vs} {n : Int} (h : vcan x n = true) : ∃ k : Nat, n = k ∧ ∃ hk : k < x.lv.length, lvAt x n = x.lv[k] := by
  unfold vcan at h
  rw [Bool.and_eq_true] at h
  obtain ⟨h1, h2⟩ := h
  obtain ⟨h3, _⟩ := isData_nn h1
  obtain ⟨k, rfl⟩ : ∃ k : Nat, n = k := ⟨n.toNat, by omega⟩
  rw [Int.toNat_natCast] at h2
  split at h2
  · rename_i z l p e1 e2 e3
    have hk := (List.getElem?_eq_some_iff.1 e2).1
    refine ⟨k, rfl, hk, ?_⟩
    unfold lvAt
    rw [Int.toNat_natCast, List.getElem?_eq_getElem hk]
  · cases h2
theorem chGo_in (x : Vs) (i : Nat) : (chGo x i).2 = true → vcan x (chGo x i).1 = true := by
  induction i with
  | zero => intro h; cases h
  | succ i ih =>
    intro h
    rw [chGo] at h ⊢
    split
    · rename_i hb
      unfold chB at hb
      rw [Bool.and_eq_true] at hb
      exact hb.1
    · rename_i hb
      rw [if_neg hb] at h
      exact ih h
set_option maxRecDepth 100000 in
set_option maxHeartbeats 32000000 in
theorem cloCF (x : Vs) (i : Nat) (at_ : Int) (ok : Bool) (hz : x.zz.length ≤ 1000000) (hin : ok = true → vcan x at_ = true) :
    Fun Try.prog 69 [i64V i, .c (.pim (stI x)), .c (.pim [.sc (.bool ok)]), .c (.pim [.sc (.int .i64 at_)])] [] (ATbool (chB x i (at_, ok))) := by
  have hc := vcanF x i hz
  have hci := @vcan_in x (i : Int)
  unfold chB
  dsimp only
  have hl : ok = true → ∃ k : Nat, at_ = k ∧ ∃ hk : k < x.lv.length, lvAt x at_ = x.lv[k] := fun h => vcan_in (hin h)
  clear hin
  generalize vcan x (i : Int) = B at hc hci ⊢
  cases B with
  | false =>
    rw [Bool.false_and]
    refine fun_of_vc tabOk mixOk Try.func69 rfl (by rfl) (rs := [.tmp 5]) rfl rfl 32 ?_; rw [Try.ntmps69]
    (conv => whnf); repeat ((first | refine And.intro DrawOk.go ?_ | refine And.intro rfl ?_ | refine And.intro (fun _ => ?_) (fun h => Bool.noConfusion h) | refine And.intro (fun h => Bool.noConfusion h) (fun _ => ?_)); conv => whnf)
    refine ⟨_, _, hc, ?_⟩
    (conv => whnf); repeat ((first | refine And.intro DrawOk.go ?_ | refine And.intro rfl ?_ | refine And.intro (fun _ => ?_) (fun h => Bool.noConfusion h) | refine And.intro (fun h => Bool.noConfusion h) (fun _ => ?_)); conv => whnf)
    refine Exists.intro [] (And.intro List.nodup_nil ?_); ((conv => whnf); repeat ((first | refine And.intro DrawOk.go ?_ | refine And.intro rfl ?_ | refine And.intro (fun _ => ?_) (fun h => Bool.noConfusion h) | refine And.intro (fun h => Bool.noConfusion h) (fun _ => ?_)); conv => whnf))
    rfl
  | true =>
    cases ok with
    | false =>
      refine fun_of_vc tabOk mixOk Try.func69 rfl (by rfl) (rs := [.tmp 5]) rfl rfl 32 ?_; rw [Try.ntmps69]
      (conv => whnf); repeat ((first | refine And.intro DrawOk.go ?_ | refine And.intro rfl ?_ | refine And.intro (fun _ => ?_) (fun h => Bool.noConfusion h) | refine And.intro (fun h => Bool.noConfusion h) (fun _ => ?_)); conv => whnf)
      refine ⟨_, _, hc, ?_⟩
      (conv => whnf); repeat ((first | refine And.intro DrawOk.go ?_ | refine And.intro rfl ?_ | refine And.intro (fun _ => ?_) (fun h => Bool.noConfusion h) | refine And.intro (fun h => Bool.noConfusion h) (fun _ => ?_)); conv => whnf)
      refine Exists.intro [] (And.intro List.nodup_nil ?_); ((conv => whnf); repeat ((first | refine And.intro DrawOk.go ?_ | refine And.intro rfl ?_ | refine And.intro (fun _ => ?_) (fun h => Bool.noConfusion h) | refine And.intro (fun h => Bool.noConfusion h) (fun _ => ?_)); conv => whnf))
      rfl
    | true =>
      obtain ⟨k, e1, hk, e2⟩ := hl rfl
      obtain ⟨k', e1', hk', e2'⟩ := hci rfl
      obtain rfl : i = k' := by omega
      rw [e2, e2']
      subst e1
      have i1 := vItem hk
      have i2 := vItem hk'
      generalize x.lv[k] = u at i1 ⊢
      generalize x.lv[i] = v at i2 ⊢
      refine fun_of_vc tabOk mixOk Try.func69 rfl (by rfl) (rs := [.tmp 5]) rfl rfl 32 ?_; rw [Try.ntmps69]
      (conv => whnf); repeat ((first | refine And.intro DrawOk.go ?_ | refine And.intro rfl ?_ | refine And.intro (fun _ => ?_) (fun h => Bool.noConfusion h) | refine And.intro (fun h => Bool.noConfusion h) (fun _ => ?_)); conv => whnf)
      refine ⟨_, _, hc, ?_⟩
      (conv => whnf); repeat ((first | refine And.intro DrawOk.go ?_ | refine And.intro rfl ?_ | refine And.intro (fun _ => ?_) (fun h => Bool.noConfusion h) | refine And.intro (fun h => Bool.noConfusion h) (fun _ => ?_)); conv => whnf)
      refine ⟨Int.natCast_nonneg _, _, i2, rfl, ?_⟩
      (conv => whnf); repeat ((first | refine And.intro DrawOk.go ?_ | refine And.intro rfl ?_ | refine And.intro (fun _ => ?_) (fun h => Bool.noConfusion h) | refine And.intro (fun h => Bool.noConfusion h) (fun _ => ?_)); conv => whnf)
      refine ⟨Int.natCast_nonneg _, _, i1, rfl, ?_⟩
      (conv => whnf); repeat ((first | refine And.intro DrawOk.go ?_ | refine And.intro rfl ?_ | refine And.intro (fun _ => ?_) (fun h => Bool.noConfusion h) | refine And.intro (fun h => Bool.noConfusion h) (fun _ => ?_)); conv => whnf)
      refine Exists.intro [] (And.intro List.nodup_nil ?_); ((conv => whnf); repeat ((first | refine And.intro DrawOk.go ?_ | refine And.intro rfl ?_ | refine And.intro (fun _ => ?_) (fun h => Bool.noConfusion h) | refine And.intro (fun h => Bool.noConfusion h) (fun _ => ?_)); conv => whnf))
      rfl
set_option maxRecDepth 100000 in
set_option maxHeartbeats 32000000 in
theorem chooseF (x : Vs) (hz : x.zz.length ≤ 1000000) (hl : x.d.zs.length ≤ 1000000) : Fun Try.prog 18 [stA x] [] (.tup [i64V (chGo x x.d.zs.length).1, bV (chGo x x.d.zs.length).2]) := by
  have hc := fun (i : Nat) (st : Int × Bool) (h : chGo x i = st) => cloCF x i st.1 st.2 hz (by rw [← h]; exact chGo_in x i)
  have hsu : ∀ i : Nat, chGo x (i + 1) = if chB x i (chGo x i) = true then ((i : Int), true) else chGo x i := fun i => rfl
  have h0 : chGo x 0 = (0, false) := rfl
  have hB : ∀ i st, ∃ b, b = chB x i st := fun i st => ⟨_, rfl⟩
  generalize chGo x = G at hc hsu h0 ⊢
  have zl := zLen x.d.zs
  refine fun_of_vc tabOk mixOk Try.func18 rfl (by rfl) (rs := [.tmp 2, .tmp 3]) rfl rfl 27 ?_; rw [Try.ntmps18]
  (conv => whnf); repeat ((first | refine And.intro DrawOk.go ?_ | refine And.intro rfl ?_ | refine And.intro (fun _ => ?_) (fun h => Bool.noConfusion h) | refine And.intro (fun h => Bool.noConfusion h) (fun _ => ?_)); conv => whnf)
  refine vc_loop [4, 5, 6, 12] [1] (X := Nat × Int × Bool) (fun y gs => [(13, ATint y.1)]) (fun y gs => [(4, .var 1 [.i (.sc (.int .i64 y.2.1))]), (5, .var 1 [.i (.sc (.bool y.2.2))])]) (fun y => y.1 ≤ x.d.zs.length ∧ G y.1 = y.2) (fun y => x.d.zs.length - y.1) _ (Ghost.refl _) (0, 0, false) ⟨Nat.zero_le _, h0⟩ ?_ ?_
  · (refine And.intro rfl (And.intro rfl ?_)); (repeat' (first | exact trivial | exact rfl | apply And.intro | (refine congrArg (Value.int .i64) (w64_nat ?_); omega)))
  intro gs y hy
  obtain ⟨i, a, ok⟩ := y
  have hi : i ≤ x.d.zs.length := hy.1
  have he : G i = (a, ok) := hy.2
  clear hy
  have hs := hsu i
  rw [he] at hs
  have hci := hc i _ he
  dsimp only at hci
  (conv => whnf); repeat ((first | refine And.intro DrawOk.go ?_ | refine And.intro rfl ?_ | refine And.intro (fun _ => ?_) (fun h => Bool.noConfusion h) | refine And.intro (fun h => Bool.noConfusion h) (fun _ => ?_)); conv => whnf)
  refine And.intro (fun h => ?_) (fun h => ?_)
  · have hlt : i < x.d.zs.length := by have := of_decide_eq_true h; omega
    clear hc hsu
    generalize chB x (i : Int) (a, ok) = b at hs hci
    (conv => whnf); repeat ((first | refine And.intro DrawOk.go ?_ | refine And.intro rfl ?_ | refine And.intro (fun _ => ?_) (fun h => Bool.noConfusion h) | refine And.intro (fun h => Bool.noConfusion h) (fun _ => ?_)); conv => whnf)
    refine Or.inl ?_
    (conv => whnf); repeat ((first | refine And.intro DrawOk.go ?_ | refine And.intro rfl ?_ | refine And.intro (fun _ => ?_) (fun h => Bool.noConfusion h) | refine And.intro (fun h => Bool.noConfusion h) (fun _ => ?_)); conv => whnf)
    refine ⟨_, _, hci, ?_⟩
    (conv => whnf); repeat ((first | refine And.intro DrawOk.go ?_ | refine And.intro rfl ?_ | refine And.intro (fun _ => ?_) (fun h => Bool.noConfusion h) | refine And.intro (fun h => Bool.noConfusion h) (fun _ => ?_)); conv => whnf)
    cases b with
    | true =>
      rw [if_pos rfl] at hs
      (conv => whnf); repeat ((first | refine And.intro DrawOk.go ?_ | refine And.intro rfl ?_ | refine And.intro (fun _ => ?_) (fun h => Bool.noConfusion h) | refine And.intro (fun h => Bool.noConfusion h) (fun _ => ?_)); conv => whnf)
      refine again (i + 1, (i : Int), true) ⟨hlt, hs⟩ (by dsimp only; omega) ?_
      (refine And.intro rfl (And.intro rfl ?_)); (repeat' (first | exact trivial | exact rfl | apply And.intro | (refine congrArg (Value.int .i64) (w64_nat ?_); omega)))
    | false =>
      rw [if_neg (by decide)] at hs
      (conv => whnf); repeat ((first | refine And.intro DrawOk.go ?_ | refine And.intro rfl ?_ | refine And.intro (fun _ => ?_) (fun h => Bool.noConfusion h) | refine And.intro (fun h => Bool.noConfusion h) (fun _ => ?_)); conv => whnf)
      refine again (i + 1, a, ok) ⟨hlt, hs⟩ (by dsimp only; omega) ?_
      (refine And.intro rfl (And.intro rfl ?_)); (repeat' (first | exact trivial | exact rfl | apply And.intro | (refine congrArg (Value.int .i64) (w64_nat ?_); omega)))
  · obtain rfl : i = x.d.zs.length := by have := of_decide_eq_false h; omega
    rw [he]
    (conv => whnf); repeat ((first | refine And.intro DrawOk.go ?_ | refine And.intro rfl ?_ | refine And.intro (fun _ => ?_) (fun h => Bool.noConfusion h) | refine And.intro (fun h => Bool.noConfusion h) (fun _ => ?_)); conv => whnf)
    refine Exists.intro [] (And.intro List.nodup_nil ?_); ((conv => whnf); repeat ((first | refine And.intro DrawOk.go ?_ | refine And.intro rfl ?_ | refine And.intro (fun _ => ?_) (fun h => Bool.noConfusion h) | refine And.intro (fun h => Bool.noConfusion h) (fun _ => ?_)); conv => whnf))
    rfl
set_option maxRecDepth 100000 in
set_option maxHeartbeats 32000000 in
theorem chooseF' (x : Vs) (hz : x.zz.length ≤ 1000000) (hl : x.d.zs.length ≤ 1000000) : Fun Try.prog 71 [stA x] [] (.tup [i64V (chGo x x.d.zs.length).1, bV (chGo x x.d.zs.length).2]) := by
  have hc := fun (i : Nat) => vcanF' x i hz
  have hsu : ∀ i : Nat, chGo x (i + 1) = if chB x i (chGo x i) = true then ((i : Int), true) else chGo x i := fun i => rfl
  have h0 : chGo x 0 = (0, false) := rfl
  have hin := chGo_in x
  have hvi := fun (n : Int) => @vcan_in x n
  unfold chB at hsu
  generalize chGo x = G at hsu h0 hin ⊢
  have zl := zLen x.d.zs
  refine fun_of_vc tabOk mixOk Try.func71 rfl (by rfl) (rs := [.tmp 2, .tmp 3]) rfl rfl 44 ?_; rw [Try.ntmps71]
  (conv => whnf); repeat ((first | refine And.intro DrawOk.go ?_ | refine And.intro rfl ?_ | refine And.intro (fun _ => ?_) (fun h => Bool.noConfusion h) | refine And.intro (fun h => Bool.noConfusion h) (fun _ => ?_)); conv => whnf)
  refine vc_loop [1] [1] (X := Nat × Int × Bool) (fun y gs => [(6, ATint y.1), (4, .v (i64V y.2.1)), (5, .v (bV y.2.2))]) (fun y gs => []) (fun y => y.1 ≤ x.d.zs.length ∧ G y.1 = y.2) (fun y => x.d.zs.length - y.1) _ (Ghost.refl _) (0, 0, false) ⟨Nat.zero_le _, h0⟩ ?_ ?_
  · (refine And.intro rfl (And.intro rfl ?_)); (repeat' (first | exact trivial | exact rfl | apply And.intro | (refine congrArg (Value.int .i64) (w64_nat ?_); omega)))
  intro gs y hy
  obtain ⟨i, a, ok⟩ := y
  have hi : i ≤ x.d.zs.length := hy.1
  have he : G i = (a, ok) := hy.2
  clear hy
  have hs := hsu i
  have hini := hin i
  rw [he] at hs hini
  dsimp only at hs hini
  have hci := hc i
  (conv => whnf); repeat ((first | refine And.intro DrawOk.go ?_ | refine And.intro rfl ?_ | refine And.intro (fun _ => ?_) (fun h => Bool.noConfusion h) | refine And.intro (fun h => Bool.noConfusion h) (fun _ => ?_)); conv => whnf)
  refine And.intro (fun h => ?_) (fun h => ?_)
  · have hlt : i < x.d.zs.length := by have := of_decide_eq_true h; omega
    clear hc hsu
    have hv1 := hvi (i : Int)
    have hv2 := hvi a
    generalize vcan x (i : Int) = b at hs hci hv1
    cases b with
    | false =>
      rw [Bool.false_and, if_neg (by decide)] at hs
      (conv => whnf); repeat ((first | refine And.intro DrawOk.go ?_ | refine And.intro rfl ?_ | refine And.intro (fun _ => ?_) (fun h => Bool.noConfusion h) | refine And.intro (fun h => Bool.noConfusion h) (fun _ => ?_)); conv => whnf)
      refine ⟨_, _, hci, ?_⟩
      (conv => whnf); repeat ((first | refine And.intro DrawOk.go ?_ | refine And.intro rfl ?_ | refine And.intro (fun _ => ?_) (fun h => Bool.noConfusion h) | refine And.intro (fun h => Bool.noConfusion h) (fun _ => ?_)); conv => whnf)
      refine again (i + 1, a, ok) ⟨hlt, hs⟩ (by dsimp only; omega) ?_
      (refine And.intro rfl (And.intro rfl ?_)); (repeat' (first | exact trivial | exact rfl | apply And.intro | (refine congrArg (Value.int .i64) (w64_nat ?_); omega)))
    | true =>
      cases ok with
      | false =>
        rw [Bool.true_and, Bool.not_false, Bool.true_or, if_pos rfl] at hs
        (conv => whnf); repeat ((first | refine And.intro DrawOk.go ?_ | refine And.intro rfl ?_ | refine And.intro (fun _ => ?_) (fun h => Bool.noConfusion h) | refine And.intro (fun h => Bool.noConfusion h) (fun _ => ?_)); conv => whnf)
        refine ⟨_, _, hci, ?_⟩
        (conv => whnf); repeat ((first | refine And.intro DrawOk.go ?_ | refine And.intro rfl ?_ | refine And.intro (fun _ => ?_) (fun h => Bool.noConfusion h) | refine And.intro (fun h => Bool.noConfusion h) (fun _ => ?_)); conv => whnf)
        refine again (i + 1, (i : Int), true) ⟨hlt, hs⟩ (by dsimp only; omega) ?_
        (refine And.intro rfl (And.intro rfl ?_)); (repeat' (first | exact trivial | exact rfl | apply And.intro | (refine congrArg (Value.int .i64) (w64_nat ?_); omega)))
      | true =>
        rw [Bool.true_and, Bool.not_true, Bool.false_or] at hs
        obtain ⟨k, e1, hk, e2⟩ := hv2 (hini rfl)
        obtain ⟨k', e1', hk', e2'⟩ := hv1 rfl
        obtain rfl : i = k' := by omega
        rw [e2, e2'] at hs
        subst e1
        have i1 := vItem hk
        have i2 := vItem hk'
        clear hvi hv1 hv2 hin hini e1' e2 e2'
        generalize x.lv[k] = u at i1 hs
        generalize x.lv[i] = v at i2 hs
        (conv => whnf); repeat ((first | refine And.intro DrawOk.go ?_ | refine And.intro rfl ?_ | refine And.intro (fun _ => ?_) (fun h => Bool.noConfusion h) | refine And.intro (fun h => Bool.noConfusion h) (fun _ => ?_)); conv => whnf)
        refine ⟨_, _, hci, ?_⟩
        (conv => whnf); repeat ((first | refine And.intro DrawOk.go ?_ | refine And.intro rfl ?_ | refine And.intro (fun _ => ?_) (fun h => Bool.noConfusion h) | refine And.intro (fun h => Bool.noConfusion h) (fun _ => ?_)); conv => whnf)
        refine ⟨Int.natCast_nonneg _, _, i2, rfl, ?_⟩
        (conv => whnf); repeat ((first | refine And.intro DrawOk.go ?_ | refine And.intro rfl ?_ | refine And.intro (fun _ => ?_) (fun h => Bool.noConfusion h) | refine And.intro (fun h => Bool.noConfusion h) (fun _ => ?_)); conv => whnf)
        refine ⟨Int.natCast_nonneg _, _, i1, rfl, ?_⟩
        (conv => whnf); repeat ((first | refine And.intro DrawOk.go ?_ | refine And.intro rfl ?_ | refine And.intro (fun _ => ?_) (fun h => Bool.noConfusion h) | refine And.intro (fun h => Bool.noConfusion h) (fun _ => ?_)); conv => whnf)
        refine And.intro (fun h2 => ?_) (fun h2 => ?_)
        · rw [h2, if_pos rfl] at hs
          (conv => whnf); repeat ((first | refine And.intro DrawOk.go ?_ | refine And.intro rfl ?_ | refine And.intro (fun _ => ?_) (fun h => Bool.noConfusion h) | refine And.intro (fun h => Bool.noConfusion h) (fun _ => ?_)); conv => whnf)
          refine again (i + 1, (i : Int), true) ⟨hlt, hs⟩ (by dsimp only; omega) ?_
          (refine And.intro rfl (And.intro rfl ?_)); (repeat' (first | exact trivial | exact rfl | apply And.intro | (refine congrArg (Value.int .i64) (w64_nat ?_); omega)))
        · rw [h2, if_neg (by decide)] at hs
          (conv => whnf); repeat ((first | refine And.intro DrawOk.go ?_ | refine And.intro rfl ?_ | refine And.intro (fun _ => ?_) (fun h => Bool.noConfusion h) | refine And.intro (fun h => Bool.noConfusion h) (fun _ => ?_)); conv => whnf)
          refine again (i + 1, (k : Int), true) ⟨hlt, hs⟩ (by dsimp only; omega) ?_
          (refine And.intro rfl (And.intro rfl ?_)); (repeat' (first | exact trivial | exact rfl | apply And.intro | (refine congrArg (Value.int .i64) (w64_nat ?_); omega)))
  · obtain rfl : i = x.d.zs.length := by have := of_decide_eq_false h; omega
    rw [he]
    (conv => whnf); repeat ((first | refine And.intro DrawOk.go ?_ | refine And.intro rfl ?_ | refine And.intro (fun _ => ?_) (fun h => Bool.noConfusion h) | refine And.intro (fun h => Bool.noConfusion h) (fun _ => ?_)); conv => whnf)
    refine Exists.intro [] (And.intro List.nodup_nil ?_); ((conv => whnf); repeat ((first | refine And.intro DrawOk.go ?_ | refine And.intro rfl ?_ | refine And.intro (fun _ => ?_) (fun h => Bool.noConfusion h) | refine And.intro (fun h => Bool.noConfusion h) (fun _ => ?_)); conv => whnf))
    rfl
set_option maxRecDepth 100000 in
set_option maxHeartbeats 32000000 in
theorem deadF (x : Vs) (hz : x.zz.length ≤ 1000000) (hl : x.d.zs.length ≤ 1000000) : Fun Try.prog 20 [stA x] [] (.v (i64V (ddGo x x.d.zs.length))) := by
  have hc := fun (i : Nat) => vcanF x i hz
  have hsu : ∀ i : Nat, ddGo x (i + 1) = if vcan x i = true then iwrap .i64 (iwrap .i64 (iwrap .i64 (ddGo x i + x.c.s) - 1) - lvAt x i) else ddGo x i := fun i => rfl
  have h0 : ddGo x 0 = 0 := rfl
  have hvi := fun (n : Int) => @vcan_in x n
  generalize ddGo x = G at hsu h0 ⊢
  have zl := zLen x.d.zs
  refine fun_of_vc tabOk mixOk Try.func20 rfl (by rfl) (rs := [.tmp 2]) rfl rfl 34 ?_; rw [Try.ntmps20]
  (conv => whnf); repeat ((first | refine And.intro DrawOk.go ?_ | refine And.intro rfl ?_ | refine And.intro (fun _ => ?_) (fun h => Bool.noConfusion h) | refine And.intro (fun h => Bool.noConfusion h) (fun _ => ?_)); conv => whnf)
  refine vc_loop [1, 8] [1] (X := Nat × Int) (fun y gs => [(9, ATint y.1), (3, .v (i64V y.2))]) (fun y gs => []) (fun y => y.1 ≤ x.d.zs.length ∧ G y.1 = y.2) (fun y => x.d.zs.length - y.1) _ (Ghost.refl _) (0, 0) ⟨Nat.zero_le _, h0⟩ ?_ ?_
  · (refine And.intro rfl (And.intro rfl ?_)); (repeat' (first | exact trivial | exact rfl | apply And.intro | (refine congrArg (Value.int .i64) (w64_nat ?_); omega)))
  intro gs y hy
  obtain ⟨i, n⟩ := y
  have hi : i ≤ x.d.zs.length := hy.1
  have he : G i = n := hy.2
  clear hy
  have hs := hsu i
  rw [he] at hs
  have hci := hc i
  (conv => whnf); repeat ((first | refine And.intro DrawOk.go ?_ | refine And.intro rfl ?_ | refine And.intro (fun _ => ?_) (fun h => Bool.noConfusion h) | refine And.intro (fun h => Bool.noConfusion h) (fun _ => ?_)); conv => whnf)
  refine And.intro (fun h => ?_) (fun h => ?_)
  · have hlt : i < x.d.zs.length := by have := of_decide_eq_true h; omega
    clear hc hsu
    have hv1 := hvi (i : Int)
    generalize vcan x (i : Int) = b at hs hci hv1
    (conv => whnf); repeat ((first | refine And.intro DrawOk.go ?_ | refine And.intro rfl ?_ | refine And.intro (fun _ => ?_) (fun h => Bool.noConfusion h) | refine And.intro (fun h => Bool.noConfusion h) (fun _ => ?_)); conv => whnf)
    refine ⟨_, _, hci, ?_⟩
    cases b with
    | false =>
      rw [if_neg (by decide)] at hs
      (conv => whnf); repeat ((first | refine And.intro DrawOk.go ?_ | refine And.intro rfl ?_ | refine And.intro (fun _ => ?_) (fun h => Bool.noConfusion h) | refine And.intro (fun h => Bool.noConfusion h) (fun _ => ?_)); conv => whnf)
      refine again (i + 1, n) ⟨hlt, hs⟩ (by dsimp only; omega) ?_
      (refine And.intro rfl (And.intro rfl ?_)); (repeat' (first | exact trivial | exact rfl | apply And.intro | (refine congrArg (Value.int .i64) (w64_nat ?_); omega)))
    | true =>
      rw [if_pos rfl] at hs
      obtain ⟨k', e1', hk', e2'⟩ := hv1 rfl
      obtain rfl : i = k' := by omega
      rw [e2'] at hs
      have i2 := vItem hk'
      generalize x.lv[i] = v at i2 hs
      (conv => whnf); repeat ((first | refine And.intro DrawOk.go ?_ | refine And.intro rfl ?_ | refine And.intro (fun _ => ?_) (fun h => Bool.noConfusion h) | refine And.intro (fun h => Bool.noConfusion h) (fun _ => ?_)); conv => whnf)
      refine ⟨Int.natCast_nonneg _, _, i2, rfl, ?_⟩
      (conv => whnf); repeat ((first | refine And.intro DrawOk.go ?_ | refine And.intro rfl ?_ | refine And.intro (fun _ => ?_) (fun h => Bool.noConfusion h) | refine And.intro (fun h => Bool.noConfusion h) (fun _ => ?_)); conv => whnf)
      refine again (i + 1, _) ⟨hlt, hs⟩ (by dsimp only; omega) ?_
      (refine And.intro rfl (And.intro rfl ?_)); (repeat' (first | exact trivial | exact rfl | apply And.intro | (refine congrArg (Value.int .i64) (w64_nat ?_); omega)))
  · obtain rfl : i = x.d.zs.length := by have := of_decide_eq_false h; omega
    rw [he]
    (conv => whnf); repeat ((first | refine And.intro DrawOk.go ?_ | refine And.intro rfl ?_ | refine And.intro (fun _ => ?_) (fun h => Bool.noConfusion h) | refine And.intro (fun h => Bool.noConfusion h) (fun _ => ?_)); conv => whnf)
    refine Exists.intro [] (And.intro List.nodup_nil ?_); ((conv => whnf); repeat ((first | refine And.intro DrawOk.go ?_ | refine And.intro rfl ?_ | refine And.intro (fun _ => ?_) (fun h => Bool.noConfusion h) | refine And.intro (fun h => Bool.noConfusion h) (fun _ => ?_)); conv => whnf))
    rfl
set_option maxRecDepth 100000 in
set_option maxHeartbeats 32000000 in
theorem deadF' (x : Vs) (hz : x.zz.length ≤ 1000000) (hl : x.d.zs.length ≤ 1000000) : Fun Try.prog 75 [stA x] [] (.v (i64V (ddGo x x.d.zs.length))) := by
  have hc := fun (i : Nat) => vcanF' x i hz
  have hsu : ∀ i : Nat, ddGo x (i + 1) = if vcan x i = true then iwrap .i64 (iwrap .i64 (iwrap .i64 (ddGo x i + x.c.s) - 1) - lvAt x i) else ddGo x i := fun i => rfl
  have h0 : ddGo x 0 = 0 := rfl
  have hvi := fun (n : Int) => @vcan_in x n
  generalize ddGo x = G at hsu h0 ⊢
  have zl := zLen x.d.zs
  refine fun_of_vc tabOk mixOk Try.func75 rfl (by rfl) (rs := [.tmp 2]) rfl rfl 34 ?_; rw [Try.ntmps75]
  (conv => whnf); repeat ((first | refine And.intro DrawOk.go ?_ | refine And.intro rfl ?_ | refine And.intro (fun _ => ?_) (fun h => Bool.noConfusion h) | refine And.intro (fun h => Bool.noConfusion h) (fun _ => ?_)); conv => whnf)
  refine vc_loop [1] [1] (X := Nat × Int) (fun y gs => [(4, ATint y.1), (3, .v (i64V y.2))]) (fun y gs => []) (fun y => y.1 ≤ x.d.zs.length ∧ G y.1 = y.2) (fun y => x.d.zs.length - y.1) _ (Ghost.refl _) (0, 0) ⟨Nat.zero_le _, h0⟩ ?_ ?_
  · (refine And.intro rfl (And.intro rfl ?_)); (repeat' (first | exact trivial | exact rfl | apply And.intro | (refine congrArg (Value.int .i64) (w64_nat ?_); omega)))
  intro gs y hy
  obtain ⟨i, n⟩ := y
  have hi : i ≤ x.d.zs.length := hy.1
  have he : G i = n := hy.2
  clear hy
  have hs := hsu i
  rw [he] at hs
  have hci := hc i
  (conv => whnf); repeat ((first | refine And.intro DrawOk.go ?_ | refine And.intro rfl ?_ | refine And.intro (fun _ => ?_) (fun h => Bool.noConfusion h) | refine And.intro (fun h => Bool.noConfusion h) (fun _ => ?_)); conv => whnf)
  refine And.intro (fun h => ?_) (fun h => ?_)
  · have hlt : i < x.d.zs.length := by have := of_decide_eq_true h; omega
    clear hc hsu
    have hv1 := hvi (i : Int)
    generalize vcan x (i : Int) = b at hs hci hv1
    (conv => whnf); repeat ((first | refine And.intro DrawOk.go ?_ | refine And.intro rfl ?_ | refine And.intro (fun _ => ?_) (fun h => Bool.noConfusion h) | refine And.intro (fun h => Bool.noConfusion h) (fun _ => ?_)); conv => whnf)
    refine ⟨_, _, hci, ?_⟩
    cases b with
    | false =>
      rw [if_neg (by decide)] at hs
      (conv => whnf); repeat ((first | refine And.intro DrawOk.go ?_ | refine And.intro rfl ?_ | refine And.intro (fun _ => ?_) (fun h => Bool.noConfusion h) | refine And.intro (fun h => Bool.noConfusion h) (fun _ => ?_)); conv => whnf)
      refine again (i + 1, n) ⟨hlt, hs⟩ (by dsimp only; omega) ?_
      (refine And.intro rfl (And.intro rfl ?_)); (repeat' (first | exact trivial | exact rfl | apply And.intro | (refine congrArg (Value.int .i64) (w64_nat ?_); omega)))
    | true =>
      rw [if_pos rfl] at hs
      obtain ⟨k', e1', hk', e2'⟩ := hv1 rfl
      obtain rfl : i = k' := by omega
      rw [e2'] at hs
      have i2 := vItem hk'
      generalize x.lv[i] = v at i2 hs
      (conv => whnf); repeat ((first | refine And.intro DrawOk.go ?_ | refine And.intro rfl ?_ | refine And.intro (fun _ => ?_) (fun h => Bool.noConfusion h) | refine And.intro (fun h => Bool.noConfusion h) (fun _ => ?_)); conv => whnf)
      refine ⟨Int.natCast_nonneg _, _, i2, rfl, ?_⟩
      (conv => whnf); repeat ((first | refine And.intro DrawOk.go ?_ | refine And.intro rfl ?_ | refine And.intro (fun _ => ?_) (fun h => Bool.noConfusion h) | refine And.intro (fun h => Bool.noConfusion h) (fun _ => ?_)); conv => whnf)
      refine again (i + 1, _) ⟨hlt, hs⟩ (by dsimp only; omega) ?_
      (refine And.intro rfl (And.intro rfl ?_)); (repeat' (first | exact trivial | exact rfl | apply And.intro | (refine congrArg (Value.int .i64) (w64_nat ?_); omega)))
  · obtain rfl : i = x.d.zs.length := by have := of_decide_eq_false h; omega
    rw [he]
    (conv => whnf); repeat ((first | refine And.intro DrawOk.go ?_ | refine And.intro rfl ?_ | refine And.intro (fun _ => ?_) (fun h => Bool.noConfusion h) | refine And.intro (fun h => Bool.noConfusion h) (fun _ => ?_)); conv => whnf)
    refine Exists.intro [] (And.intro List.nodup_nil ?_); ((conv => whnf); repeat ((first | refine And.intro DrawOk.go ?_ | refine And.intro rfl ?_ | refine And.intro (fun _ => ?_) (fun h => Bool.noConfusion h) | refine And.intro (fun h => Bool.noConfusion h) (fun _ => ?_)); conv => whnf))
    rfl
end Go.Proofs.Ytijajfldpaadnaa.Ab
namespace Go.Proofs.Ytijajfldpaadnaa.Ab
set_option linter.unusedVariables false
set_option linter.unusedSimpArgs false
open Go.RowKit

def vused (d : Dv) (n : Int) : Int := if n < 0 then 0 else match d.zs[n.toNat]? with
  | none => 0
  | some z => if (z.ss.length : Int) = d.s then iwrap .i64 ((z.ss.length : Int) - 1) else z.ss.length
set_option maxRecDepth 100000 in
set_option maxHeartbeats 32000000 in
theorem vusedF (s mo ma : Int) (zs : List Zn) (n : Int) : Fun Try.prog 73 [dvA s mo ma zs, i64V n] [] (.v (i64V (vused ⟨s, mo, ma, zs⟩ n))) ∧ Fun Try.prog 74 [dvA s mo ma zs, i64V n] [] (.v (i64V (vused ⟨s, mo, ma, zs⟩ n))) := by
  have zl := zLen zs
  by_cases h : n < 0 ∨ n ≥ zs.length
  · have e : vused ⟨s, mo, ma, zs⟩ n = 0 := by
      unfold vused
      by_cases h0 : n < 0
      · rw [if_pos h0]
      · rw [if_neg h0, List.getElem?_eq_none (by dsimp only; omega)]
    rw [e]
    constructor
    · refine fun_of_vc tabOk mixOk Try.func73 rfl (by rfl) (rs := [.tmp 4]) rfl rfl 33 ?_; rw [Try.ntmps73]
      (conv => whnf); repeat ((first | refine And.intro DrawOk.go ?_ | refine And.intro rfl ?_ | refine And.intro (fun _ => ?_) (fun h => Bool.noConfusion h) | refine And.intro (fun h => Bool.noConfusion h) (fun _ => ?_)); conv => whnf)
      repeat' (first | ((refine And.intro (fun h => ?_) (fun h => ?_)) <;> (try simp at h) <;> ((conv => whnf); repeat ((first | refine And.intro DrawOk.go ?_ | refine And.intro rfl ?_ | refine And.intro (fun _ => ?_) (fun h => Bool.noConfusion h) | refine And.intro (fun h => Bool.noConfusion h) (fun _ => ?_)); conv => whnf))) | fail)
      all_goals first
        | (exfalso; omega)
        | (refine Exists.intro [] (And.intro List.nodup_nil ?_); ((conv => whnf); repeat ((first | refine And.intro DrawOk.go ?_ | refine And.intro rfl ?_ | refine And.intro (fun _ => ?_) (fun h => Bool.noConfusion h) | refine And.intro (fun h => Bool.noConfusion h) (fun _ => ?_)); conv => whnf))
           rfl)
    · refine fun_of_vc tabOk mixOk Try.func74 rfl (by rfl) (rs := [.tmp 4]) rfl rfl 34 ?_; rw [Try.ntmps74]
      (conv => whnf); repeat ((first | refine And.intro DrawOk.go ?_ | refine And.intro rfl ?_ | refine And.intro (fun _ => ?_) (fun h => Bool.noConfusion h) | refine And.intro (fun h => Bool.noConfusion h) (fun _ => ?_)); conv => whnf)
      repeat' (first | ((refine And.intro (fun h => ?_) (fun h => ?_)) <;> (try simp at h) <;> ((conv => whnf); repeat ((first | refine And.intro DrawOk.go ?_ | refine And.intro rfl ?_ | refine And.intro (fun _ => ?_) (fun h => Bool.noConfusion h) | refine And.intro (fun h => Bool.noConfusion h) (fun _ => ?_)); conv => whnf))) | fail)
      all_goals first
        | (exfalso; omega)
        | (refine Exists.intro [] (And.intro List.nodup_nil ?_); ((conv => whnf); repeat ((first | refine And.intro DrawOk.go ?_ | refine And.intro rfl ?_ | refine And.intro (fun _ => ?_) (fun h => Bool.noConfusion h) | refine And.intro (fun h => Bool.noConfusion h) (fun _ => ?_)); conv => whnf))
           rfl)
  obtain ⟨k, rfl⟩ : ∃ k : Nat, n = k := ⟨n.toNat, by omega⟩
  have hk : k < zs.length := by omega
  have e : vused ⟨s, mo, ma, zs⟩ (k : Int) = if (zs[k].ss.length : Int) = s then iwrap .i64 ((zs[k].ss.length : Int) - 1) else zs[k].ss.length := by
    unfold vused
    rw [if_neg (by omega), Int.toNat_natCast]
    dsimp only
    rw [List.getElem?_eq_getElem hk]
  rw [e]
  have hit := zItem hk
  generalize zs[k] = z at hit ⊢
  obtain ⟨st, du, ss⟩ := z
  replace hit : (zR zs)[((k : Int)).toNat]? = some [IV.sc (.int .i64 st), IV.sc (.int .i64 du), IV.sl (sV ss)] := hit
  dsimp only
  have sl := sLen ss
  have hk0 : (0 : Int) ≤ (k : Int) := Int.natCast_nonneg k
  clear e
  by_cases hs : (ss.length : Int) = s
  · rw [if_pos hs]
    subst hs
    constructor
    · refine fun_of_vc tabOk mixOk Try.func73 rfl (by rfl) (rs := [.tmp 4]) rfl rfl 33 ?_; rw [Try.ntmps73]
      (conv => whnf); repeat ((first | refine And.intro DrawOk.go ?_ | refine And.intro rfl ?_ | refine And.intro (fun _ => ?_) (fun h => Bool.noConfusion h) | refine And.intro (fun h => Bool.noConfusion h) (fun _ => ?_)); conv => whnf)
      repeat' (first | ((refine And.intro (fun h => ?_) (fun h => ?_)) <;> (try simp at h) <;> ((conv => whnf); repeat ((first | refine And.intro DrawOk.go ?_ | refine And.intro rfl ?_ | refine And.intro (fun _ => ?_) (fun h => Bool.noConfusion h) | refine And.intro (fun h => Bool.noConfusion h) (fun _ => ?_)); conv => whnf))) | (refine ⟨hk0, _, hit, rfl, ?_⟩; ((conv => whnf); repeat ((first | refine And.intro DrawOk.go ?_ | refine And.intro rfl ?_ | refine And.intro (fun _ => ?_) (fun h => Bool.noConfusion h) | refine And.intro (fun h => Bool.noConfusion h) (fun _ => ?_)); conv => whnf))) | fail)
      all_goals first
        | (exfalso; omega)
        | (refine Exists.intro [] (And.intro List.nodup_nil ?_); ((conv => whnf); repeat ((first | refine And.intro DrawOk.go ?_ | refine And.intro rfl ?_ | refine And.intro (fun _ => ?_) (fun h => Bool.noConfusion h) | refine And.intro (fun h => Bool.noConfusion h) (fun _ => ?_)); conv => whnf))
           rw [sl]
           rfl)
    · refine fun_of_vc tabOk mixOk Try.func74 rfl (by rfl) (rs := [.tmp 4]) rfl rfl 34 ?_; rw [Try.ntmps74]
      (conv => whnf); repeat ((first | refine And.intro DrawOk.go ?_ | refine And.intro rfl ?_ | refine And.intro (fun _ => ?_) (fun h => Bool.noConfusion h) | refine And.intro (fun h => Bool.noConfusion h) (fun _ => ?_)); conv => whnf)
      repeat' (first | ((refine And.intro (fun h => ?_) (fun h => ?_)) <;> (try simp at h) <;> ((conv => whnf); repeat ((first | refine And.intro DrawOk.go ?_ | refine And.intro rfl ?_ | refine And.intro (fun _ => ?_) (fun h => Bool.noConfusion h) | refine And.intro (fun h => Bool.noConfusion h) (fun _ => ?_)); conv => whnf))) | (refine ⟨hk0, _, hit, rfl, ?_⟩; ((conv => whnf); repeat ((first | refine And.intro DrawOk.go ?_ | refine And.intro rfl ?_ | refine And.intro (fun _ => ?_) (fun h => Bool.noConfusion h) | refine And.intro (fun h => Bool.noConfusion h) (fun _ => ?_)); conv => whnf))) | fail)
      all_goals first
        | (exfalso; omega)
        | (refine Exists.intro [] (And.intro List.nodup_nil ?_); ((conv => whnf); repeat ((first | refine And.intro DrawOk.go ?_ | refine And.intro rfl ?_ | refine And.intro (fun _ => ?_) (fun h => Bool.noConfusion h) | refine And.intro (fun h => Bool.noConfusion h) (fun _ => ?_)); conv => whnf))
           rfl)
  · rw [if_neg hs]
    constructor
    · refine fun_of_vc tabOk mixOk Try.func73 rfl (by rfl) (rs := [.tmp 4]) rfl rfl 33 ?_; rw [Try.ntmps73]
      (conv => whnf); repeat ((first | refine And.intro DrawOk.go ?_ | refine And.intro rfl ?_ | refine And.intro (fun _ => ?_) (fun h => Bool.noConfusion h) | refine And.intro (fun h => Bool.noConfusion h) (fun _ => ?_)); conv => whnf)
      repeat' (first | ((refine And.intro (fun h => ?_) (fun h => ?_)) <;> (try simp at h) <;> ((conv => whnf); repeat ((first | refine And.intro DrawOk.go ?_ | refine And.intro rfl ?_ | refine And.intro (fun _ => ?_) (fun h => Bool.noConfusion h) | refine And.intro (fun h => Bool.noConfusion h) (fun _ => ?_)); conv => whnf))) | (refine ⟨hk0, _, hit, rfl, ?_⟩; ((conv => whnf); repeat ((first | refine And.intro DrawOk.go ?_ | refine And.intro rfl ?_ | refine And.intro (fun _ => ?_) (fun h => Bool.noConfusion h) | refine And.intro (fun h => Bool.noConfusion h) (fun _ => ?_)); conv => whnf))) | fail)
      all_goals first
        | (exfalso; omega)
        | (refine Exists.intro [] (And.intro List.nodup_nil ?_); ((conv => whnf); repeat ((first | refine And.intro DrawOk.go ?_ | refine And.intro rfl ?_ | refine And.intro (fun _ => ?_) (fun h => Bool.noConfusion h) | refine And.intro (fun h => Bool.noConfusion h) (fun _ => ?_)); conv => whnf))
           rw [sl]
           rfl)
    · refine fun_of_vc tabOk mixOk Try.func74 rfl (by rfl) (rs := [.tmp 4]) rfl rfl 34 ?_; rw [Try.ntmps74]
      (conv => whnf); repeat ((first | refine And.intro DrawOk.go ?_ | refine And.intro rfl ?_ | refine And.intro (fun _ => ?_) (fun h => Bool.noConfusion h) | refine And.intro (fun h => Bool.noConfusion h) (fun _ => ?_)); conv => whnf)
      repeat' (first | ((refine And.intro (fun h => ?_) (fun h => ?_)) <;> (try simp at h) <;> ((conv => whnf); repeat ((first | refine And.intro DrawOk.go ?_ | refine And.intro rfl ?_ | refine And.intro (fun _ => ?_) (fun h => Bool.noConfusion h) | refine And.intro (fun h => Bool.noConfusion h) (fun _ => ?_)); conv => whnf))) | (refine ⟨hk0, _, hit, rfl, ?_⟩; ((conv => whnf); repeat ((first | refine And.intro DrawOk.go ?_ | refine And.intro rfl ?_ | refine And.intro (fun _ => ?_) (fun h => Bool.noConfusion h) | refine And.intro (fun h => Bool.noConfusion h) (fun _ => ?_)); conv => whnf))) | fail)
      all_goals first
        | (exfalso; omega)
        | (refine Exists.intro [] (And.intro List.nodup_nil ?_); ((conv => whnf); repeat ((first | refine And.intro DrawOk.go ?_ | refine And.intro rfl ?_ | refine And.intro (fun _ => ?_) (fun h => Bool.noConfusion h) | refine And.intro (fun h => Bool.noConfusion h) (fun _ => ?_)); conv => whnf))
           rw [sl]
           rfl)
set_option maxRecDepth 100000 in
set_option maxHeartbeats 32000000 in
theorem vagreeF (x : Vs) (n : Int) (hz : x.zz.length ≤ 1000000) (hl : x.d.zs.length ≤ 1000000) : Fun Try.prog 22 [stA x, i64V n] [] (ATbool true) := by
  have c1 := chooseF x hz hl
  have c2 := chooseF' x hz hl
  have a1 := vcanF x n hz
  have a2 := vcanF' x n hz
  have d1 := deadF x hz hl
  have d2 := deadF' x hz hl
  obtain ⟨u1, u2⟩ := vusedF x.d.s x.d.mo x.d.ma x.d.zs n
  generalize chGo x x.d.zs.length = C at c1 c2
  generalize vcan x n = B at a1 a2
  generalize ddGo x x.d.zs.length = D at d1 d2
  generalize vused ⟨x.d.s, x.d.mo, x.d.ma, x.d.zs⟩ n = U at u1 u2
  obtain ⟨ca, cb⟩ := C
  dsimp only at c1 c2
  refine fun_of_vc tabOk mixOk Try.func22 rfl (by rfl) (rs := [.tmp 4]) rfl rfl 58 ?_; rw [Try.ntmps22]
  (conv => whnf); repeat ((first | refine And.intro DrawOk.go ?_ | refine And.intro rfl ?_ | refine And.intro (fun _ => ?_) (fun h => Bool.noConfusion h) | refine And.intro (fun h => Bool.noConfusion h) (fun _ => ?_)); conv => whnf)
  repeat' (first | ((refine And.intro (fun h => ?_) (fun h => ?_)) <;> (try simp at h) <;> ((conv => whnf); repeat ((first | refine And.intro DrawOk.go ?_ | refine And.intro rfl ?_ | refine And.intro (fun _ => ?_) (fun h => Bool.noConfusion h) | refine And.intro (fun h => Bool.noConfusion h) (fun _ => ?_)); conv => whnf))) | (refine ⟨_, _, c1, ?_⟩; ((conv => whnf); repeat ((first | refine And.intro DrawOk.go ?_ | refine And.intro rfl ?_ | refine And.intro (fun _ => ?_) (fun h => Bool.noConfusion h) | refine And.intro (fun h => Bool.noConfusion h) (fun _ => ?_)); conv => whnf))) | (refine ⟨_, _, c2, ?_⟩; ((conv => whnf); repeat ((first | refine And.intro DrawOk.go ?_ | refine And.intro rfl ?_ | refine And.intro (fun _ => ?_) (fun h => Bool.noConfusion h) | refine And.intro (fun h => Bool.noConfusion h) (fun _ => ?_)); conv => whnf))) | (refine ⟨_, _, a1, ?_⟩; ((conv => whnf); repeat ((first | refine And.intro DrawOk.go ?_ | refine And.intro rfl ?_ | refine And.intro (fun _ => ?_) (fun h => Bool.noConfusion h) | refine And.intro (fun h => Bool.noConfusion h) (fun _ => ?_)); conv => whnf))) | (refine ⟨_, _, a2, ?_⟩; ((conv => whnf); repeat ((first | refine And.intro DrawOk.go ?_ | refine And.intro rfl ?_ | refine And.intro (fun _ => ?_) (fun h => Bool.noConfusion h) | refine And.intro (fun h => Bool.noConfusion h) (fun _ => ?_)); conv => whnf))) | (refine ⟨_, _, u1, ?_⟩; ((conv => whnf); repeat ((first | refine And.intro DrawOk.go ?_ | refine And.intro rfl ?_ | refine And.intro (fun _ => ?_) (fun h => Bool.noConfusion h) | refine And.intro (fun h => Bool.noConfusion h) (fun _ => ?_)); conv => whnf))) | (refine ⟨_, _, u2, ?_⟩; ((conv => whnf); repeat ((first | refine And.intro DrawOk.go ?_ | refine And.intro rfl ?_ | refine And.intro (fun _ => ?_) (fun h => Bool.noConfusion h) | refine And.intro (fun h => Bool.noConfusion h) (fun _ => ?_)); conv => whnf))) | (refine ⟨_, _, d1, ?_⟩; ((conv => whnf); repeat ((first | refine And.intro DrawOk.go ?_ | refine And.intro rfl ?_ | refine And.intro (fun _ => ?_) (fun h => Bool.noConfusion h) | refine And.intro (fun h => Bool.noConfusion h) (fun _ => ?_)); conv => whnf))) | (refine ⟨_, _, d2, ?_⟩; ((conv => whnf); repeat ((first | refine And.intro DrawOk.go ?_ | refine And.intro rfl ?_ | refine And.intro (fun _ => ?_) (fun h => Bool.noConfusion h) | refine And.intro (fun h => Bool.noConfusion h) (fun _ => ?_)); conv => whnf))) | fail)
  all_goals first
    | (refine Exists.intro [] (And.intro List.nodup_nil ?_); ((conv => whnf); repeat ((first | refine And.intro DrawOk.go ?_ | refine And.intro rfl ?_ | refine And.intro (fun _ => ?_) (fun h => Bool.noConfusion h) | refine And.intro (fun h => Bool.noConfusion h) (fun _ => ?_)); conv => whnf))
       rfl)
    | (refine Exists.intro [] (And.intro List.nodup_nil ?_); ((conv => whnf); repeat ((first | refine And.intro DrawOk.go ?_ | refine And.intro rfl ?_ | refine And.intro (fun _ => ?_) (fun h => Bool.noConfusion h) | refine And.intro (fun h => Bool.noConfusion h) (fun _ => ?_)); conv => whnf))
       rw [beq_self_eq_true]
       rfl)
end Go.Proofs.Ytijajfldpaadnaa.Ab
