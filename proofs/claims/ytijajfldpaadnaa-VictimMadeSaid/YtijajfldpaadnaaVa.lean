/- Victims: the state, which zones can be victims. No condition. -/
import Derived.Test.YtijajfldpaadnaaEe
import Derived.Test.YtijajfldpaadnaaPb
import Derived.Test.YtijajfldpaadnaaDa
namespace Go.Proofs.Ytijajfldpaadnaa.Ab
set_option linter.unusedVariables false
set_option linter.unusedSimpArgs false
open Go.RowKit

/-- What the functions look at. -/
structure Vs where
  c : Cf
  d : Dv
  lv : List Int
  pn : List Int
  g : Int
  pp : List Int
  zz : List (Int × Int)
  h : Int
  cl : Int
def sc0 : AV1 := .i (.sc (.int .i64 0))
/-- The cells of a state. -/
def stC (c : Cf) (s mo ma : Int) (zo lv pn : AV1) (g : Int) (pp zz : AV1) (h cl : Int) (n : AV1) : List AV1 :=
  [.i (.sc (.int .i64 c.z)), .i (.sc (.int .i64 c.s)), .i (.sc (.int .i64 c.b)), .i (.sc (.int .i64 c.q)), .i (.sc (.int .i64 c.d)), .i (.sc (.int .i64 c.h)),
   .i (.sc (.int .i64 s)), .i (.sc (.int .i64 mo)), .i (.sc (.int .i64 ma)), zo, n, lv, pn, n, .i (.sc (.int .i64 g)), pp, zz, n, .i (.sc (.int .i64 h)), .i (.sc (.int .i64 cl)), n, n,
   .i (.sc (.int .i64 0)), .i (.sc (.int .i64 0)), .i (.sc (.int .i64 0)), .i (.sc (.int .i64 0)), .i (.sc (.int .i64 0)), .i (.sc (.int .i64 0)), .i (.sc (.int .i64 0)), .i (.sc (.int .i64 0)), .i (.sc (.int .i64 0)), .i (.sc (.int .i64 0)), .i (.sc (.int .i64 0)),
   .i (.sc (.int .i64 0)), .i (.sc (.int .i64 0)), .i (.sc (.int .i64 0)), .i (.sc (.int .i64 0)), .i (.sc (.int .i64 0)), .i (.sc (.int .i64 0)), n, n,
   .i (.sc (.int .i64 0)), .i (.sc (.int .i64 0)), .i (.sc (.int .i64 0)), .i (.sc (.int .i64 0)), .i (.sc (.bool false)), .i (.sc (.bool false)), n]
def stL (x : Vs) : List AV1 := stC x.c x.d.s x.d.mo x.d.ma (.i (.sl (zR x.d.zs))) (.i (.sl (wV x.lv))) (.i (.sl (wV x.pn))) x.g (.i (.sl (wV x.pp))) (.i (.sl (zpR x.zz))) x.h x.cl (.i (.sl []))
def stA (x : Vs) : AV := .agg (stL x)
def stI (x : Vs) : List IV :=
  [.sc (.int .i64 x.c.z), .sc (.int .i64 x.c.s), .sc (.int .i64 x.c.b), .sc (.int .i64 x.c.q), .sc (.int .i64 x.c.d), .sc (.int .i64 x.c.h),
   .sc (.int .i64 x.d.s), .sc (.int .i64 x.d.mo), .sc (.int .i64 x.d.ma), .sl (zR x.d.zs), .sl [], .sl (wV x.lv), .sl (wV x.pn), .sl [], .sc (.int .i64 x.g), .sl (wV x.pp), .sl (zpR x.zz), .sl [], .sc (.int .i64 x.h), .sc (.int .i64 x.cl), .sl [], .sl [],
   .sc (.int .i64 0), .sc (.int .i64 0), .sc (.int .i64 0), .sc (.int .i64 0), .sc (.int .i64 0), .sc (.int .i64 0), .sc (.int .i64 0), .sc (.int .i64 0), .sc (.int .i64 0), .sc (.int .i64 0), .sc (.int .i64 0),
   .sc (.int .i64 0), .sc (.int .i64 0), .sc (.int .i64 0), .sc (.int .i64 0), .sc (.int .i64 0), .sc (.int .i64 0), .sl [], .sl [],
   .sc (.int .i64 0), .sc (.int .i64 0), .sc (.int .i64 0), .sc (.int .i64 0), .sc (.bool false), .sc (.bool false), .sl []]
def vcan (x : Vs) (n : Int) : Bool := isData x.c n && match x.d.zs[n.toNat]?, x.lv[n.toNat]?, x.pn[n.toNat]? with
  | some z, some l, some p => decide (z.st = 4 ∧ p = 0 ∧ n ≠ x.h ∧ n ≠ x.cl) && (!(x.zz.any (znB n)) && decide (l < iwrap .i64 (x.c.s - 1)))
  | _, _, _ => false
theorem isData_nn {c : Cf} {n : Int} (h : isData c n = true) : 0 ≤ n ∧ n < c.z ∧ c.z ≤ 32 := by
  unfold isData at h
  obtain ⟨h1, h2, h3⟩ := of_decide_eq_true h
  have hok : cfOk c = true := by
    unfold cfChk at h1
    split at h1
    · assumption
    · cases h1
  obtain ⟨b1, b2, b3, _⟩ := cfOk_iff.1 hok
  have hs : 0 ≤ lySlot c ∧ lySlot c ≤ 1000 := by
    unfold lySlot
    rw [show iwrap .i64 (c.b + 2) = c.b + 2 from w64_in (by omega), show iwrap .i64 (c.b + 2 + c.s) = c.b + 2 + c.s from w64_in (by omega), show iwrap .i64 (c.b + 2 + c.s - 1) = c.b + 2 + c.s - 1 from w64_in (by omega)]
    have e1 : 0 ≤ Int.tdiv (c.b + 2 + c.s - 1) c.s := Int.tdiv_nonneg (by omega) (by omega)
    have e2 : Int.tdiv (c.b + 2 + c.s - 1) c.s ≤ c.b + 2 + c.s - 1 := Int.tdiv_le_self _ (by omega)
    rw [show iwrap .i64 (Int.tdiv (c.b + 2 + c.s - 1) c.s) = Int.tdiv (c.b + 2 + c.s - 1) c.s from w64_in (by omega)]
    omega
  have hf : lyFirst c = 2 * lySlot c := w64_in (by omega)
  omega
theorem vcan_no {x : Vs} {n : Int} (h : isData x.c n = false) : vcan x n = false := by unfold vcan; rw [h]; rfl
theorem vcan_out {x : Vs} {k : Nat} (h : ¬ (k < x.d.zs.length ∧ k < x.lv.length ∧ k < x.pn.length)) : vcan x (k : Int) = false := by
  unfold vcan
  rw [Int.toNat_natCast]
  split
  · rename_i h1 h2 h3
    exact absurd ⟨(List.getElem?_eq_some_iff.1 h1).1, (List.getElem?_eq_some_iff.1 h2).1, (List.getElem?_eq_some_iff.1 h3).1⟩ h
  · exact Bool.and_false _
theorem vcan_at {x : Vs} {k : Nat} (hd : isData x.c (k : Int) = true) (h1 : k < x.d.zs.length) (h2 : k < x.lv.length) (h3 : k < x.pn.length) :
    vcan x (k : Int) = (decide (x.d.zs[k].st = 4 ∧ x.pn[k] = 0 ∧ (k : Int) ≠ x.h ∧ (k : Int) ≠ x.cl) && (!(x.zz.any (znB (k : Int))) && decide (x.lv[k] < iwrap .i64 (x.c.s - 1)))) := by
  unfold vcan
  rw [Int.toNat_natCast, List.getElem?_eq_getElem h1, List.getElem?_eq_getElem h2, List.getElem?_eq_getElem h3, hd]
  rfl
theorem vLen (z : List Int) : (wV z).length = z.length := by simp [wV]
theorem vItem {z : List Int} {k : Nat} (h : k < z.length) : (wV z)[((k : Int)).toNat]? = some [.sc (.int .i64 z[k])] := by simp [wV, h]
set_option maxRecDepth 100000 in
set_option maxHeartbeats 32000000 in
theorem vcanF (x : Vs) (n : Int) (hz : x.zz.length ≤ 1000000) : Fun Try.prog 19 [stA x, i64V n] [] (ATbool (vcan x n)) := by
  have hdF := isDataF x.c n
  obtain ⟨⟨cz, cs, cb, cq, cd, ch⟩, ⟨ds, dmo, dma, zs⟩, lv, pn, g, pp, zz, h, cl⟩ := x
  dsimp only at hz hdF
  by_cases hd : isData ⟨cz, cs, cb, cq, cd, ch⟩ n = true
  rotate_left
  · rw [Bool.not_eq_true] at hd
    rw [vcan_no hd]
    rw [hd] at hdF
    simp only [stA, stL, stC]
    refine fun_of_vc tabOk mixOk Try.func19 rfl (by rfl) (rs := [.tmp 4]) rfl rfl 95 ?_; rw [Try.ntmps19]
    (conv => whnf); repeat (first | (refine And.intro DrawOk.go ?_; conv => whnf) | (refine And.intro rfl ?_; conv => whnf) | (refine And.intro (fun _ => ?_) (fun h => Bool.noConfusion h); conv => whnf) | (refine And.intro (fun h => Bool.noConfusion h) (fun _ => ?_); conv => whnf))
    refine ⟨_, _, hdF, ?_⟩
    (conv => whnf); repeat (first | (refine And.intro DrawOk.go ?_; conv => whnf) | (refine And.intro rfl ?_; conv => whnf) | (refine And.intro (fun _ => ?_) (fun h => Bool.noConfusion h); conv => whnf) | (refine And.intro (fun h => Bool.noConfusion h) (fun _ => ?_); conv => whnf))
    refine Exists.intro [] (And.intro List.nodup_nil ?_); ((conv => whnf); repeat (first | (refine And.intro DrawOk.go ?_; conv => whnf) | (refine And.intro rfl ?_; conv => whnf) | (refine And.intro (fun _ => ?_) (fun h => Bool.noConfusion h); conv => whnf) | (refine And.intro (fun h => Bool.noConfusion h) (fun _ => ?_); conv => whnf)))
    rfl
  obtain ⟨hn0, hn1, hn2⟩ := isData_nn hd
  dsimp only at hn1 hn2
  obtain ⟨k, rfl⟩ : ∃ k : Nat, n = k := ⟨n.toNat, by omega⟩
  have l1 := zLen zs
  have l2 := vLen lv
  have l3 := vLen pn
  by_cases hin : k < zs.length ∧ k < lv.length ∧ k < pn.length
  rotate_left
  · rw [vcan_out (x := ⟨⟨cz, cs, cb, cq, cd, ch⟩, ⟨ds, dmo, dma, zs⟩, lv, pn, g, pp, zz, h, cl⟩) hin]
    rw [hd] at hdF
    simp only [stA, stL, stC]
    refine fun_of_vc tabOk mixOk Try.func19 rfl (by rfl) (rs := [.tmp 4]) rfl rfl 95 ?_; rw [Try.ntmps19]
    (conv => whnf); repeat (first | (refine And.intro DrawOk.go ?_; conv => whnf) | (refine And.intro rfl ?_; conv => whnf) | (refine And.intro (fun _ => ?_) (fun h => Bool.noConfusion h); conv => whnf) | (refine And.intro (fun h => Bool.noConfusion h) (fun _ => ?_); conv => whnf))
    repeat' (first | ((refine And.intro (fun h => ?_) (fun h => ?_)) <;> (try simp at h) <;> ((conv => whnf); repeat (first | (refine And.intro DrawOk.go ?_; conv => whnf) | (refine And.intro rfl ?_; conv => whnf) | (refine And.intro (fun _ => ?_) (fun h => Bool.noConfusion h); conv => whnf) | (refine And.intro (fun h => Bool.noConfusion h) (fun _ => ?_); conv => whnf)))) | (refine ⟨_, _, hdF, ?_⟩; ((conv => whnf); repeat (first | (refine And.intro DrawOk.go ?_; conv => whnf) | (refine And.intro rfl ?_; conv => whnf) | (refine And.intro (fun _ => ?_) (fun h => Bool.noConfusion h); conv => whnf) | (refine And.intro (fun h => Bool.noConfusion h) (fun _ => ?_); conv => whnf)))) | fail)
    all_goals first
      | (exfalso; omega)
      | (refine Exists.intro [] (And.intro List.nodup_nil ?_); ((conv => whnf); repeat (first | (refine And.intro DrawOk.go ?_; conv => whnf) | (refine And.intro rfl ?_; conv => whnf) | (refine And.intro (fun _ => ?_) (fun h => Bool.noConfusion h); conv => whnf) | (refine And.intro (fun h => Bool.noConfusion h) (fun _ => ?_); conv => whnf)))
         rfl)
  obtain ⟨k1, k2, k3⟩ := hin
  have hv := vcan_at (x := ⟨⟨cz, cs, cb, cq, cd, ch⟩, ⟨ds, dmo, dma, zs⟩, lv, pn, g, pp, zz, h, cl⟩) hd k1 k2 k3
  dsimp only at hv
  rw [hv]
  rw [hd] at hdF
  have i1 := zItem k1
  have i2 := vItem k2
  have i3 := vItem k3
  have hk0 : (0 : Int) ≤ (k : Int) := Int.natCast_nonneg k
  generalize zs[k] = z at i1 ⊢
  generalize lv[k] = l at i2 ⊢
  generalize pn[k] = p at i3 ⊢
  obtain ⟨st, du, ss⟩ := z
  dsimp only
  replace i1 : (zR zs)[((k : Int)).toNat]? = some [IV.sc (.int .i64 st), IV.sc (.int .i64 du), IV.sl (sV ss)] := i1
  by_cases hq : st = 4 ∧ p = 0 ∧ (k : Int) ≠ h ∧ (k : Int) ≠ cl
  rotate_left
  · rw [decide_eq_false hq, Bool.false_and]
    simp only [stA, stL, stC]
    refine fun_of_vc tabOk mixOk Try.func19 rfl (by rfl) (rs := [.tmp 4]) rfl rfl 95 ?_; rw [Try.ntmps19]
    (conv => whnf); repeat (first | (refine And.intro DrawOk.go ?_; conv => whnf) | (refine And.intro rfl ?_; conv => whnf) | (refine And.intro (fun _ => ?_) (fun h => Bool.noConfusion h); conv => whnf) | (refine And.intro (fun h => Bool.noConfusion h) (fun _ => ?_); conv => whnf))
    repeat' (first | ((refine And.intro (fun h => ?_) (fun h => ?_)) <;> (try simp at h) <;> ((conv => whnf); repeat (first | (refine And.intro DrawOk.go ?_; conv => whnf) | (refine And.intro rfl ?_; conv => whnf) | (refine And.intro (fun _ => ?_) (fun h => Bool.noConfusion h); conv => whnf) | (refine And.intro (fun h => Bool.noConfusion h) (fun _ => ?_); conv => whnf)))) | (refine ⟨_, _, hdF, ?_⟩; ((conv => whnf); repeat (first | (refine And.intro DrawOk.go ?_; conv => whnf) | (refine And.intro rfl ?_; conv => whnf) | (refine And.intro (fun _ => ?_) (fun h => Bool.noConfusion h); conv => whnf) | (refine And.intro (fun h => Bool.noConfusion h) (fun _ => ?_); conv => whnf)))) | (refine ⟨hk0, _, i1, rfl, ?_⟩; ((conv => whnf); repeat (first | (refine And.intro DrawOk.go ?_; conv => whnf) | (refine And.intro rfl ?_; conv => whnf) | (refine And.intro (fun _ => ?_) (fun h => Bool.noConfusion h); conv => whnf) | (refine And.intro (fun h => Bool.noConfusion h) (fun _ => ?_); conv => whnf)))) | (refine ⟨hk0, _, i3, rfl, ?_⟩; ((conv => whnf); repeat (first | (refine And.intro DrawOk.go ?_; conv => whnf) | (refine And.intro rfl ?_; conv => whnf) | (refine And.intro (fun _ => ?_) (fun h => Bool.noConfusion h); conv => whnf) | (refine And.intro (fun h => Bool.noConfusion h) (fun _ => ?_); conv => whnf)))) | fail)
    all_goals first
      | (exfalso; omega)
      | (refine Exists.intro [] (And.intro List.nodup_nil ?_); ((conv => whnf); repeat (first | (refine And.intro DrawOk.go ?_; conv => whnf) | (refine And.intro rfl ?_; conv => whnf) | (refine And.intro (fun _ => ?_) (fun h => Bool.noConfusion h); conv => whnf) | (refine And.intro (fun h => Bool.noConfusion h) (fun _ => ?_); conv => whnf)))
         rfl)
  rw [decide_eq_true hq, Bool.true_and]
  obtain ⟨q1, q2, q3, q4⟩ := hq
  have zl := zpLen zz
  simp only [stA, stL, stC]
  refine fun_of_vc tabOk mixOk Try.func19 rfl (by rfl) (rs := [.tmp 4]) rfl rfl 95 ?_; rw [Try.ntmps19]
  (conv => whnf); repeat (first | (refine And.intro DrawOk.go ?_; conv => whnf) | (refine And.intro rfl ?_; conv => whnf) | (refine And.intro (fun _ => ?_) (fun h => Bool.noConfusion h); conv => whnf) | (refine And.intro (fun h => Bool.noConfusion h) (fun _ => ?_); conv => whnf))
  repeat' (first | ((refine And.intro (fun h => ?_) (fun h => ?_)) <;> (try simp at h) <;> ((conv => whnf); repeat (first | (refine And.intro DrawOk.go ?_; conv => whnf) | (refine And.intro rfl ?_; conv => whnf) | (refine And.intro (fun _ => ?_) (fun h => Bool.noConfusion h); conv => whnf) | (refine And.intro (fun h => Bool.noConfusion h) (fun _ => ?_); conv => whnf)))) | (refine ⟨_, _, hdF, ?_⟩; ((conv => whnf); repeat (first | (refine And.intro DrawOk.go ?_; conv => whnf) | (refine And.intro rfl ?_; conv => whnf) | (refine And.intro (fun _ => ?_) (fun h => Bool.noConfusion h); conv => whnf) | (refine And.intro (fun h => Bool.noConfusion h) (fun _ => ?_); conv => whnf)))) | (refine ⟨hk0, _, i1, rfl, ?_⟩; ((conv => whnf); repeat (first | (refine And.intro DrawOk.go ?_; conv => whnf) | (refine And.intro rfl ?_; conv => whnf) | (refine And.intro (fun _ => ?_) (fun h => Bool.noConfusion h); conv => whnf) | (refine And.intro (fun h => Bool.noConfusion h) (fun _ => ?_); conv => whnf)))) | (refine ⟨hk0, _, i3, rfl, ?_⟩; ((conv => whnf); repeat (first | (refine And.intro DrawOk.go ?_; conv => whnf) | (refine And.intro rfl ?_; conv => whnf) | (refine And.intro (fun _ => ?_) (fun h => Bool.noConfusion h); conv => whnf) | (refine And.intro (fun h => Bool.noConfusion h) (fun _ => ?_); conv => whnf)))) | fail)
  all_goals first
    | (exfalso; omega)
    | skip
  all_goals
    refine vc_loop [1, 2, 69, 70] [2] (X := Nat) (fun i gs => [(71, ATint i)]) (fun _ _ => []) (fun i => i ≤ zz.length ∧ zz.any (znB (k : Int)) = (zz.drop i).any (znB (k : Int))) (fun i => zz.length - i) _ (Ghost.refl _) 0 ⟨Nat.zero_le _, rfl⟩ ?_ ?_
    · ((refine And.intro rfl (And.intro rfl ?_)); (repeat' (first | exact trivial | exact rfl | apply And.intro | (refine congrArg (Value.int .i64) (w64_nat ?_); omega))))
    rintro gs i ⟨hi, ha⟩
    ((conv => whnf); repeat (first | (refine And.intro DrawOk.go ?_; conv => whnf) | (refine And.intro rfl ?_; conv => whnf) | (refine And.intro (fun _ => ?_) (fun h => Bool.noConfusion h); conv => whnf) | (refine And.intro (fun h => Bool.noConfusion h) (fun _ => ?_); conv => whnf)))
    refine And.intro (fun h4 => ?_) (fun h4 => ?_)
    · have hlt : i < zz.length := by have := of_decide_eq_true h4; omega
      rw [List.drop_eq_getElem_cons hlt, List.any_cons] at ha
      have hit := zpItem hlt
      generalize zz[i] = y at ha hit
      obtain ⟨y1, y2⟩ := y
      replace hit : (zpR zz)[((i : Int)).toNat]? = some [IV.sc (.int .i64 y1), IV.sc (.int .i64 y2)] := hit
      ((conv => whnf); repeat (first | (refine And.intro DrawOk.go ?_; conv => whnf) | (refine And.intro rfl ?_; conv => whnf) | (refine And.intro (fun _ => ?_) (fun h => Bool.noConfusion h); conv => whnf) | (refine And.intro (fun h => Bool.noConfusion h) (fun _ => ?_); conv => whnf)))
      refine ⟨Int.natCast_nonneg i, _, hit, rfl, ?_⟩
      ((conv => whnf); repeat (first | (refine And.intro DrawOk.go ?_; conv => whnf) | (refine And.intro rfl ?_; conv => whnf) | (refine And.intro (fun _ => ?_) (fun h => Bool.noConfusion h); conv => whnf) | (refine And.intro (fun h => Bool.noConfusion h) (fun _ => ?_); conv => whnf)))
      refine And.intro (fun h5 => ?_) (fun h5 => ?_)
      · ((conv => whnf); repeat (first | (refine And.intro DrawOk.go ?_; conv => whnf) | (refine And.intro rfl ?_; conv => whnf) | (refine And.intro (fun _ => ?_) (fun h => Bool.noConfusion h); conv => whnf) | (refine And.intro (fun h => Bool.noConfusion h) (fun _ => ?_); conv => whnf)))
        refine Exists.intro [] (And.intro List.nodup_nil ?_); ((conv => whnf); repeat (first | (refine And.intro DrawOk.go ?_; conv => whnf) | (refine And.intro rfl ?_; conv => whnf) | (refine And.intro (fun _ => ?_) (fun h => Bool.noConfusion h); conv => whnf) | (refine And.intro (fun h => Bool.noConfusion h) (fun _ => ?_); conv => whnf)))
        rw [ha, show znB (k : Int) (y1, y2) = true from h5]; rfl
      · ((conv => whnf); repeat (first | (refine And.intro DrawOk.go ?_; conv => whnf) | (refine And.intro rfl ?_; conv => whnf) | (refine And.intro (fun _ => ?_) (fun h => Bool.noConfusion h); conv => whnf) | (refine And.intro (fun h => Bool.noConfusion h) (fun _ => ?_); conv => whnf)))
        refine again (i + 1) ⟨hlt, ?_⟩ (by omega) ?_
        · rw [ha, show znB (k : Int) (y1, y2) = false from h5, Bool.false_or]
        · ((refine And.intro rfl (And.intro rfl ?_)); (repeat' (first | exact trivial | exact rfl | apply And.intro | (refine congrArg (Value.int .i64) (w64_nat ?_); omega))))
    · have hge : ¬ i < zz.length := by have := of_decide_eq_false h4; omega
      rw [List.drop_of_length_le (by omega)] at ha
      rw [ha]
      ((conv => whnf); repeat (first | (refine And.intro DrawOk.go ?_; conv => whnf) | (refine And.intro rfl ?_; conv => whnf) | (refine And.intro (fun _ => ?_) (fun h => Bool.noConfusion h); conv => whnf) | (refine And.intro (fun h => Bool.noConfusion h) (fun _ => ?_); conv => whnf)))
      refine ⟨hk0, _, i2, rfl, ?_⟩
      ((conv => whnf); repeat (first | (refine And.intro DrawOk.go ?_; conv => whnf) | (refine And.intro rfl ?_; conv => whnf) | (refine And.intro (fun _ => ?_) (fun h => Bool.noConfusion h); conv => whnf) | (refine And.intro (fun h => Bool.noConfusion h) (fun _ => ?_); conv => whnf)))
      refine Exists.intro [] (And.intro List.nodup_nil ?_); ((conv => whnf); repeat (first | (refine And.intro DrawOk.go ?_; conv => whnf) | (refine And.intro rfl ?_; conv => whnf) | (refine And.intro (fun _ => ?_) (fun h => Bool.noConfusion h); conv => whnf) | (refine And.intro (fun h => Bool.noConfusion h) (fun _ => ?_); conv => whnf)))
      rfl
set_option maxRecDepth 100000 in
set_option maxHeartbeats 32000000 in
theorem vcanF' (x : Vs) (n : Int) (hz : x.zz.length ≤ 1000000) : Fun Try.prog 72 [stA x, i64V n] [] (ATbool (vcan x n)) := by
  have hdF := isDataF' x.c n
  have hrt := isRetF x.g x.pp x.zz hz n
  obtain ⟨⟨cz, cs, cb, cq, cd, ch⟩, ⟨ds, dmo, dma, zs⟩, lv, pn, g, pp, zz, h, cl⟩ := x
  dsimp only at hz hdF hrt
  by_cases hd : isData ⟨cz, cs, cb, cq, cd, ch⟩ n = true
  rotate_left
  · rw [Bool.not_eq_true] at hd
    rw [vcan_no hd]
    rw [hd] at hdF
    simp only [stA, stL, stC]
    refine fun_of_vc tabOk mixOk Try.func72 rfl (by rfl) (rs := [.tmp 4]) rfl rfl 89 ?_; rw [Try.ntmps72]
    (conv => whnf); repeat (first | (refine And.intro DrawOk.go ?_; conv => whnf) | (refine And.intro rfl ?_; conv => whnf) | (refine And.intro (fun _ => ?_) (fun h => Bool.noConfusion h); conv => whnf) | (refine And.intro (fun h => Bool.noConfusion h) (fun _ => ?_); conv => whnf))
    refine ⟨_, _, hdF, ?_⟩
    (conv => whnf); repeat (first | (refine And.intro DrawOk.go ?_; conv => whnf) | (refine And.intro rfl ?_; conv => whnf) | (refine And.intro (fun _ => ?_) (fun h => Bool.noConfusion h); conv => whnf) | (refine And.intro (fun h => Bool.noConfusion h) (fun _ => ?_); conv => whnf))
    refine Exists.intro [] (And.intro List.nodup_nil ?_); ((conv => whnf); repeat (first | (refine And.intro DrawOk.go ?_; conv => whnf) | (refine And.intro rfl ?_; conv => whnf) | (refine And.intro (fun _ => ?_) (fun h => Bool.noConfusion h); conv => whnf) | (refine And.intro (fun h => Bool.noConfusion h) (fun _ => ?_); conv => whnf)))
    rfl
  obtain ⟨hn0, hn1, hn2⟩ := isData_nn hd
  dsimp only at hn1 hn2
  obtain ⟨k, rfl⟩ : ∃ k : Nat, n = k := ⟨n.toNat, by omega⟩
  have l1 := zLen zs
  have l2 := vLen lv
  have l3 := vLen pn
  by_cases hin : k < zs.length ∧ k < lv.length ∧ k < pn.length
  rotate_left
  · rw [vcan_out (x := ⟨⟨cz, cs, cb, cq, cd, ch⟩, ⟨ds, dmo, dma, zs⟩, lv, pn, g, pp, zz, h, cl⟩) hin]
    rw [hd] at hdF
    simp only [stA, stL, stC]
    refine fun_of_vc tabOk mixOk Try.func72 rfl (by rfl) (rs := [.tmp 4]) rfl rfl 89 ?_; rw [Try.ntmps72]
    (conv => whnf); repeat (first | (refine And.intro DrawOk.go ?_; conv => whnf) | (refine And.intro rfl ?_; conv => whnf) | (refine And.intro (fun _ => ?_) (fun h => Bool.noConfusion h); conv => whnf) | (refine And.intro (fun h => Bool.noConfusion h) (fun _ => ?_); conv => whnf))
    repeat' (first | ((refine And.intro (fun h => ?_) (fun h => ?_)) <;> (try simp at h) <;> ((conv => whnf); repeat (first | (refine And.intro DrawOk.go ?_; conv => whnf) | (refine And.intro rfl ?_; conv => whnf) | (refine And.intro (fun _ => ?_) (fun h => Bool.noConfusion h); conv => whnf) | (refine And.intro (fun h => Bool.noConfusion h) (fun _ => ?_); conv => whnf)))) | (refine ⟨_, _, hdF, ?_⟩; ((conv => whnf); repeat (first | (refine And.intro DrawOk.go ?_; conv => whnf) | (refine And.intro rfl ?_; conv => whnf) | (refine And.intro (fun _ => ?_) (fun h => Bool.noConfusion h); conv => whnf) | (refine And.intro (fun h => Bool.noConfusion h) (fun _ => ?_); conv => whnf)))) | fail)
    all_goals first
      | (exfalso; omega)
      | (refine Exists.intro [] (And.intro List.nodup_nil ?_); ((conv => whnf); repeat (first | (refine And.intro DrawOk.go ?_; conv => whnf) | (refine And.intro rfl ?_; conv => whnf) | (refine And.intro (fun _ => ?_) (fun h => Bool.noConfusion h); conv => whnf) | (refine And.intro (fun h => Bool.noConfusion h) (fun _ => ?_); conv => whnf)))
         rfl)
  obtain ⟨k1, k2, k3⟩ := hin
  have hv := vcan_at (x := ⟨⟨cz, cs, cb, cq, cd, ch⟩, ⟨ds, dmo, dma, zs⟩, lv, pn, g, pp, zz, h, cl⟩) hd k1 k2 k3
  dsimp only at hv
  rw [hv]
  rw [hd] at hdF
  have i1 := zItem k1
  have i2 := vItem k2
  have i3 := vItem k3
  have hk0 : (0 : Int) ≤ (k : Int) := Int.natCast_nonneg k
  generalize zs[k] = z at i1 ⊢
  generalize lv[k] = l at i2 ⊢
  generalize pn[k] = p at i3 ⊢
  obtain ⟨st, du, ss⟩ := z
  dsimp only
  replace i1 : (zR zs)[((k : Int)).toNat]? = some [IV.sc (.int .i64 st), IV.sc (.int .i64 du), IV.sl (sV ss)] := i1
  generalize zz.any (znB (k : Int)) = R at hrt ⊢
  by_cases hq : st = 4 ∧ p = 0 ∧ (k : Int) ≠ h ∧ (k : Int) ≠ cl
  rotate_left
  · rw [decide_eq_false hq, Bool.false_and]
    simp only [stA, stL, stC]
    refine fun_of_vc tabOk mixOk Try.func72 rfl (by rfl) (rs := [.tmp 4]) rfl rfl 89 ?_; rw [Try.ntmps72]
    (conv => whnf); repeat (first | (refine And.intro DrawOk.go ?_; conv => whnf) | (refine And.intro rfl ?_; conv => whnf) | (refine And.intro (fun _ => ?_) (fun h => Bool.noConfusion h); conv => whnf) | (refine And.intro (fun h => Bool.noConfusion h) (fun _ => ?_); conv => whnf))
    repeat' (first | ((refine And.intro (fun h => ?_) (fun h => ?_)) <;> (try simp at h) <;> ((conv => whnf); repeat (first | (refine And.intro DrawOk.go ?_; conv => whnf) | (refine And.intro rfl ?_; conv => whnf) | (refine And.intro (fun _ => ?_) (fun h => Bool.noConfusion h); conv => whnf) | (refine And.intro (fun h => Bool.noConfusion h) (fun _ => ?_); conv => whnf)))) | (refine ⟨_, _, hdF, ?_⟩; ((conv => whnf); repeat (first | (refine And.intro DrawOk.go ?_; conv => whnf) | (refine And.intro rfl ?_; conv => whnf) | (refine And.intro (fun _ => ?_) (fun h => Bool.noConfusion h); conv => whnf) | (refine And.intro (fun h => Bool.noConfusion h) (fun _ => ?_); conv => whnf)))) | (refine ⟨hk0, _, i1, rfl, ?_⟩; ((conv => whnf); repeat (first | (refine And.intro DrawOk.go ?_; conv => whnf) | (refine And.intro rfl ?_; conv => whnf) | (refine And.intro (fun _ => ?_) (fun h => Bool.noConfusion h); conv => whnf) | (refine And.intro (fun h => Bool.noConfusion h) (fun _ => ?_); conv => whnf)))) | (refine ⟨hk0, _, i3, rfl, ?_⟩; ((conv => whnf); repeat (first | (refine And.intro DrawOk.go ?_; conv => whnf) | (refine And.intro rfl ?_; conv => whnf) | (refine And.intro (fun _ => ?_) (fun h => Bool.noConfusion h); conv => whnf) | (refine And.intro (fun h => Bool.noConfusion h) (fun _ => ?_); conv => whnf)))) | fail)
    all_goals first
      | (exfalso; omega)
      | (refine Exists.intro [] (And.intro List.nodup_nil ?_); ((conv => whnf); repeat (first | (refine And.intro DrawOk.go ?_; conv => whnf) | (refine And.intro rfl ?_; conv => whnf) | (refine And.intro (fun _ => ?_) (fun h => Bool.noConfusion h); conv => whnf) | (refine And.intro (fun h => Bool.noConfusion h) (fun _ => ?_); conv => whnf)))
         rfl)
  rw [decide_eq_true hq, Bool.true_and]
  obtain ⟨q1, q2, q3, q4⟩ := hq
  cases R with
  | true =>
    simp only [stA, stL, stC]
    refine fun_of_vc tabOk mixOk Try.func72 rfl (by rfl) (rs := [.tmp 4]) rfl rfl 89 ?_; rw [Try.ntmps72]
    (conv => whnf); repeat (first | (refine And.intro DrawOk.go ?_; conv => whnf) | (refine And.intro rfl ?_; conv => whnf) | (refine And.intro (fun _ => ?_) (fun h => Bool.noConfusion h); conv => whnf) | (refine And.intro (fun h => Bool.noConfusion h) (fun _ => ?_); conv => whnf))
    repeat' (first | ((refine And.intro (fun h => ?_) (fun h => ?_)) <;> (try simp at h) <;> ((conv => whnf); repeat (first | (refine And.intro DrawOk.go ?_; conv => whnf) | (refine And.intro rfl ?_; conv => whnf) | (refine And.intro (fun _ => ?_) (fun h => Bool.noConfusion h); conv => whnf) | (refine And.intro (fun h => Bool.noConfusion h) (fun _ => ?_); conv => whnf)))) | (refine ⟨_, _, hdF, ?_⟩; ((conv => whnf); repeat (first | (refine And.intro DrawOk.go ?_; conv => whnf) | (refine And.intro rfl ?_; conv => whnf) | (refine And.intro (fun _ => ?_) (fun h => Bool.noConfusion h); conv => whnf) | (refine And.intro (fun h => Bool.noConfusion h) (fun _ => ?_); conv => whnf)))) | (refine ⟨_, _, hrt, ?_⟩; ((conv => whnf); repeat (first | (refine And.intro DrawOk.go ?_; conv => whnf) | (refine And.intro rfl ?_; conv => whnf) | (refine And.intro (fun _ => ?_) (fun h => Bool.noConfusion h); conv => whnf) | (refine And.intro (fun h => Bool.noConfusion h) (fun _ => ?_); conv => whnf)))) | (refine ⟨hk0, _, i1, rfl, ?_⟩; ((conv => whnf); repeat (first | (refine And.intro DrawOk.go ?_; conv => whnf) | (refine And.intro rfl ?_; conv => whnf) | (refine And.intro (fun _ => ?_) (fun h => Bool.noConfusion h); conv => whnf) | (refine And.intro (fun h => Bool.noConfusion h) (fun _ => ?_); conv => whnf)))) | (refine ⟨hk0, _, i3, rfl, ?_⟩; ((conv => whnf); repeat (first | (refine And.intro DrawOk.go ?_; conv => whnf) | (refine And.intro rfl ?_; conv => whnf) | (refine And.intro (fun _ => ?_) (fun h => Bool.noConfusion h); conv => whnf) | (refine And.intro (fun h => Bool.noConfusion h) (fun _ => ?_); conv => whnf)))) | fail)
    all_goals first
      | (exfalso; omega)
      | (refine Exists.intro [] (And.intro List.nodup_nil ?_); ((conv => whnf); repeat (first | (refine And.intro DrawOk.go ?_; conv => whnf) | (refine And.intro rfl ?_; conv => whnf) | (refine And.intro (fun _ => ?_) (fun h => Bool.noConfusion h); conv => whnf) | (refine And.intro (fun h => Bool.noConfusion h) (fun _ => ?_); conv => whnf)))
         rfl)
  | false =>
    simp only [stA, stL, stC]
    refine fun_of_vc tabOk mixOk Try.func72 rfl (by rfl) (rs := [.tmp 4]) rfl rfl 89 ?_; rw [Try.ntmps72]
    (conv => whnf); repeat (first | (refine And.intro DrawOk.go ?_; conv => whnf) | (refine And.intro rfl ?_; conv => whnf) | (refine And.intro (fun _ => ?_) (fun h => Bool.noConfusion h); conv => whnf) | (refine And.intro (fun h => Bool.noConfusion h) (fun _ => ?_); conv => whnf))
    repeat' (first | ((refine And.intro (fun h => ?_) (fun h => ?_)) <;> (try simp at h) <;> ((conv => whnf); repeat (first | (refine And.intro DrawOk.go ?_; conv => whnf) | (refine And.intro rfl ?_; conv => whnf) | (refine And.intro (fun _ => ?_) (fun h => Bool.noConfusion h); conv => whnf) | (refine And.intro (fun h => Bool.noConfusion h) (fun _ => ?_); conv => whnf)))) | (refine ⟨_, _, hdF, ?_⟩; ((conv => whnf); repeat (first | (refine And.intro DrawOk.go ?_; conv => whnf) | (refine And.intro rfl ?_; conv => whnf) | (refine And.intro (fun _ => ?_) (fun h => Bool.noConfusion h); conv => whnf) | (refine And.intro (fun h => Bool.noConfusion h) (fun _ => ?_); conv => whnf)))) | (refine ⟨_, _, hrt, ?_⟩; ((conv => whnf); repeat (first | (refine And.intro DrawOk.go ?_; conv => whnf) | (refine And.intro rfl ?_; conv => whnf) | (refine And.intro (fun _ => ?_) (fun h => Bool.noConfusion h); conv => whnf) | (refine And.intro (fun h => Bool.noConfusion h) (fun _ => ?_); conv => whnf)))) | (refine ⟨hk0, _, i1, rfl, ?_⟩; ((conv => whnf); repeat (first | (refine And.intro DrawOk.go ?_; conv => whnf) | (refine And.intro rfl ?_; conv => whnf) | (refine And.intro (fun _ => ?_) (fun h => Bool.noConfusion h); conv => whnf) | (refine And.intro (fun h => Bool.noConfusion h) (fun _ => ?_); conv => whnf)))) | (refine ⟨hk0, _, i3, rfl, ?_⟩; ((conv => whnf); repeat (first | (refine And.intro DrawOk.go ?_; conv => whnf) | (refine And.intro rfl ?_; conv => whnf) | (refine And.intro (fun _ => ?_) (fun h => Bool.noConfusion h); conv => whnf) | (refine And.intro (fun h => Bool.noConfusion h) (fun _ => ?_); conv => whnf)))) | (refine ⟨hk0, _, i2, rfl, ?_⟩; ((conv => whnf); repeat (first | (refine And.intro DrawOk.go ?_; conv => whnf) | (refine And.intro rfl ?_; conv => whnf) | (refine And.intro (fun _ => ?_) (fun h => Bool.noConfusion h); conv => whnf) | (refine And.intro (fun h => Bool.noConfusion h) (fun _ => ?_); conv => whnf)))) | fail)
    all_goals first
      | (exfalso; omega)
      | (refine Exists.intro [] (And.intro List.nodup_nil ?_); ((conv => whnf); repeat (first | (refine And.intro DrawOk.go ?_; conv => whnf) | (refine And.intro rfl ?_; conv => whnf) | (refine And.intro (fun _ => ?_) (fun h => Bool.noConfusion h); conv => whnf) | (refine And.intro (fun h => Bool.noConfusion h) (fun _ => ?_); conv => whnf)))
         rfl)
end Go.Proofs.Ytijajfldpaadnaa.Ab
