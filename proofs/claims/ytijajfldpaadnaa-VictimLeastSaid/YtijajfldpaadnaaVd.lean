/- Victims: states made of numbers. No condition. -/
import Derived.Test.YtijajfldpaadnaaVc
import Derived.Test.YtijajfldpaadnaaRk
import Derived.Test.YtijajfldpaadnaaDb
import Derived.Test.YtijajfldpaadnaaEf
import Derived.Test.YtijajfldpaadnaaPs
namespace Go.Proofs.Ytijajfldpaadnaa.Ab
set_option linter.unusedVariables false
set_option linter.unusedSimpArgs false
open Go.RowKit

set_option maxRecDepth 100000 in
set_option maxHeartbeats 8000000 in
theorem secFv (k b v m : Int) (p : ByteArray) : Fun Try.prog 66 [recV k b v m p] [] (.v (strV (renc ⟨k, b, v, m, p⟩).1)) := by
  have h := rencF' k b v m p
  generalize renc ⟨k, b, v, m, p⟩ = R at h ⊢
  obtain ⟨s, e⟩ := R
  refine fun_of_vc tabOk mixOk Try.func66 rfl (by rfl) (rs := [.tmp 2]) rfl rfl 15 ?_; rw [Try.ntmps66]
  (conv => whnf); repeat ((first | refine And.intro DrawOk.go ?_ | refine And.intro rfl ?_ | refine And.intro (fun _ => ?_) (fun h => Bool.noConfusion h) | refine And.intro (fun h => Bool.noConfusion h) (fun _ => ?_)); conv => whnf)
  refine ⟨_, _, h, ?_⟩
  (conv => whnf); repeat ((first | refine And.intro DrawOk.go ?_ | refine And.intro rfl ?_ | refine And.intro (fun _ => ?_) (fun h => Bool.noConfusion h) | refine And.intro (fun h => Bool.noConfusion h) (fun _ => ?_)); conv => whnf)
  refine Exists.intro [] (And.intro List.nodup_nil ?_); ((conv => whnf); repeat ((first | refine And.intro DrawOk.go ?_ | refine And.intro rfl ?_ | refine And.intro (fun _ => ?_) (fun h => Bool.noConfusion h) | refine And.intro (fun h => Bool.noConfusion h) (fun _ => ?_)); conv => whnf))
  rfl
theorem secFv_of {r : Rec} (h : rchk r = 0) : Fun Try.prog 66 [rV r] [] (.v (strV (sS (encL r)))) := by
  obtain ⟨k, b, v, m, p⟩ := r
  have e : renc ⟨k, b, v, m, p⟩ = (sS (encL ⟨k, b, v, m, p⟩), 0) := by
    unfold renc
    rw [if_pos h]
  have := secFv k b v m p
  rw [e] at this
  exact this
set_option maxRecDepth 100000 in
set_option maxHeartbeats 16000000 in
theorem dnewO (Z C : Nat) (hZ : 3 ≤ Z ∧ Z ≤ 28) (hC : 3 ≤ C ∧ C ≤ 6) : Fun Try.prog 65 [i64V Z, i64V C, i64V 3, i64V 3] [.row 0 66 3 (zR (List.replicate Z z0))]
    (.tup [.agg [.i (.sc (.int .i64 C)), .i (.sc (.int .i64 3)), .i (.sc (.int .i64 3)), .own 0 0], i64V 0]) := by
  have hc := dchkF C 3 3 (List.replicate Z z0) (by rw [List.length_replicate]; omega) (fun z hz => by rw [List.eq_of_mem_replicate hz]; decide)
  have h0 : dchk ⟨C, 3, 3, List.replicate Z z0⟩ = 0 := by
    have := dnew_ok (zones := (Z : Int)) (size := (C : Int)) (by omega) (by omega)
    unfold dnew at this
    rw [if_neg (by omega), Int.toNat_natCast] at this
    split at this
    · assumption
    · injection this with _ h
  rw [h0] at hc
  have hrep : List.replicate ((Z : Int)).toNat [IV.sc (.int .i64 0), IV.sc (.int .i64 0), IV.sl []] = zR (List.replicate Z z0) := by simp [zR, zRow, z0, sV]
  refine fun_of_vc tabOk mixOk Try.func65 rfl (by rfl) (rs := [.cell 8 29, .tmp 9]) rfl rfl 36 ?_; rw [Try.ntmps65]
  (conv => whnf); repeat ((first | refine And.intro DrawOk.go ?_ | refine And.intro rfl ?_ | refine And.intro (fun _ => ?_) (fun h => Bool.noConfusion h) | refine And.intro (fun h => Bool.noConfusion h) (fun _ => ?_)); conv => whnf)
  refine And.intro (fun h => by have := of_decide_eq_true h; omega) (fun _ => ?_)
  (conv => whnf); repeat ((first | refine And.intro DrawOk.go ?_ | refine And.intro rfl ?_ | refine And.intro (fun _ => ?_) (fun h => Bool.noConfusion h) | refine And.intro (fun h => Bool.noConfusion h) (fun _ => ?_)); conv => whnf)
  refine And.intro (fun h => by have := of_decide_eq_true h; omega) (fun _ => ?_)
  (conv => whnf); repeat ((first | refine And.intro DrawOk.go ?_ | refine And.intro rfl ?_ | refine And.intro (fun _ => ?_) (fun h => Bool.noConfusion h) | refine And.intro (fun h => Bool.noConfusion h) (fun _ => ?_)); conv => whnf)
  refine ⟨by omega, rfl, by rw [Nat.mul_comm]; exact bytes_le (by decide) (by omega), by omega, ?_⟩
  (conv => whnf); repeat ((first | refine And.intro DrawOk.go ?_ | refine And.intro rfl ?_ | refine And.intro (fun _ => ?_) (fun h => Bool.noConfusion h) | refine And.intro (fun h => Bool.noConfusion h) (fun _ => ?_)); conv => whnf)
  rw [hrep]
  refine ⟨_, _, hc, ?_⟩
  (conv => whnf); repeat ((first | refine And.intro DrawOk.go ?_ | refine And.intro rfl ?_ | refine And.intro (fun _ => ?_) (fun h => Bool.noConfusion h) | refine And.intro (fun h => Bool.noConfusion h) (fun _ => ?_)); conv => whnf)
  refine ⟨[23], by simp, ?_⟩
  (conv => whnf); repeat ((first | refine And.intro DrawOk.go ?_ | refine And.intro rfl ?_ | refine And.intro (fun _ => ?_) (fun h => Bool.noConfusion h) | refine And.intro (fun h => Bool.noConfusion h) (fun _ => ?_)); conv => whnf)
  rfl
theorem cv1_refl {H : Nat → Blk} {D : Nat → Bool} (x : AV1) : cv1 H D x x := by
  cases x with
  | i v => cases v <;> rfl
  | un => trivial
  | _ => rfl
theorem cvL_refl {H : Nat → Blk} {D : Nat → Bool} (l : List AV1) : cvL H D l l := by
  induction l with
  | nil => trivial
  | cons x l ih => exact ⟨cv1_refl x, ih⟩
theorem cvB_refl {H : Nat → Blk} {D : Nat → Bool} (x : Blk) : cvB H D x x := by
  cases x with
  | var g cs => exact ⟨rfl, cvL_refl cs⟩
  | _ => rfl
/-! ### The state, step by step -/
def vSec (L : List Int) (b : Int) (k : Nat) : Nat → Nat × List ByteArray
  | 0 => (k, [])
  | i + 1 => (nx3 L (vSec L b k i).1, (vSec L b k i).2 ++ [sS (encL (mkRec L (vSec L b k i).1 b (1 + (i : Int))))])
def vN (L : List Int) (C k : Nat) : Nat := (dval L k ((C : Int) + 1)).toNat
def vSt (L : List Int) (C : Nat) (n : Nat) (k2 : Nat) : Nat × Int × Int :=
  if n = C then (k2, 4, n) else if dval L k2 4 > 0 then (dnx L k2, 4, n) else if n > 0 then (dnx L k2, 3, 0) else (dnx L k2, 0, 0)
structure Vr where
  k : Nat
  zs : List Zn
  lv : List Int
  pn : List Int
  zz : List (Int × Int)
def vStep (L : List Int) (C : Nat) (b : Int) (pp : List Int) (i : Nat) (r : Vr) : Vr :=
  let n := vN L C r.k
  let s := vSec L b (dnx L r.k) n
  let t := vSt L C n s.1
  let k2 := dnx L t.1
  let k3 := dnx L k2
  ⟨dnx L k3, r.zs.set i ⟨t.2.1, t.2.2, s.2⟩, r.lv ++ [dval L t.1 ((C : Int) + 1)], r.pn ++ [iwrap .i64 (Int.tdiv (dval L k2 8) 7)], if dval L k3 7 = 6 then (eret 0 pp r.zz i).1 else r.zz⟩
def vRun (L : List Int) (C : Nat) (b : Int) (pp : List Int) (k0 Z : Nat) : Nat → Vr
  | 0 => ⟨k0, List.replicate Z z0, [], [], []⟩
  | i + 1 => vStep L C b pp i (vRun L C b pp k0 Z i)
theorem vSec_len (L : List Int) (b : Int) (k i : Nat) : (vSec L b k i).2.length = i := by
  induction i with
  | zero => rfl
  | succ i ih => rw [vSec, List.length_append, ih]; rfl
theorem vN_le {L : List Int} {C k : Nat} (hC : 3 ≤ C ∧ C ≤ 6) : ((vN L C k : Nat) : Int) = dval L k ((C : Int) + 1) ∧ vN L C k ≤ C := by
  have := dval_in L k (n := (C : Int) + 1) (by omega) (by omega)
  unfold vN
  omega
theorem vRun_inv (L : List Int) (C : Nat) (b : Int) (pp : List Int) (k0 Z i : Nat) (hC : 3 ≤ C ∧ C ≤ 6) : (vRun L C b pp k0 Z i).zs.length = Z ∧ (vRun L C b pp k0 Z i).lv.length = i ∧ (vRun L C b pp k0 Z i).pn.length = i ∧ (vRun L C b pp k0 Z i).zz.length ≤ i ∧
    (∀ z ∈ (vRun L C b pp k0 Z i).zs, z.ss.length ≤ 6) := by
  induction i with
  | zero => exact ⟨List.length_replicate, rfl, rfl, Nat.le_refl _, fun z hz => by rw [(List.mem_replicate.1 hz).2]; decide⟩
  | succ i ih =>
    obtain ⟨h1, h2, h3, h4, h5⟩ := ih
    rw [vRun]
    generalize vRun L C b pp k0 Z i = r at h1 h2 h3 h4 h5
    unfold vStep
    dsimp only
    refine ⟨by rw [List.length_set, h1], by rw [List.length_append, h2]; rfl, by rw [List.length_append, h3]; rfl, ?_, fun z hz => ?_⟩
    · split
      · unfold eret
        split
        · rw [List.length_append]; simp; omega
        · dsimp only; omega
      · omega
    · rcases List.mem_or_eq_of_mem_set hz with hz | rfl
      · exact h5 z hz
      · dsimp only
        rw [vSec_len]
        have := (vN_le (L := L) (k := r.k) hC).2
        omega
end Go.Proofs.Ytijajfldpaadnaa.Ab
