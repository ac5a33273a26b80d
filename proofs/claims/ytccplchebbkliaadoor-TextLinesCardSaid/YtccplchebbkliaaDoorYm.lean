/- The line of a crash. No condition. -/
import Derived.Test.YtccplchebbkliaaDoorYl
namespace Go.Proofs.YtccplchebbkliaaDoor.Ab
set_option linter.unusedVariables false
set_option linter.unusedSimpArgs false
open Go.RowKit

def itoS (n : Int) : ByteArray := ⟨(Lib.itoa n).toArray⟩
theorem itoSF {n : Int} (h : fit n = true) : Fun Tryd.prog 20 [i64V n] [] (.v (strV (itoS n))) := by
  have hn := fit_iff.1 h
  exact itoaF n (by omega) (by omega)
theorem itoS_size {n : Int} (h : fit n = true) : (itoS n).size ≤ 14 := itoa_len (fit_iff.1 h)
def crL (kp : List Int) : List UInt8 := if kp.length ≤ 32 ∧ kp.all fit = true then (if kp = [] then wCrash else joinW 32 [wCrash, joinW 44 (kp.map Lib.itoa)]) else []
def bCrash : ByteArray := ⟨#[99, 114, 97, 115, 104]⟩
def bCrash' : ByteArray := ⟨#[99, 114, 97, 115, 104, 32]⟩
theorem crL_ok {kp : List Int} (h : kp.length ≤ 32) (hf : kp.all fit = true) (hne : kp ≠ []) : ∃ J : ByteArray, Fun Tryd.prog 37 [slV (sV (kp.map itoS)), strV ⟨#[44]⟩] [] (.v (strV J)) ∧ J.size ≤ 1000 ∧ (⟨(crL kp).toArray⟩ : ByteArray) = bCrash' ++ J := by
  refine ⟨⟨(joinW 44 (kp.map Lib.itoa)).toArray⟩, ?_, ?_, ?_⟩
  · have := joinF 44 (kp.map itoS) 14 (by decide) (by simp; omega) (fun x hx => by
      obtain ⟨n, hn, rfl⟩ := List.mem_map.1 hx
      exact itoS_size (List.all_eq_true.1 hf n hn))
    rw [List.map_map] at this
    exact this
  · show (joinW 44 (kp.map Lib.itoa)).length ≤ 1000
    have := joinW_len (M := 14) 44 (ws := kp.map Lib.itoa) (fun w hw => by
      obtain ⟨n, hn, rfl⟩ := List.mem_map.1 hw
      exact itoS_size (List.all_eq_true.1 hf n hn))
    rw [List.length_map] at this
    have h2 : kp.length * (14 + 1) ≤ 32 * 15 := Nat.mul_le_mul h (by decide)
    omega
  · apply sL_inj
    rw [sL_append]
    show crL kp = [99, 114, 97, 115, 104, 32] ++ joinW 44 (kp.map Lib.itoa)
    unfold crL
    rw [if_pos ⟨h, hf⟩, if_neg hne]
    rfl
set_option maxRecDepth 100000 in
set_option maxHeartbeats 16000000 in
theorem crashF (kp : List Int) : Fun Tryd.prog 21 [slV (wV kp)] [] (.v (strV ⟨(crL kp).toArray⟩)) := by
  by_cases h32 : kp.length ≤ 32
  · have hD : ∀ n, fit n = true → Fun Tryd.prog 20 [i64V n] [] (.v (strV (itoS n))) := fun n h => itoSF h
    have hJ : kp.all fit = true → kp ≠ [] → _ := fun hf hne => crL_ok h32 hf hne
    have h0 : kp.all fit = true → kp = [] → (⟨(crL kp).toArray⟩ : ByteArray) = bCrash := fun hf he => by subst he; rfl
    have hno : kp.all fit = false → (⟨(crL kp).toArray⟩ : ByteArray) = ⟨#[]⟩ := fun hf => by unfold crL; rw [if_neg (by simp [hf])]
    generalize (⟨(crL kp).toArray⟩ : ByteArray) = R at hJ h0 hno ⊢
    generalize itoS = D at hD hJ
    refine fun_of_vc tabOk mixOk Tryd.func21 rfl (by rfl) (rs := [.tmp 2]) rfl rfl 34 ?_; rw [Tryd.ntmps21]
    (conv => whnf); repeat ((first | refine And.intro DrawOk.go ?_ | refine And.intro rfl ?_ | refine And.intro (fun _ => ?_) (fun h => Bool.noConfusion h) | refine And.intro (fun h => Bool.noConfusion h) (fun _ => ?_)); conv => whnf)
    refine And.intro (fun h => ?_) (fun h => ?_)
    · exfalso
      have := of_decide_eq_true h
      simp [wV] at this
      omega
    clear h
    (conv => whnf); repeat ((first | refine And.intro DrawOk.go ?_ | refine And.intro rfl ?_ | refine And.intro (fun _ => ?_) (fun h => Bool.noConfusion h) | refine And.intro (fun h => Bool.noConfusion h) (fun _ => ?_)); conv => whnf)
    refine vc_loop [9, 10] [] (X := Nat) (fun i gs => [(11, ATint i), (3, .v (.c (.own 22 (gs 22))))]) (fun i gs => [(22, .row (gs 22) 9 1 (sV ((kp.take i).map D)))]) (fun i => i ≤ kp.length ∧ (kp.take i).all fit = true) (fun i => kp.length - i) _ (Ghost.ownNil 3 22 9 1 rfl (Nat.le_of_ble_eq_true rfl)) 0 ⟨Nat.zero_le _, rfl⟩ ?_ ?_
    · (refine And.intro rfl (And.intro rfl ?_)); (repeat' (first | exact trivial | with_reducible exact cvB_refl _ | exact rfl | apply And.intro))
    intro gs i hi
    obtain ⟨hi, hfi⟩ := hi
    (conv => whnf); repeat ((first | refine And.intro DrawOk.go ?_ | refine And.intro rfl ?_ | refine And.intro (fun _ => ?_) (fun h => Bool.noConfusion h) | refine And.intro (fun h => Bool.noConfusion h) (fun _ => ?_)); conv => whnf)
    refine And.intro (fun h => ?_) (fun h => ?_)
    · have hlt : i < kp.length := by simpa [wV] using h
      have hff := fitsF kp[i]
      have htk := take_snoc hlt
      cases hc : fit kp[i] with
      | false =>
        rw [hc] at hff
        rw [hno (List.all_eq_false.2 ⟨kp[i], List.getElem_mem hlt, by rw [hc]; decide⟩)]
        (conv => whnf); repeat ((first | refine And.intro DrawOk.go ?_ | refine And.intro rfl ?_ | refine And.intro (fun _ => ?_) (fun h => Bool.noConfusion h) | refine And.intro (fun h => Bool.noConfusion h) (fun _ => ?_)); conv => whnf)
        refine ⟨by omega, _, wItem hlt, rfl, ?_⟩
        (conv => whnf); repeat ((first | refine And.intro DrawOk.go ?_ | refine And.intro rfl ?_ | refine And.intro (fun _ => ?_) (fun h => Bool.noConfusion h) | refine And.intro (fun h => Bool.noConfusion h) (fun _ => ?_)); conv => whnf)
        refine ⟨_, _, hff, ?_⟩
        (conv => whnf); repeat ((first | refine And.intro DrawOk.go ?_ | refine And.intro rfl ?_ | refine And.intro (fun _ => ?_) (fun h => Bool.noConfusion h) | refine And.intro (fun h => Bool.noConfusion h) (fun _ => ?_)); conv => whnf)
        refine Exists.intro [] (And.intro List.nodup_nil ?_); ((conv => whnf); repeat ((first | refine And.intro DrawOk.go ?_ | refine And.intro rfl ?_ | refine And.intro (fun _ => ?_) (fun h => Bool.noConfusion h) | refine And.intro (fun h => Bool.noConfusion h) (fun _ => ?_)); conv => whnf))
        rfl
      | true =>
        rw [hc] at hff
        have hdd := hD _ hc
        generalize hw : D kp[i] = d at hdd
        (conv => whnf); repeat ((first | refine And.intro DrawOk.go ?_ | refine And.intro rfl ?_ | refine And.intro (fun _ => ?_) (fun h => Bool.noConfusion h) | refine And.intro (fun h => Bool.noConfusion h) (fun _ => ?_)); conv => whnf)
        refine ⟨by omega, _, wItem hlt, rfl, ?_⟩
        (conv => whnf); repeat ((first | refine And.intro DrawOk.go ?_ | refine And.intro rfl ?_ | refine And.intro (fun _ => ?_) (fun h => Bool.noConfusion h) | refine And.intro (fun h => Bool.noConfusion h) (fun _ => ?_)); conv => whnf)
        refine ⟨_, _, hff, ?_⟩
        (conv => whnf); repeat ((first | refine And.intro DrawOk.go ?_ | refine And.intro rfl ?_ | refine And.intro (fun _ => ?_) (fun h => Bool.noConfusion h) | refine And.intro (fun h => Bool.noConfusion h) (fun _ => ?_)); conv => whnf)
        refine ⟨_, _, hdd, ?_⟩
        (conv => whnf); repeat ((first | refine And.intro DrawOk.go ?_ | refine And.intro rfl ?_ | refine And.intro (fun _ => ?_) (fun h => Bool.noConfusion h) | refine And.intro (fun h => Bool.noConfusion h) (fun _ => ?_)); conv => whnf)
        refine ⟨sSz [d], ?_⟩
        (conv => whnf); repeat ((first | refine And.intro DrawOk.go ?_ | refine And.intro rfl ?_ | refine And.intro (fun _ => ?_) (fun h => Bool.noConfusion h) | refine And.intro (fun h => Bool.noConfusion h) (fun _ => ?_)); conv => whnf)
        refine ⟨bytes_le (by decide) (s_b (a := (kp.take i).map D) (by simp; omega) (b := [d]) (by simp)), ?_⟩
        (conv => whnf); repeat ((first | refine And.intro DrawOk.go ?_ | refine And.intro rfl ?_ | refine And.intro (fun _ => ?_) (fun h => Bool.noConfusion h) | refine And.intro (fun h => Bool.noConfusion h) (fun _ => ?_)); conv => whnf)
        refine again (i + 1) ⟨hlt, by rw [htk, List.all_append, hfi]; simp [hc]⟩ (Nat.sub_lt_sub_left hlt (Nat.lt_succ_self i)) ?_
        (refine And.intro rfl (And.intro rfl ?_)); (repeat' (first | exact trivial | with_reducible exact cvB_refl _ | exact rfl | apply And.intro))
        all_goals first
          | exact congrArg (Value.int .i64) (w64_nat (by omega))
          | exact congrArg (Blk.row _ _ _) ((sApp _ [d]).trans (congrArg sV (by rw [htk, List.map_append, ← hw]; rfl)))
    · obtain rfl : i = kp.length := by
        have : ¬ i < kp.length := by simpa [wV] using h
        omega
      rw [List.take_length] at hfi ⊢
      by_cases hne : kp = []
      · rw [h0 hfi hne]
        subst hne
        (conv => whnf); repeat ((first | refine And.intro DrawOk.go ?_ | refine And.intro rfl ?_ | refine And.intro (fun _ => ?_) (fun h => Bool.noConfusion h) | refine And.intro (fun h => Bool.noConfusion h) (fun _ => ?_)); conv => whnf)
        refine Exists.intro [] (And.intro List.nodup_nil ?_); ((conv => whnf); repeat ((first | refine And.intro DrawOk.go ?_ | refine And.intro rfl ?_ | refine And.intro (fun _ => ?_) (fun h => Bool.noConfusion h) | refine And.intro (fun h => Bool.noConfusion h) (fun _ => ?_)); conv => whnf))
        rfl
      · obtain ⟨J, hj, hjs, hR⟩ := hJ hfi hne
        rw [hR]
        have hll : 0 < kp.length := List.length_pos_iff.2 hne
        clear hJ h0 hno
        (conv => whnf); repeat ((first | refine And.intro DrawOk.go ?_ | refine And.intro rfl ?_ | refine And.intro (fun _ => ?_) (fun h => Bool.noConfusion h) | refine And.intro (fun h => Bool.noConfusion h) (fun _ => ?_)); conv => whnf)
        refine And.intro (fun h => ?_) (fun h => ?_)
        · exfalso
          simp [sV] at h
          exact hne h
        (conv => whnf); repeat ((first | refine And.intro DrawOk.go ?_ | refine And.intro rfl ?_ | refine And.intro (fun _ => ?_) (fun h => Bool.noConfusion h) | refine And.intro (fun h => Bool.noConfusion h) (fun _ => ?_)); conv => whnf)
        refine ⟨_, _, hj, ?_⟩
        (conv => whnf); repeat ((first | refine And.intro DrawOk.go ?_ | refine And.intro rfl ?_ | refine And.intro (fun _ => ?_) (fun h => Bool.noConfusion h) | refine And.intro (fun h => Bool.noConfusion h) (fun _ => ?_)); conv => whnf)
        refine ⟨by show 6 + J.size ≤ _; omega, ?_⟩
        (conv => whnf); repeat ((first | refine And.intro DrawOk.go ?_ | refine And.intro rfl ?_ | refine And.intro (fun _ => ?_) (fun h => Bool.noConfusion h) | refine And.intro (fun h => Bool.noConfusion h) (fun _ => ?_)); conv => whnf)
        refine Exists.intro [] (And.intro List.nodup_nil ?_); ((conv => whnf); repeat ((first | refine And.intro DrawOk.go ?_ | refine And.intro rfl ?_ | refine And.intro (fun _ => ?_) (fun h => Bool.noConfusion h) | refine And.intro (fun h => Bool.noConfusion h) (fun _ => ?_)); conv => whnf))
        rfl
  · have e : crL kp = [] := by unfold crL; rw [if_neg (fun h => h32 h.1)]
    rw [e]
    refine fun_of_vc tabOk mixOk Tryd.func21 rfl (by rfl) (rs := [.tmp 2]) rfl rfl 34 ?_; rw [Tryd.ntmps21]
    (conv => whnf); repeat ((first | refine And.intro DrawOk.go ?_ | refine And.intro rfl ?_ | refine And.intro (fun _ => ?_) (fun h => Bool.noConfusion h) | refine And.intro (fun h => Bool.noConfusion h) (fun _ => ?_)); conv => whnf)
    refine And.intro (fun h => ?_) (fun h => ?_)
    · (conv => whnf); repeat ((first | refine And.intro DrawOk.go ?_ | refine And.intro rfl ?_ | refine And.intro (fun _ => ?_) (fun h => Bool.noConfusion h) | refine And.intro (fun h => Bool.noConfusion h) (fun _ => ?_)); conv => whnf)
      refine Exists.intro [] (And.intro List.nodup_nil ?_); ((conv => whnf); repeat ((first | refine And.intro DrawOk.go ?_ | refine And.intro rfl ?_ | refine And.intro (fun _ => ?_) (fun h => Bool.noConfusion h) | refine And.intro (fun h => Bool.noConfusion h) (fun _ => ?_)); conv => whnf))
      rfl
    · exfalso
      have := of_decide_eq_false h
      simp [wV] at this
      omega
end Go.Proofs.YtccplchebbkliaaDoor.Ab
