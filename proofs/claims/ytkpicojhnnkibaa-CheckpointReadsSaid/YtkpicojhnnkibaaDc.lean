/- Devices: appends of the reference. No condition. -/
import Derived.Test.YtkpicojhnnkibaaDb
namespace Go.Proofs.Ytkpicojhnnkibaa.Ab
set_option linter.unusedVariables false
set_option linter.unusedSimpArgs false
open Go.RowKit

theorem sSnoc (ss : List ByteArray) (s : ByteArray) : sV ss ++ [[.sc (.string s)]] = sV (ss ++ [s]) := by simp [sV]
set_option maxRecDepth 100000 in
set_option maxHeartbeats 8000000 in
theorem withF (s mo ma : Int) (zs : List Zn) (k : Nat) (st du : Int) (ss : List ByteArray) (hl : zs.length ≤ 1000000) (hk : k < zs.length) :
    Fun Try.prog 69 [dvA s mo ma zs, i64V k, zA st du ss] [] (.v (dvA s mo ma (zs.set k ⟨st, du, ss⟩))) := by
  have hset := zSet zs k ⟨st, du, ss⟩
  unfold zRow at hset
  dsimp only at hset
  refine fun_of_vc tabOk mixOk Try.func69 rfl (by rfl) (rs := [.cell 6 49]) rfl rfl 22 ?_; rw [Try.ntmps69]
  (conv => whnf); repeat ((first | refine And.intro DrawOk.go ?_ | refine And.intro rfl ?_ | refine And.intro (fun _ => ?_) (fun h => Bool.noConfusion h) | refine And.intro (fun h => Bool.noConfusion h) (fun _ => ?_)); conv => whnf)
  refine ⟨zSz zs, ?_⟩
  (conv => whnf); repeat ((first | refine And.intro DrawOk.go ?_ | refine And.intro rfl ?_ | refine And.intro (fun _ => ?_) (fun h => Bool.noConfusion h) | refine And.intro (fun h => Bool.noConfusion h) (fun _ => ?_)); conv => whnf)
  refine ⟨bytes_le (by decide) (by simp [zR]; omega), ?_⟩
  (conv => whnf); repeat ((first | refine And.intro DrawOk.go ?_ | refine And.intro rfl ?_ | refine And.intro (fun _ => ?_) (fun h => Bool.noConfusion h) | refine And.intro (fun h => Bool.noConfusion h) (fun _ => ?_)); conv => whnf)
  rw [List.nil_append]
  refine ⟨by omega, by rw [Int.toNat_natCast, zLen]; exact hk, ?_⟩
  (conv => whnf); repeat ((first | refine And.intro DrawOk.go ?_ | refine And.intro rfl ?_ | refine And.intro (fun _ => ?_) (fun h => Bool.noConfusion h) | refine And.intro (fun h => Bool.noConfusion h) (fun _ => ?_)); conv => whnf)
  refine ⟨_, zItem hk, ?_⟩
  (conv => whnf); repeat ((first | refine And.intro DrawOk.go ?_ | refine And.intro rfl ?_ | refine And.intro (fun _ => ?_) (fun h => Bool.noConfusion h) | refine And.intro (fun h => Bool.noConfusion h) (fun _ => ?_)); conv => whnf)
  refine Exists.intro [] (And.intro List.nodup_nil ?_); ((conv => whnf); repeat ((first | refine And.intro DrawOk.go ?_ | refine And.intro rfl ?_ | refine And.intro (fun _ => ?_) (fun h => Bool.noConfusion h) | refine And.intro (fun h => Bool.noConfusion h) (fun _ => ?_)); conv => whnf))
  rw [Int.toNat_natCast]
  exact congrArg (fun x => AT.v (AV.agg [.i (.sc (.int .i64 s)), .i (.sc (.int .i64 mo)), .i (.sc (.int .i64 ma)), .i (.sl x)])) hset
set_option maxRecDepth 100000 in
set_option maxHeartbeats 8000000 in
theorem shutF (st du : Int) (ss : List ByteArray) : Fun Try.prog 87 [zA st du ss] [] (.v (zA (if ss.length = 0 then 0 else 3) du ss)) := by
  have hl := sLen ss
  by_cases h0 : ss.length = 0
  · rw [if_pos h0]
    have hnil : sV ss = [] := List.length_eq_zero_iff.1 (by omega)
    refine fun_of_vc tabOk mixOk Try.func87 rfl (by rfl) (rs := [.cell 2 101]) rfl rfl 14 ?_; rw [Try.ntmps87]
    (conv => whnf); repeat ((first | refine And.intro DrawOk.go ?_ | refine And.intro rfl ?_ | refine And.intro (fun _ => ?_) (fun h => Bool.noConfusion h) | refine And.intro (fun h => Bool.noConfusion h) (fun _ => ?_)); conv => whnf)
    repeat' (first | ((refine And.intro (fun h => ?_) (fun h => ?_)) <;> (try simp at h) <;> ((conv => whnf); repeat ((first | refine And.intro DrawOk.go ?_ | refine And.intro rfl ?_ | refine And.intro (fun _ => ?_) (fun h => Bool.noConfusion h) | refine And.intro (fun h => Bool.noConfusion h) (fun _ => ?_)); conv => whnf))) | fail)
    all_goals first
      | contradiction
      | (refine Exists.intro [] (And.intro List.nodup_nil ?_); ((conv => whnf); repeat ((first | refine And.intro DrawOk.go ?_ | refine And.intro rfl ?_ | refine And.intro (fun _ => ?_) (fun h => Bool.noConfusion h) | refine And.intro (fun h => Bool.noConfusion h) (fun _ => ?_)); conv => whnf))
         rfl)
  · rw [if_neg h0]
    have hne : ¬ sV ss = [] := fun h => h0 (by rw [h] at hl; exact hl.symm)
    refine fun_of_vc tabOk mixOk Try.func87 rfl (by rfl) (rs := [.cell 2 101]) rfl rfl 14 ?_; rw [Try.ntmps87]
    (conv => whnf); repeat ((first | refine And.intro DrawOk.go ?_ | refine And.intro rfl ?_ | refine And.intro (fun _ => ?_) (fun h => Bool.noConfusion h) | refine And.intro (fun h => Bool.noConfusion h) (fun _ => ?_)); conv => whnf)
    repeat' (first | ((refine And.intro (fun h => ?_) (fun h => ?_)) <;> (try simp at h) <;> ((conv => whnf); repeat ((first | refine And.intro DrawOk.go ?_ | refine And.intro rfl ?_ | refine And.intro (fun _ => ?_) (fun h => Bool.noConfusion h) | refine And.intro (fun h => Bool.noConfusion h) (fun _ => ?_)); conv => whnf))) | fail)
    all_goals first
      | contradiction
      | (refine Exists.intro [] (And.intro List.nodup_nil ?_); ((conv => whnf); repeat ((first | refine And.intro DrawOk.go ?_ | refine And.intro rfl ?_ | refine And.intro (fun _ => ?_) (fun h => Bool.noConfusion h) | refine And.intro (fun h => Bool.noConfusion h) (fun _ => ?_)); conv => whnf))
         rfl)
theorem opnAt_at {zs : List Zn} {k : Nat} (h : k < zs.length) : opnAt (zs.drop k) = if zs[k].st = 1 then 0 else opnAt (zs.drop (k + 1)) + 1 := by
  rw [List.drop_eq_getElem_cons h, opnAt]
theorem droomX_no {d : Dv} (h : ¬ (cntO d.zs : Int) ≥ d.mo) : droomX d = some d := by unfold droomX; rw [if_neg h]
theorem droomX_none {d : Dv} (h : (cntO d.zs : Int) ≥ d.mo) (h2 : ¬ opnAt d.zs < d.zs.length) : droomX d = none := by
  unfold droomX
  rw [if_pos h, List.getElem?_eq_none (by omega)]
theorem droomX_some {d : Dv} (h : (cntO d.zs : Int) ≥ d.mo) (h2 : opnAt d.zs < d.zs.length) : droomX d = some (dwith d (opnAt d.zs) (shutZ d.zs[opnAt d.zs])) := by
  unfold droomX
  rw [if_pos h, List.getElem?_eq_getElem h2]
set_option maxRecDepth 100000 in
set_option maxHeartbeats 16000000 in
theorem roomF (s mo ma : Int) (zs : List Zn) (k : Nat) (hl : zs.length ≤ 1000000) (hk : k < zs.length) :
    Fun Try.prog 68 [dvA s mo ma zs, i64V k] [] (.tup [dvV (droom ⟨s, mo, ma, zs⟩ (actB zs[k].st)).1, i64V (droom ⟨s, mo, ma, zs⟩ (actB zs[k].st)).2]) := by
  have hc := dcntF s mo ma zs hl
  have ha := actF zs[k].st
  have hit := zItem hk
  have hzl := zLen zs
  generalize actB zs[k].st = A at ha ⊢
  generalize hD : droom ⟨s, mo, ma, zs⟩ A = D
  unfold droom at hD
  by_cases h1 : (cntO zs : Int) ≥ mo
  rotate_left
  · rw [droomX_no h1] at hD
    dsimp only at hD
    refine fun_of_vc tabOk mixOk Try.func68 rfl (by rfl) (rs := [.cell 4 49, .tmp 5]) rfl rfl 78 ?_; rw [Try.ntmps68]
    (conv => whnf); repeat ((first | refine And.intro DrawOk.go ?_ | refine And.intro rfl ?_ | refine And.intro (fun _ => ?_) (fun h => Bool.noConfusion h) | refine And.intro (fun h => Bool.noConfusion h) (fun _ => ?_)); conv => whnf)
    refine ⟨_, _, hc, ?_⟩
    (conv => whnf); repeat ((first | refine And.intro DrawOk.go ?_ | refine And.intro rfl ?_ | refine And.intro (fun _ => ?_) (fun h => Bool.noConfusion h) | refine And.intro (fun h => Bool.noConfusion h) (fun _ => ?_)); conv => whnf)
    refine And.intro (fun h => absurd (of_decide_eq_true h) h1) (fun _ => ?_)
    (conv => whnf); repeat ((first | refine And.intro DrawOk.go ?_ | refine And.intro rfl ?_ | refine And.intro (fun _ => ?_) (fun h => Bool.noConfusion h) | refine And.intro (fun h => Bool.noConfusion h) (fun _ => ?_)); conv => whnf)
    refine ⟨_, _, hc, ?_⟩
    (conv => whnf); repeat ((first | refine And.intro DrawOk.go ?_ | refine And.intro rfl ?_ | refine And.intro (fun _ => ?_) (fun h => Bool.noConfusion h) | refine And.intro (fun h => Bool.noConfusion h) (fun _ => ?_)); conv => whnf)
    refine ⟨by omega, _, hit, rfl, ?_⟩
    (conv => whnf); repeat ((first | refine And.intro DrawOk.go ?_ | refine And.intro rfl ?_ | refine And.intro (fun _ => ?_) (fun h => Bool.noConfusion h) | refine And.intro (fun h => Bool.noConfusion h) (fun _ => ?_)); conv => whnf)
    refine ⟨_, _, ha, ?_⟩
    cases A with
    | true =>
      rw [if_neg (by simp)] at hD
      (conv => whnf); repeat ((first | refine And.intro DrawOk.go ?_ | refine And.intro rfl ?_ | refine And.intro (fun _ => ?_) (fun h => Bool.noConfusion h) | refine And.intro (fun h => Bool.noConfusion h) (fun _ => ?_)); conv => whnf)
      refine Exists.intro [] (And.intro List.nodup_nil ?_); ((conv => whnf); repeat ((first | refine And.intro DrawOk.go ?_ | refine And.intro rfl ?_ | refine And.intro (fun _ => ?_) (fun h => Bool.noConfusion h) | refine And.intro (fun h => Bool.noConfusion h) (fun _ => ?_)); conv => whnf))
      rw [← hD]
      rfl
    | false =>
      by_cases h3 : (cntA zs : Int) ≥ ma
      · rw [if_pos ⟨rfl, h3⟩] at hD
        (conv => whnf); repeat ((first | refine And.intro DrawOk.go ?_ | refine And.intro rfl ?_ | refine And.intro (fun _ => ?_) (fun h => Bool.noConfusion h) | refine And.intro (fun h => Bool.noConfusion h) (fun _ => ?_)); conv => whnf)
        refine And.intro (fun _ => ?_) (fun h => absurd h3 (of_decide_eq_false h))
        (conv => whnf); repeat ((first | refine And.intro DrawOk.go ?_ | refine And.intro rfl ?_ | refine And.intro (fun _ => ?_) (fun h => Bool.noConfusion h) | refine And.intro (fun h => Bool.noConfusion h) (fun _ => ?_)); conv => whnf)
        refine Exists.intro [] (And.intro List.nodup_nil ?_); ((conv => whnf); repeat ((first | refine And.intro DrawOk.go ?_ | refine And.intro rfl ?_ | refine And.intro (fun _ => ?_) (fun h => Bool.noConfusion h) | refine And.intro (fun h => Bool.noConfusion h) (fun _ => ?_)); conv => whnf))
        rw [← hD]
        rfl
      · rw [if_neg (fun h => h3 h.2)] at hD
        (conv => whnf); repeat ((first | refine And.intro DrawOk.go ?_ | refine And.intro rfl ?_ | refine And.intro (fun _ => ?_) (fun h => Bool.noConfusion h) | refine And.intro (fun h => Bool.noConfusion h) (fun _ => ?_)); conv => whnf)
        refine And.intro (fun h => absurd (of_decide_eq_true h) h3) (fun _ => ?_)
        (conv => whnf); repeat ((first | refine And.intro DrawOk.go ?_ | refine And.intro rfl ?_ | refine And.intro (fun _ => ?_) (fun h => Bool.noConfusion h) | refine And.intro (fun h => Bool.noConfusion h) (fun _ => ?_)); conv => whnf)
        refine Exists.intro [] (And.intro List.nodup_nil ?_); ((conv => whnf); repeat ((first | refine And.intro DrawOk.go ?_ | refine And.intro rfl ?_ | refine And.intro (fun _ => ?_) (fun h => Bool.noConfusion h) | refine And.intro (fun h => Bool.noConfusion h) (fun _ => ?_)); conv => whnf))
        rw [← hD]
        rfl
  · by_cases h2 : opnAt zs < zs.length
    rotate_left
    · rw [droomX_none h1 h2] at hD
      dsimp only at hD
      refine fun_of_vc tabOk mixOk Try.func68 rfl (by rfl) (rs := [.cell 4 49, .tmp 5]) rfl rfl 78 ?_; rw [Try.ntmps68]
      (conv => whnf); repeat ((first | refine And.intro DrawOk.go ?_ | refine And.intro rfl ?_ | refine And.intro (fun _ => ?_) (fun h => Bool.noConfusion h) | refine And.intro (fun h => Bool.noConfusion h) (fun _ => ?_)); conv => whnf)
      refine ⟨_, _, hc, ?_⟩
      (conv => whnf); repeat ((first | refine And.intro DrawOk.go ?_ | refine And.intro rfl ?_ | refine And.intro (fun _ => ?_) (fun h => Bool.noConfusion h) | refine And.intro (fun h => Bool.noConfusion h) (fun _ => ?_)); conv => whnf)
      refine And.intro (fun _ => ?_) (fun h => absurd h1 (of_decide_eq_false h))
      (conv => whnf); repeat ((first | refine And.intro DrawOk.go ?_ | refine And.intro rfl ?_ | refine And.intro (fun _ => ?_) (fun h => Bool.noConfusion h) | refine And.intro (fun h => Bool.noConfusion h) (fun _ => ?_)); conv => whnf)
      refine vc_loop [1, 2, 4, 5, 6] [2, 4, 6] (X := Nat) (fun i gs => [(9, ATint i)]) (fun _ _ => []) (fun i => i ≤ zs.length ∧ opnAt zs = i + opnAt (zs.drop i)) (fun i => zs.length - i) _ (Ghost.refl _) 0 ⟨Nat.zero_le _, by simp⟩ ?_ ?_
      · (refine And.intro rfl (And.intro rfl ?_)); (repeat' (first | exact trivial | exact rfl | apply And.intro | (refine congrArg (Value.int .i64) (w64_nat ?_); omega)))
      rintro gs i ⟨hi, he⟩
      by_cases hlt : i < zs.length
      · rw [opnAt_at hlt] at he
        by_cases h5 : zs[i].st = 1
        · rw [if_pos h5] at he
          omega
        rw [if_neg h5] at he
        have hii := zItem hlt
        (conv => whnf); repeat ((first | refine And.intro DrawOk.go ?_ | refine And.intro rfl ?_ | refine And.intro (fun _ => ?_) (fun h => Bool.noConfusion h) | refine And.intro (fun h => Bool.noConfusion h) (fun _ => ?_)); conv => whnf)
        repeat' (first | ((refine And.intro (fun h => ?_) (fun h => ?_)) <;> (try simp at h) <;> ((conv => whnf); repeat ((first | refine And.intro DrawOk.go ?_ | refine And.intro rfl ?_ | refine And.intro (fun _ => ?_) (fun h => Bool.noConfusion h) | refine And.intro (fun h => Bool.noConfusion h) (fun _ => ?_)); conv => whnf))) | (refine ⟨by omega, _, hii, rfl, ?_⟩; ((conv => whnf); repeat ((first | refine And.intro DrawOk.go ?_ | refine And.intro rfl ?_ | refine And.intro (fun _ => ?_) (fun h => Bool.noConfusion h) | refine And.intro (fun h => Bool.noConfusion h) (fun _ => ?_)); conv => whnf))) | fail)
        all_goals first
          | (exfalso; omega)
          | (refine again (i + 1) ⟨hlt, by omega⟩ (by omega) ?_
             (refine And.intro rfl (And.intro rfl ?_)); (repeat' (first | exact trivial | exact rfl | apply And.intro | (refine congrArg (Value.int .i64) (w64_nat ?_); omega))))
      · obtain rfl : i = zs.length := by omega
        (conv => whnf); repeat ((first | refine And.intro DrawOk.go ?_ | refine And.intro rfl ?_ | refine And.intro (fun _ => ?_) (fun h => Bool.noConfusion h) | refine And.intro (fun h => Bool.noConfusion h) (fun _ => ?_)); conv => whnf)
        repeat' (first | ((refine And.intro (fun h => ?_) (fun h => ?_)) <;> (try simp at h) <;> ((conv => whnf); repeat ((first | refine And.intro DrawOk.go ?_ | refine And.intro rfl ?_ | refine And.intro (fun _ => ?_) (fun h => Bool.noConfusion h) | refine And.intro (fun h => Bool.noConfusion h) (fun _ => ?_)); conv => whnf))) | fail)
        all_goals first
          | (exfalso; omega)
          | (refine Exists.intro [] (And.intro List.nodup_nil ?_); ((conv => whnf); repeat ((first | refine And.intro DrawOk.go ?_ | refine And.intro rfl ?_ | refine And.intro (fun _ => ?_) (fun h => Bool.noConfusion h) | refine And.intro (fun h => Bool.noConfusion h) (fun _ => ?_)); conv => whnf))
             rw [← hD]
             rfl)
    · rw [droomX_some h1 h2] at hD
      dsimp only [dwith, shutZ] at hD
      have hsh := shutF zs[opnAt zs].st zs[opnAt zs].du zs[opnAt zs].ss
      have hwi := withF s mo ma zs (opnAt zs) (if zs[opnAt zs].ss.length = 0 then 0 else 3) zs[opnAt zs].du zs[opnAt zs].ss hl h2
      have hst : zs[opnAt zs].st = 1 := opnAt_st (List.getElem?_eq_getElem h2)
      have hoi := zItem h2
      have hx := opnAt_at h2
      rw [if_pos hst] at hx
      have hstop : ∀ i, i ≤ zs.length → opnAt zs = i + opnAt (zs.drop i) → (h : i < zs.length) → zs[i].st = 1 → i = opnAt zs := by
        intro i hi he h h5
        rw [opnAt_at h, if_pos h5] at he
        omega
      have hgo : ∀ i, opnAt zs = i + opnAt (zs.drop i) → (h : i < zs.length) → zs[i].st ≠ 1 → opnAt zs = (i + 1) + opnAt (zs.drop (i + 1)) := by
        intro i he h h5
        rw [opnAt_at h, if_neg h5] at he
        omega
      have hend : ∀ i, opnAt zs = i + opnAt (zs.drop i) → i ≤ opnAt zs := fun i he => by omega
      generalize hzs' : zs.set (opnAt zs) ⟨if zs[opnAt zs].ss.length = 0 then 0 else 3, zs[opnAt zs].du, zs[opnAt zs].ss⟩ = zs' at hD hwi
      have hl' : zs'.length ≤ 1000000 := by rw [← hzs', List.length_set]; exact hl
      have hc' := dcntF s mo ma zs' hl'
      clear hzs' hx
      refine fun_of_vc tabOk mixOk Try.func68 rfl (by rfl) (rs := [.cell 4 49, .tmp 5]) rfl rfl 78 ?_; rw [Try.ntmps68]
      (conv => whnf); repeat ((first | refine And.intro DrawOk.go ?_ | refine And.intro rfl ?_ | refine And.intro (fun _ => ?_) (fun h => Bool.noConfusion h) | refine And.intro (fun h => Bool.noConfusion h) (fun _ => ?_)); conv => whnf)
      refine ⟨_, _, hc, ?_⟩
      (conv => whnf); repeat ((first | refine And.intro DrawOk.go ?_ | refine And.intro rfl ?_ | refine And.intro (fun _ => ?_) (fun h => Bool.noConfusion h) | refine And.intro (fun h => Bool.noConfusion h) (fun _ => ?_)); conv => whnf)
      refine And.intro (fun _ => ?_) (fun h => absurd h1 (of_decide_eq_false h))
      (conv => whnf); repeat ((first | refine And.intro DrawOk.go ?_ | refine And.intro rfl ?_ | refine And.intro (fun _ => ?_) (fun h => Bool.noConfusion h) | refine And.intro (fun h => Bool.noConfusion h) (fun _ => ?_)); conv => whnf)
      refine vc_loop [1, 2, 4, 5, 6] [2, 4, 6] (X := Nat) (fun i gs => [(9, ATint i)]) (fun _ _ => []) (fun i => i ≤ zs.length ∧ opnAt zs = i + opnAt (zs.drop i)) (fun i => zs.length - i) _ (Ghost.refl _) 0 ⟨Nat.zero_le _, by simp⟩ ?_ ?_
      · (refine And.intro rfl (And.intro rfl ?_)); (repeat' (first | exact trivial | exact rfl | apply And.intro | (refine congrArg (Value.int .i64) (w64_nat ?_); omega)))
      rintro gs i ⟨hi, he⟩
      have him := hend i he
      have hlt : i < zs.length := by omega
      have hii := zItem hlt
      by_cases h5 : zs[i].st = 1
      · obtain rfl : i = opnAt zs := hstop i hi he hlt h5
        clear hstop hgo hend he him hi
        generalize opnAt zs = m at *
        generalize zs[m] = z at *
        obtain ⟨zst, zdu, zss⟩ := z
        dsimp only at h5 hsh hwi hii hoi hst
        generalize (if zss.length = 0 then (0 : Int) else 3) = q at hsh hwi
        cases A with
        | true =>
          rw [if_neg (by simp)] at hD
          (conv => whnf); repeat ((first | refine And.intro DrawOk.go ?_ | refine And.intro rfl ?_ | refine And.intro (fun _ => ?_) (fun h => Bool.noConfusion h) | refine And.intro (fun h => Bool.noConfusion h) (fun _ => ?_)); conv => whnf)
          repeat' (first | ((refine And.intro (fun h => ?_) (fun h => ?_)) <;> (try simp at h) <;> ((conv => whnf); repeat ((first | refine And.intro DrawOk.go ?_ | refine And.intro rfl ?_ | refine And.intro (fun _ => ?_) (fun h => Bool.noConfusion h) | refine And.intro (fun h => Bool.noConfusion h) (fun _ => ?_)); conv => whnf))) | (refine ⟨_, _, hsh, ?_⟩; ((conv => whnf); repeat ((first | refine And.intro DrawOk.go ?_ | refine And.intro rfl ?_ | refine And.intro (fun _ => ?_) (fun h => Bool.noConfusion h) | refine And.intro (fun h => Bool.noConfusion h) (fun _ => ?_)); conv => whnf))) | (refine ⟨_, _, hwi, ?_⟩; ((conv => whnf); repeat ((first | refine And.intro DrawOk.go ?_ | refine And.intro rfl ?_ | refine And.intro (fun _ => ?_) (fun h => Bool.noConfusion h) | refine And.intro (fun h => Bool.noConfusion h) (fun _ => ?_)); conv => whnf))) | (refine ⟨_, _, hc', ?_⟩; ((conv => whnf); repeat ((first | refine And.intro DrawOk.go ?_ | refine And.intro rfl ?_ | refine And.intro (fun _ => ?_) (fun h => Bool.noConfusion h) | refine And.intro (fun h => Bool.noConfusion h) (fun _ => ?_)); conv => whnf))) | (refine ⟨_, _, ha, ?_⟩; ((conv => whnf); repeat ((first | refine And.intro DrawOk.go ?_ | refine And.intro rfl ?_ | refine And.intro (fun _ => ?_) (fun h => Bool.noConfusion h) | refine And.intro (fun h => Bool.noConfusion h) (fun _ => ?_)); conv => whnf))) | (refine ⟨by omega, _, hii, rfl, ?_⟩; ((conv => whnf); repeat ((first | refine And.intro DrawOk.go ?_ | refine And.intro rfl ?_ | refine And.intro (fun _ => ?_) (fun h => Bool.noConfusion h) | refine And.intro (fun h => Bool.noConfusion h) (fun _ => ?_)); conv => whnf))) | (refine ⟨by omega, _, hit, rfl, ?_⟩; ((conv => whnf); repeat ((first | refine And.intro DrawOk.go ?_ | refine And.intro rfl ?_ | refine And.intro (fun _ => ?_) (fun h => Bool.noConfusion h) | refine And.intro (fun h => Bool.noConfusion h) (fun _ => ?_)); conv => whnf))) | fail)
          all_goals first
            | (exfalso; omega)
            | (refine Exists.intro [] (And.intro List.nodup_nil ?_); ((conv => whnf); repeat ((first | refine And.intro DrawOk.go ?_ | refine And.intro rfl ?_ | refine And.intro (fun _ => ?_) (fun h => Bool.noConfusion h) | refine And.intro (fun h => Bool.noConfusion h) (fun _ => ?_)); conv => whnf))
               rw [← hD]
               rfl)
        | false =>
          by_cases h3 : (cntA zs' : Int) ≥ ma
          · rw [if_pos ⟨rfl, h3⟩] at hD
            (conv => whnf); repeat ((first | refine And.intro DrawOk.go ?_ | refine And.intro rfl ?_ | refine And.intro (fun _ => ?_) (fun h => Bool.noConfusion h) | refine And.intro (fun h => Bool.noConfusion h) (fun _ => ?_)); conv => whnf)
            repeat' (first | ((refine And.intro (fun h => ?_) (fun h => ?_)) <;> (try simp at h) <;> ((conv => whnf); repeat ((first | refine And.intro DrawOk.go ?_ | refine And.intro rfl ?_ | refine And.intro (fun _ => ?_) (fun h => Bool.noConfusion h) | refine And.intro (fun h => Bool.noConfusion h) (fun _ => ?_)); conv => whnf))) | (refine ⟨_, _, hsh, ?_⟩; ((conv => whnf); repeat ((first | refine And.intro DrawOk.go ?_ | refine And.intro rfl ?_ | refine And.intro (fun _ => ?_) (fun h => Bool.noConfusion h) | refine And.intro (fun h => Bool.noConfusion h) (fun _ => ?_)); conv => whnf))) | (refine ⟨_, _, hwi, ?_⟩; ((conv => whnf); repeat ((first | refine And.intro DrawOk.go ?_ | refine And.intro rfl ?_ | refine And.intro (fun _ => ?_) (fun h => Bool.noConfusion h) | refine And.intro (fun h => Bool.noConfusion h) (fun _ => ?_)); conv => whnf))) | (refine ⟨_, _, hc', ?_⟩; ((conv => whnf); repeat ((first | refine And.intro DrawOk.go ?_ | refine And.intro rfl ?_ | refine And.intro (fun _ => ?_) (fun h => Bool.noConfusion h) | refine And.intro (fun h => Bool.noConfusion h) (fun _ => ?_)); conv => whnf))) | (refine ⟨_, _, ha, ?_⟩; ((conv => whnf); repeat ((first | refine And.intro DrawOk.go ?_ | refine And.intro rfl ?_ | refine And.intro (fun _ => ?_) (fun h => Bool.noConfusion h) | refine And.intro (fun h => Bool.noConfusion h) (fun _ => ?_)); conv => whnf))) | (refine ⟨by omega, _, hii, rfl, ?_⟩; ((conv => whnf); repeat ((first | refine And.intro DrawOk.go ?_ | refine And.intro rfl ?_ | refine And.intro (fun _ => ?_) (fun h => Bool.noConfusion h) | refine And.intro (fun h => Bool.noConfusion h) (fun _ => ?_)); conv => whnf))) | (refine ⟨by omega, _, hit, rfl, ?_⟩; ((conv => whnf); repeat ((first | refine And.intro DrawOk.go ?_ | refine And.intro rfl ?_ | refine And.intro (fun _ => ?_) (fun h => Bool.noConfusion h) | refine And.intro (fun h => Bool.noConfusion h) (fun _ => ?_)); conv => whnf))) | fail)
            all_goals first
              | (exfalso; omega)
              | (refine Exists.intro [] (And.intro List.nodup_nil ?_); ((conv => whnf); repeat ((first | refine And.intro DrawOk.go ?_ | refine And.intro rfl ?_ | refine And.intro (fun _ => ?_) (fun h => Bool.noConfusion h) | refine And.intro (fun h => Bool.noConfusion h) (fun _ => ?_)); conv => whnf))
                 rw [← hD]
                 rfl)
          · rw [if_neg (fun h => h3 h.2)] at hD
            (conv => whnf); repeat ((first | refine And.intro DrawOk.go ?_ | refine And.intro rfl ?_ | refine And.intro (fun _ => ?_) (fun h => Bool.noConfusion h) | refine And.intro (fun h => Bool.noConfusion h) (fun _ => ?_)); conv => whnf)
            repeat' (first | ((refine And.intro (fun h => ?_) (fun h => ?_)) <;> (try simp at h) <;> ((conv => whnf); repeat ((first | refine And.intro DrawOk.go ?_ | refine And.intro rfl ?_ | refine And.intro (fun _ => ?_) (fun h => Bool.noConfusion h) | refine And.intro (fun h => Bool.noConfusion h) (fun _ => ?_)); conv => whnf))) | (refine ⟨_, _, hsh, ?_⟩; ((conv => whnf); repeat ((first | refine And.intro DrawOk.go ?_ | refine And.intro rfl ?_ | refine And.intro (fun _ => ?_) (fun h => Bool.noConfusion h) | refine And.intro (fun h => Bool.noConfusion h) (fun _ => ?_)); conv => whnf))) | (refine ⟨_, _, hwi, ?_⟩; ((conv => whnf); repeat ((first | refine And.intro DrawOk.go ?_ | refine And.intro rfl ?_ | refine And.intro (fun _ => ?_) (fun h => Bool.noConfusion h) | refine And.intro (fun h => Bool.noConfusion h) (fun _ => ?_)); conv => whnf))) | (refine ⟨_, _, hc', ?_⟩; ((conv => whnf); repeat ((first | refine And.intro DrawOk.go ?_ | refine And.intro rfl ?_ | refine And.intro (fun _ => ?_) (fun h => Bool.noConfusion h) | refine And.intro (fun h => Bool.noConfusion h) (fun _ => ?_)); conv => whnf))) | (refine ⟨_, _, ha, ?_⟩; ((conv => whnf); repeat ((first | refine And.intro DrawOk.go ?_ | refine And.intro rfl ?_ | refine And.intro (fun _ => ?_) (fun h => Bool.noConfusion h) | refine And.intro (fun h => Bool.noConfusion h) (fun _ => ?_)); conv => whnf))) | (refine ⟨by omega, _, hii, rfl, ?_⟩; ((conv => whnf); repeat ((first | refine And.intro DrawOk.go ?_ | refine And.intro rfl ?_ | refine And.intro (fun _ => ?_) (fun h => Bool.noConfusion h) | refine And.intro (fun h => Bool.noConfusion h) (fun _ => ?_)); conv => whnf))) | (refine ⟨by omega, _, hit, rfl, ?_⟩; ((conv => whnf); repeat ((first | refine And.intro DrawOk.go ?_ | refine And.intro rfl ?_ | refine And.intro (fun _ => ?_) (fun h => Bool.noConfusion h) | refine And.intro (fun h => Bool.noConfusion h) (fun _ => ?_)); conv => whnf))) | fail)
            all_goals first
              | (exfalso; omega)
              | (refine Exists.intro [] (And.intro List.nodup_nil ?_); ((conv => whnf); repeat ((first | refine And.intro DrawOk.go ?_ | refine And.intro rfl ?_ | refine And.intro (fun _ => ?_) (fun h => Bool.noConfusion h) | refine And.intro (fun h => Bool.noConfusion h) (fun _ => ?_)); conv => whnf))
                 rw [← hD]
                 rfl)
      · have hnx := hgo i he hlt h5
        clear hstop hgo hend he hD hc' hwi hsh ha hc
        (conv => whnf); repeat ((first | refine And.intro DrawOk.go ?_ | refine And.intro rfl ?_ | refine And.intro (fun _ => ?_) (fun h => Bool.noConfusion h) | refine And.intro (fun h => Bool.noConfusion h) (fun _ => ?_)); conv => whnf)
        repeat' (first | ((refine And.intro (fun h => ?_) (fun h => ?_)) <;> (try simp at h) <;> ((conv => whnf); repeat ((first | refine And.intro DrawOk.go ?_ | refine And.intro rfl ?_ | refine And.intro (fun _ => ?_) (fun h => Bool.noConfusion h) | refine And.intro (fun h => Bool.noConfusion h) (fun _ => ?_)); conv => whnf))) | (refine ⟨by omega, _, hii, rfl, ?_⟩; ((conv => whnf); repeat ((first | refine And.intro DrawOk.go ?_ | refine And.intro rfl ?_ | refine And.intro (fun _ => ?_) (fun h => Bool.noConfusion h) | refine And.intro (fun h => Bool.noConfusion h) (fun _ => ?_)); conv => whnf))) | fail)
        all_goals first
          | (exfalso; omega)
          | (refine again (i + 1) ⟨hlt, hnx⟩ (by omega) ?_
             (refine And.intro rfl (And.intro rfl ?_)); (repeat' (first | exact trivial | exact rfl | apply And.intro | (refine congrArg (Value.int .i64) (w64_nat ?_); omega))))
end Go.Proofs.Ytkpicojhnnkibaa.Ab
