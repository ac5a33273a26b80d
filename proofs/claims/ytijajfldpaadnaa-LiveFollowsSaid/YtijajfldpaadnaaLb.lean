/- The counters: the document's Begin and End. -/
import Derived.Test.YtijajfldpaadnaaLr
namespace Go.Proofs.Ytijajfldpaadnaa.Ab
set_option linter.unusedVariables false
set_option linter.unusedSimpArgs false
open Go.RowKit

set_option maxRecDepth 100000 in
set_option maxHeartbeats 8000000 in
theorem cbeginF' (ls ps : List Int) (z : Int) (hp : ps.length ≤ 1000000) : Fun Try.prog 83 [cntV ls ps, i64V z] [] (.tup [cntV ls (cbegin ls ps z).1, bV (cbegin ls ps z).2]) := by
  have ix := cidxF' ls ps z
  by_cases hc : cidx ls ps z = true
  · obtain ⟨k, rfl, k1, k2, k3, k4⟩ := cidx_nat hc
    rw [hc] at ix
    have hv := cin_get k3 k2
    refine fun_of_vc tabOk mixOk Try.func83 rfl (by rfl) (rs := [.cell 4 34, .tmp 5]) rfl rfl 30 ?_; rw [Try.ntmps83]
    (conv => whnf); repeat (first | (refine And.intro rfl ?_; conv => whnf) | (refine And.intro (fun _ => ?_) (fun h => Bool.noConfusion h); conv => whnf) | (refine And.intro (fun h => Bool.noConfusion h) (fun _ => ?_); conv => whnf))
    refine ⟨_, _, ix, ?_⟩
    (conv => whnf); repeat (first | (refine And.intro rfl ?_; conv => whnf) | (refine And.intro (fun _ => ?_) (fun h => Bool.noConfusion h); conv => whnf) | (refine And.intro (fun h => Bool.noConfusion h) (fun _ => ?_); conv => whnf))
    refine ⟨by omega, _, wItem k2, rfl, ?_⟩
    (conv => whnf); repeat (first | (refine And.intro rfl ?_; conv => whnf) | (refine And.intro (fun _ => ?_) (fun h => Bool.noConfusion h); conv => whnf) | (refine And.intro (fun h => Bool.noConfusion h) (fun _ => ?_); conv => whnf))
    refine And.intro (fun h => ?_) (fun h => ?_)
    · have h' : ps[k] = 1099511627776 := by simpa using h
      have e : cbegin ls ps k = (ps, false) := by unfold cbegin; rw [if_pos (Or.inr (by rw [Int.toNat_natCast, List.getElem?_eq_getElem k2, h']))]
      (conv => whnf); repeat (first | (refine And.intro rfl ?_; conv => whnf) | (refine And.intro (fun _ => ?_) (fun h => Bool.noConfusion h); conv => whnf) | (refine And.intro (fun h => Bool.noConfusion h) (fun _ => ?_); conv => whnf))
      refine Exists.intro [] (And.intro List.nodup_nil ?_); ((conv => whnf); repeat (first | (refine And.intro rfl ?_; conv => whnf) | (refine And.intro (fun _ => ?_) (fun h => Bool.noConfusion h); conv => whnf) | (refine And.intro (fun h => Bool.noConfusion h) (fun _ => ?_); conv => whnf)))
      rw [e]; rfl
    · have h' : ¬ ps[k] = 1099511627776 := by simpa using h
      have e : cbegin ls ps k = (ps.set k (ps[k] + 1), true) := by
        unfold cbegin
        rw [if_neg (by rw [hc, Int.toNat_natCast, List.getElem?_eq_getElem k2]; simpa using h'), Int.toNat_natCast, List.getElem?_eq_getElem k2]; rfl
      have hw : iwrap .i64 (ps[k] + 1) = ps[k] + 1 := (w64_in (by omega)).trans (by omega)
      have pl := plusF ps k 1 k2 hp
      rw [hw] at pl
      (conv => whnf); repeat (first | (refine And.intro rfl ?_; conv => whnf) | (refine And.intro (fun _ => ?_) (fun h => Bool.noConfusion h); conv => whnf) | (refine And.intro (fun h => Bool.noConfusion h) (fun _ => ?_); conv => whnf))
      refine ⟨_, _, pl, ?_⟩
      (conv => whnf); repeat (first | (refine And.intro rfl ?_; conv => whnf) | (refine And.intro (fun _ => ?_) (fun h => Bool.noConfusion h); conv => whnf) | (refine And.intro (fun h => Bool.noConfusion h) (fun _ => ?_); conv => whnf))
      refine Exists.intro [] (And.intro List.nodup_nil ?_); ((conv => whnf); repeat (first | (refine And.intro rfl ?_; conv => whnf) | (refine And.intro (fun _ => ?_) (fun h => Bool.noConfusion h); conv => whnf) | (refine And.intro (fun h => Bool.noConfusion h) (fun _ => ?_); conv => whnf)))
      rw [e]; rfl
  · have hc : cidx ls ps z = false := by simpa using hc
    have e : cbegin ls ps z = (ps, false) := by unfold cbegin; rw [if_pos (Or.inl hc)]
    rw [hc] at ix
    refine fun_of_vc tabOk mixOk Try.func83 rfl (by rfl) (rs := [.cell 4 34, .tmp 5]) rfl rfl 30 ?_; rw [Try.ntmps83]
    (conv => whnf); repeat (first | (refine And.intro rfl ?_; conv => whnf) | (refine And.intro (fun _ => ?_) (fun h => Bool.noConfusion h); conv => whnf) | (refine And.intro (fun h => Bool.noConfusion h) (fun _ => ?_); conv => whnf))
    refine ⟨_, _, ix, ?_⟩
    (conv => whnf); repeat (first | (refine And.intro rfl ?_; conv => whnf) | (refine And.intro (fun _ => ?_) (fun h => Bool.noConfusion h); conv => whnf) | (refine And.intro (fun h => Bool.noConfusion h) (fun _ => ?_); conv => whnf))
    refine Exists.intro [] (And.intro List.nodup_nil ?_); ((conv => whnf); repeat (first | (refine And.intro rfl ?_; conv => whnf) | (refine And.intro (fun _ => ?_) (fun h => Bool.noConfusion h); conv => whnf) | (refine And.intro (fun h => Bool.noConfusion h) (fun _ => ?_); conv => whnf)))
    rw [e]; rfl

set_option maxRecDepth 100000 in
set_option maxHeartbeats 8000000 in
theorem cendF' (ls ps : List Int) (z : Int) (hp : ps.length ≤ 1000000) : Fun Try.prog 85 [cntV ls ps, i64V z] [] (.tup [cntV ls (cend ls ps z).1, bV (cend ls ps z).2]) := by
  have ix := cidxF' ls ps z
  by_cases hc : cidx ls ps z = true
  · obtain ⟨k, rfl, k1, k2, k3, k4⟩ := cidx_nat hc
    rw [hc] at ix
    have hv := cin_get k3 k2
    refine fun_of_vc tabOk mixOk Try.func85 rfl (by rfl) (rs := [.cell 4 34, .tmp 5]) rfl rfl 30 ?_; rw [Try.ntmps85]
    (conv => whnf); repeat (first | (refine And.intro rfl ?_; conv => whnf) | (refine And.intro (fun _ => ?_) (fun h => Bool.noConfusion h); conv => whnf) | (refine And.intro (fun h => Bool.noConfusion h) (fun _ => ?_); conv => whnf))
    refine ⟨_, _, ix, ?_⟩
    (conv => whnf); repeat (first | (refine And.intro rfl ?_; conv => whnf) | (refine And.intro (fun _ => ?_) (fun h => Bool.noConfusion h); conv => whnf) | (refine And.intro (fun h => Bool.noConfusion h) (fun _ => ?_); conv => whnf))
    refine ⟨by omega, _, wItem k2, rfl, ?_⟩
    (conv => whnf); repeat (first | (refine And.intro rfl ?_; conv => whnf) | (refine And.intro (fun _ => ?_) (fun h => Bool.noConfusion h); conv => whnf) | (refine And.intro (fun h => Bool.noConfusion h) (fun _ => ?_); conv => whnf))
    refine And.intro (fun h => ?_) (fun h => ?_)
    · have h' : ps[k] = 0 := by simpa using h
      have e : cend ls ps k = (ps, false) := by unfold cend; rw [if_pos (Or.inr (by rw [Int.toNat_natCast, List.getElem?_eq_getElem k2, h']))]
      (conv => whnf); repeat (first | (refine And.intro rfl ?_; conv => whnf) | (refine And.intro (fun _ => ?_) (fun h => Bool.noConfusion h); conv => whnf) | (refine And.intro (fun h => Bool.noConfusion h) (fun _ => ?_); conv => whnf))
      refine Exists.intro [] (And.intro List.nodup_nil ?_); ((conv => whnf); repeat (first | (refine And.intro rfl ?_; conv => whnf) | (refine And.intro (fun _ => ?_) (fun h => Bool.noConfusion h); conv => whnf) | (refine And.intro (fun h => Bool.noConfusion h) (fun _ => ?_); conv => whnf)))
      rw [e]; rfl
    · have h' : ¬ ps[k] = 0 := by simpa using h
      have e : cend ls ps k = (ps.set k (ps[k] - 1), true) := by
        unfold cend
        rw [if_neg (by rw [hc, Int.toNat_natCast, List.getElem?_eq_getElem k2]; simpa using h'), Int.toNat_natCast, List.getElem?_eq_getElem k2]; rfl
      have hw : iwrap .i64 (ps[k] + (-1)) = ps[k] - 1 := (w64_in (by omega)).trans (by omega)
      have pl := plusF ps k (-1) k2 hp
      rw [hw] at pl
      (conv => whnf); repeat (first | (refine And.intro rfl ?_; conv => whnf) | (refine And.intro (fun _ => ?_) (fun h => Bool.noConfusion h); conv => whnf) | (refine And.intro (fun h => Bool.noConfusion h) (fun _ => ?_); conv => whnf))
      refine ⟨_, _, pl, ?_⟩
      (conv => whnf); repeat (first | (refine And.intro rfl ?_; conv => whnf) | (refine And.intro (fun _ => ?_) (fun h => Bool.noConfusion h); conv => whnf) | (refine And.intro (fun h => Bool.noConfusion h) (fun _ => ?_); conv => whnf))
      refine Exists.intro [] (And.intro List.nodup_nil ?_); ((conv => whnf); repeat (first | (refine And.intro rfl ?_; conv => whnf) | (refine And.intro (fun _ => ?_) (fun h => Bool.noConfusion h); conv => whnf) | (refine And.intro (fun h => Bool.noConfusion h) (fun _ => ?_); conv => whnf)))
      rw [e]; rfl
  · have hc : cidx ls ps z = false := by simpa using hc
    have e : cend ls ps z = (ps, false) := by unfold cend; rw [if_pos (Or.inl hc)]
    rw [hc] at ix
    refine fun_of_vc tabOk mixOk Try.func85 rfl (by rfl) (rs := [.cell 4 34, .tmp 5]) rfl rfl 30 ?_; rw [Try.ntmps85]
    (conv => whnf); repeat (first | (refine And.intro rfl ?_; conv => whnf) | (refine And.intro (fun _ => ?_) (fun h => Bool.noConfusion h); conv => whnf) | (refine And.intro (fun h => Bool.noConfusion h) (fun _ => ?_); conv => whnf))
    refine ⟨_, _, ix, ?_⟩
    (conv => whnf); repeat (first | (refine And.intro rfl ?_; conv => whnf) | (refine And.intro (fun _ => ?_) (fun h => Bool.noConfusion h); conv => whnf) | (refine And.intro (fun h => Bool.noConfusion h) (fun _ => ?_); conv => whnf))
    refine Exists.intro [] (And.intro List.nodup_nil ?_); ((conv => whnf); repeat (first | (refine And.intro rfl ?_; conv => whnf) | (refine And.intro (fun _ => ?_) (fun h => Bool.noConfusion h); conv => whnf) | (refine And.intro (fun h => Bool.noConfusion h) (fun _ => ?_); conv => whnf)))
    rw [e]; rfl

end Go.Proofs.Ytijajfldpaadnaa.Ab
