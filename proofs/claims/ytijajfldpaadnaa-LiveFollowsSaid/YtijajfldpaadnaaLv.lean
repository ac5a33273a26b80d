/- The counters: valid ones, copies, new ones. -/
import Derived.Test.YtijajfldpaadnaaGi
namespace Go.Proofs.Ytijajfldpaadnaa.Ab
set_option linter.unusedVariables false
set_option linter.unusedSimpArgs false
open Go.RowKit

def cntV (ls ps : List Int) : AV := .agg [.i (.sl (wV ls)), .i (.sl (wV ps))]
theorem minB (b : Int) (ws : List Int) : ∀ (w : Int), decide (ws.foldl minF w ≥ b) = (w :: ws).all (fun x => decide (b ≤ x)) := by
  induction ws with
  | nil => intro w; simp only [List.foldl_nil, List.all_cons, List.all_nil, Bool.and_true, ge_iff_le] <;> rfl
  | cons x ws ih =>
    intro w
    rw [List.foldl_cons, ih]
    simp only [List.all_cons, minF]
    split <;> (rw [Bool.eq_iff_iff]; simp; omega)
theorem maxB (b : Int) (ws : List Int) : ∀ (w : Int), decide (ws.foldl maxF w ≤ b) = (w :: ws).all (fun x => decide (x ≤ b)) := by
  induction ws with
  | nil => intro w; simp only [List.foldl_nil, List.all_cons, List.all_nil, Bool.and_true, ge_iff_le] <;> rfl
  | cons x ws ih =>
    intro w
    rw [List.foldl_cons, ih]
    simp only [List.all_cons, maxF]
    split <;> (rw [Bool.eq_iff_iff]; simp; omega)
def cin (ws : List Int) : Bool := ws.all (fun x => decide (0 ≤ x)) && ws.all (fun x => decide (x ≤ 1099511627776))
def cvalid (ls ps : List Int) : Bool := decide (ls.length = ps.length ∧ 1 ≤ ls.length ∧ ls.length ≤ 32) && (cin ls && cin ps)

set_option maxRecDepth 100000 in
set_option maxHeartbeats 8000000 in
theorem cvalidF (ls ps : List Int) : Fun Try.prog 77 [cntV ls ps] [] (ATbool (cvalid ls ps)) := by
  refine fun_of_vc tabOk mixOk Try.func77 rfl (by rfl) (rs := [.tmp 2]) rfl rfl 48 ?_; rw [Try.ntmps77]
  (conv => whnf); repeat (first | (refine And.intro rfl ?_; conv => whnf) | (refine And.intro (fun _ => ?_) (fun h => Bool.noConfusion h); conv => whnf) | (refine And.intro (fun h => Bool.noConfusion h) (fun _ => ?_); conv => whnf))
  refine And.intro (fun h1 => ?_) (fun h1 => ?_)
  · (conv => whnf); repeat (first | (refine And.intro rfl ?_; conv => whnf) | (refine And.intro (fun _ => ?_) (fun h => Bool.noConfusion h); conv => whnf) | (refine And.intro (fun h => Bool.noConfusion h) (fun _ => ?_); conv => whnf))
    refine Exists.intro [] (And.intro List.nodup_nil ?_); ((conv => whnf); repeat (first | (refine And.intro rfl ?_; conv => whnf) | (refine And.intro (fun _ => ?_) (fun h => Bool.noConfusion h); conv => whnf) | (refine And.intro (fun h => Bool.noConfusion h) (fun _ => ?_); conv => whnf)))
    have : ¬ ls.length = ps.length := by simp [wV] at h1; omega
    unfold cvalid
    rw [decide_eq_false (by omega)]; rfl
  have h1' : ls.length = ps.length := by simp [wV] at h1; omega
  (conv => whnf); repeat (first | (refine And.intro rfl ?_; conv => whnf) | (refine And.intro (fun _ => ?_) (fun h => Bool.noConfusion h); conv => whnf) | (refine And.intro (fun h => Bool.noConfusion h) (fun _ => ?_); conv => whnf))
  refine And.intro (fun h2 => ?_) (fun h2 => ?_)
  · (conv => whnf); repeat (first | (refine And.intro rfl ?_; conv => whnf) | (refine And.intro (fun _ => ?_) (fun h => Bool.noConfusion h); conv => whnf) | (refine And.intro (fun h => Bool.noConfusion h) (fun _ => ?_); conv => whnf))
    refine Exists.intro [] (And.intro List.nodup_nil ?_); ((conv => whnf); repeat (first | (refine And.intro rfl ?_; conv => whnf) | (refine And.intro (fun _ => ?_) (fun h => Bool.noConfusion h); conv => whnf) | (refine And.intro (fun h => Bool.noConfusion h) (fun _ => ?_); conv => whnf)))
    have := of_decide_eq_true h2
    simp only [wV, List.length_map] at this
    unfold cvalid
    rw [decide_eq_false (by omega)]; rfl
  have h2' := of_decide_eq_false h2
  simp only [wV, List.length_map] at h2'
  (conv => whnf); repeat (first | (refine And.intro rfl ?_; conv => whnf) | (refine And.intro (fun _ => ?_) (fun h => Bool.noConfusion h); conv => whnf) | (refine And.intro (fun h => Bool.noConfusion h) (fun _ => ?_); conv => whnf))
  refine And.intro (fun h3 => ?_) (fun h3 => ?_)
  · (conv => whnf); repeat (first | (refine And.intro rfl ?_; conv => whnf) | (refine And.intro (fun _ => ?_) (fun h => Bool.noConfusion h); conv => whnf) | (refine And.intro (fun h => Bool.noConfusion h) (fun _ => ?_); conv => whnf))
    refine Exists.intro [] (And.intro List.nodup_nil ?_); ((conv => whnf); repeat (first | (refine And.intro rfl ?_; conv => whnf) | (refine And.intro (fun _ => ?_) (fun h => Bool.noConfusion h); conv => whnf) | (refine And.intro (fun h => Bool.noConfusion h) (fun _ => ?_); conv => whnf)))
    have := of_decide_eq_true h3
    simp only [wV, List.length_map] at this
    unfold cvalid
    rw [decide_eq_false (by omega)]; rfl
  have h3' := of_decide_eq_false h3
  simp only [wV, List.length_map] at h3'
  have hc : cvalid ls ps = (cin ls && cin ps) := by unfold cvalid; rw [decide_eq_true (by omega), Bool.true_and]
  cases ls with
  | nil => simp at h2'
  | cons l ls =>
  cases ps with
  | nil => simp at h1'
  | cons p ps =>
  have q1 := minB 0 ls l
  have q2 := minB 0 ps p
  have q3 := maxB 1099511627776 ls l
  have q4 := maxB 1099511627776 ps p
  simp only [List.length_cons] at h1' h3'
  (conv => whnf); repeat (first | (refine And.intro rfl ?_; conv => whnf) | (refine And.intro (fun _ => ?_) (fun h => Bool.noConfusion h); conv => whnf) | (refine And.intro (fun h => Bool.noConfusion h) (fun _ => ?_); conv => whnf))
  refine ⟨_, _, minI l ls (by omega), ?_⟩
  (conv => whnf); repeat (first | (refine And.intro rfl ?_; conv => whnf) | (refine And.intro (fun _ => ?_) (fun h => Bool.noConfusion h); conv => whnf) | (refine And.intro (fun h => Bool.noConfusion h) (fun _ => ?_); conv => whnf))
  refine And.intro (fun h4 => ?_) (fun h4 => ?_)
  · (conv => whnf); repeat (first | (refine And.intro rfl ?_; conv => whnf) | (refine And.intro (fun _ => ?_) (fun h => Bool.noConfusion h); conv => whnf) | (refine And.intro (fun h => Bool.noConfusion h) (fun _ => ?_); conv => whnf))
    refine ⟨_, _, minI p ps (by omega), ?_⟩
    (conv => whnf); repeat (first | (refine And.intro rfl ?_; conv => whnf) | (refine And.intro (fun _ => ?_) (fun h => Bool.noConfusion h); conv => whnf) | (refine And.intro (fun h => Bool.noConfusion h) (fun _ => ?_); conv => whnf))
    refine And.intro (fun h5 => ?_) (fun h5 => ?_)
    · (conv => whnf); repeat (first | (refine And.intro rfl ?_; conv => whnf) | (refine And.intro (fun _ => ?_) (fun h => Bool.noConfusion h); conv => whnf) | (refine And.intro (fun h => Bool.noConfusion h) (fun _ => ?_); conv => whnf))
      refine ⟨_, _, maxI l ls (by omega), ?_⟩
      (conv => whnf); repeat (first | (refine And.intro rfl ?_; conv => whnf) | (refine And.intro (fun _ => ?_) (fun h => Bool.noConfusion h); conv => whnf) | (refine And.intro (fun h => Bool.noConfusion h) (fun _ => ?_); conv => whnf))
      refine And.intro (fun h6 => ?_) (fun h6 => ?_)
      · (conv => whnf); repeat (first | (refine And.intro rfl ?_; conv => whnf) | (refine And.intro (fun _ => ?_) (fun h => Bool.noConfusion h); conv => whnf) | (refine And.intro (fun h => Bool.noConfusion h) (fun _ => ?_); conv => whnf))
        refine ⟨_, _, maxI p ps (by omega), ?_⟩
        (conv => whnf); repeat (first | (refine And.intro rfl ?_; conv => whnf) | (refine And.intro (fun _ => ?_) (fun h => Bool.noConfusion h); conv => whnf) | (refine And.intro (fun h => Bool.noConfusion h) (fun _ => ?_); conv => whnf))
        refine Exists.intro [] (And.intro List.nodup_nil ?_); ((conv => whnf); repeat (first | (refine And.intro rfl ?_; conv => whnf) | (refine And.intro (fun _ => ?_) (fun h => Bool.noConfusion h); conv => whnf) | (refine And.intro (fun h => Bool.noConfusion h) (fun _ => ?_); conv => whnf)))
        rw [hc]
        unfold cin
        rw [← q1, ← q2, ← q3, ← q4, h4, h5, h6]; rfl
      · (conv => whnf); repeat (first | (refine And.intro rfl ?_; conv => whnf) | (refine And.intro (fun _ => ?_) (fun h => Bool.noConfusion h); conv => whnf) | (refine And.intro (fun h => Bool.noConfusion h) (fun _ => ?_); conv => whnf))
        refine Exists.intro [] (And.intro List.nodup_nil ?_); ((conv => whnf); repeat (first | (refine And.intro rfl ?_; conv => whnf) | (refine And.intro (fun _ => ?_) (fun h => Bool.noConfusion h); conv => whnf) | (refine And.intro (fun h => Bool.noConfusion h) (fun _ => ?_); conv => whnf)))
        rw [hc]
        unfold cin
        rw [← q1, ← q3, h4, h6]; rfl
    · (conv => whnf); repeat (first | (refine And.intro rfl ?_; conv => whnf) | (refine And.intro (fun _ => ?_) (fun h => Bool.noConfusion h); conv => whnf) | (refine And.intro (fun h => Bool.noConfusion h) (fun _ => ?_); conv => whnf))
      refine Exists.intro [] (And.intro List.nodup_nil ?_); ((conv => whnf); repeat (first | (refine And.intro rfl ?_; conv => whnf) | (refine And.intro (fun _ => ?_) (fun h => Bool.noConfusion h); conv => whnf) | (refine And.intro (fun h => Bool.noConfusion h) (fun _ => ?_); conv => whnf)))
      rw [hc]
      unfold cin
      rw [← q2, h5]; simp; rfl
  · (conv => whnf); repeat (first | (refine And.intro rfl ?_; conv => whnf) | (refine And.intro (fun _ => ?_) (fun h => Bool.noConfusion h); conv => whnf) | (refine And.intro (fun h => Bool.noConfusion h) (fun _ => ?_); conv => whnf))
    refine Exists.intro [] (And.intro List.nodup_nil ?_); ((conv => whnf); repeat (first | (refine And.intro rfl ?_; conv => whnf) | (refine And.intro (fun _ => ?_) (fun h => Bool.noConfusion h); conv => whnf) | (refine And.intro (fun h => Bool.noConfusion h) (fun _ => ?_); conv => whnf)))
    rw [hc]
    unfold cin
    rw [← q1, h4]; rfl

set_option maxRecDepth 100000 in
set_option maxHeartbeats 8000000 in
theorem ccloneF (ls ps : List Int) (h1 : ls.length ≤ 1000000) (h2 : ps.length ≤ 1000000) : Fun Try.prog 78 [cntV ls ps] [] (.v (cntV ls ps)) := by
  refine fun_of_vc tabOk mixOk Try.func78 rfl (by rfl) (rs := [.cell 2 34]) rfl rfl 14 ?_; rw [Try.ntmps78]
  (conv => whnf); repeat (first | (refine And.intro rfl ?_; conv => whnf) | (refine And.intro (fun _ => ?_) (fun h => Bool.noConfusion h); conv => whnf) | (refine And.intro (fun h => Bool.noConfusion h) (fun _ => ?_); conv => whnf))
  refine ⟨_, _, cloneI ls h1, ?_⟩
  (conv => whnf); repeat (first | (refine And.intro rfl ?_; conv => whnf) | (refine And.intro (fun _ => ?_) (fun h => Bool.noConfusion h); conv => whnf) | (refine And.intro (fun h => Bool.noConfusion h) (fun _ => ?_); conv => whnf))
  refine ⟨_, _, cloneI ps h2, ?_⟩
  (conv => whnf); repeat (first | (refine And.intro rfl ?_; conv => whnf) | (refine And.intro (fun _ => ?_) (fun h => Bool.noConfusion h); conv => whnf) | (refine And.intro (fun h => Bool.noConfusion h) (fun _ => ?_); conv => whnf))
  refine Exists.intro [] (And.intro List.nodup_nil ?_); ((conv => whnf); repeat (first | (refine And.intro rfl ?_; conv => whnf) | (refine And.intro (fun _ => ?_) (fun h => Bool.noConfusion h); conv => whnf) | (refine And.intro (fun h => Bool.noConfusion h) (fun _ => ?_); conv => whnf)))
  rfl
set_option maxRecDepth 100000 in
set_option maxHeartbeats 8000000 in
/-- A copy that is the caller's own. -/
theorem ccloneO (l p : Int) (ls ps : List Int) (h1 : (l :: ls).length ≤ 1000000) (h2 : (p :: ps).length ≤ 1000000) : Fun Try.prog 78 [cntV (l :: ls) (p :: ps)] [.row 0 3 1 (wV (l :: ls)), .row 0 3 1 (wV (p :: ps))] (.v (.agg [.own 0 0, .own 1 0])) := by
  refine fun_of_vc tabOk mixOk Try.func78 rfl (by rfl) (rs := [.cell 2 34]) rfl rfl 14 ?_; rw [Try.ntmps78]
  (conv => whnf); repeat (first | (refine And.intro rfl ?_; conv => whnf) | (refine And.intro (fun _ => ?_) (fun h => Bool.noConfusion h); conv => whnf) | (refine And.intro (fun h => Bool.noConfusion h) (fun _ => ?_); conv => whnf))
  refine ⟨_, _, cloneO l ls h1, ?_⟩
  (conv => whnf); repeat (first | (refine And.intro rfl ?_; conv => whnf) | (refine And.intro (fun _ => ?_) (fun h => Bool.noConfusion h); conv => whnf) | (refine And.intro (fun h => Bool.noConfusion h) (fun _ => ?_); conv => whnf))
  refine ⟨_, _, cloneO p ps h2, ?_⟩
  (conv => whnf); repeat (first | (refine And.intro rfl ?_; conv => whnf) | (refine And.intro (fun _ => ?_) (fun h => Bool.noConfusion h); conv => whnf) | (refine And.intro (fun h => Bool.noConfusion h) (fun _ => ?_); conv => whnf))
  refine ⟨[5, 8], by simp, ?_⟩
  (conv => whnf); repeat (first | (refine And.intro rfl ?_; conv => whnf) | (refine And.intro (fun _ => ?_) (fun h => Bool.noConfusion h); conv => whnf) | (refine And.intro (fun h => Bool.noConfusion h) (fun _ => ?_); conv => whnf))
  rfl

def cidx (ls ps : List Int) (z : Int) : Bool := cvalid ls ps && decide (0 ≤ z ∧ z < ls.length)
def cbegin (ls ps : List Int) (z : Int) : List Int × Bool := if cidx ls ps z = false ∨ ps[z.toNat]? = some 1099511627776 then (ps, false) else (ps.set z.toNat ((ps[z.toNat]?).getD 0 + 1), true)
def cend (ls ps : List Int) (z : Int) : List Int × Bool := if cidx ls ps z = false ∨ ps[z.toNat]? = some 0 then (ps, false) else (ps.set z.toNat ((ps[z.toNat]?).getD 0 - 1), true)
theorem cidx_nat {ls ps : List Int} {z : Int} (h : cidx ls ps z = true) : ∃ k : Nat, z = k ∧ k < ls.length ∧ k < ps.length ∧ cin ps = true ∧ cin ls = true := by
  unfold cidx cvalid at h
  simp only [Bool.and_eq_true, decide_eq_true_eq] at h
  obtain ⟨k, rfl⟩ := Int.eq_ofNat_of_zero_le h.2.1
  exact ⟨k, rfl, by omega, by omega, h.1.2.2, h.1.2.1⟩
theorem cin_get {ws : List Int} (h : cin ws = true) {k : Nat} (hk : k < ws.length) : 0 ≤ ws[k] ∧ ws[k] ≤ 1099511627776 := by
  unfold cin at h
  simp only [Bool.and_eq_true, List.all_eq_true, decide_eq_true_eq] at h
  exact ⟨h.1 _ (List.getElem_mem hk), h.2 _ (List.getElem_mem hk)⟩

set_option maxRecDepth 100000 in
set_option maxHeartbeats 8000000 in
theorem cidxF (ls ps : List Int) (z : Int) : Fun Try.prog 79 [cntV ls ps, i64V z] [] (ATbool (cidx ls ps z)) := by
  refine fun_of_vc tabOk mixOk Try.func79 rfl (by rfl) (rs := [.tmp 4]) rfl rfl 22 ?_; rw [Try.ntmps79]
  (conv => whnf); repeat (first | (refine And.intro rfl ?_; conv => whnf) | (refine And.intro (fun _ => ?_) (fun h => Bool.noConfusion h); conv => whnf) | (refine And.intro (fun h => Bool.noConfusion h) (fun _ => ?_); conv => whnf))
  refine ⟨_, _, cvalidF ls ps, ?_⟩
  (conv => whnf); repeat (first | (refine And.intro rfl ?_; conv => whnf) | (refine And.intro (fun _ => ?_) (fun h => Bool.noConfusion h); conv => whnf) | (refine And.intro (fun h => Bool.noConfusion h) (fun _ => ?_); conv => whnf))
  refine And.intro (fun h1 => ?_) (fun h1 => ?_)
  · (conv => whnf); repeat (first | (refine And.intro rfl ?_; conv => whnf) | (refine And.intro (fun _ => ?_) (fun h => Bool.noConfusion h); conv => whnf) | (refine And.intro (fun h => Bool.noConfusion h) (fun _ => ?_); conv => whnf))
    refine And.intro (fun h2 => ?_) (fun h2 => ?_)
    · (conv => whnf); repeat (first | (refine And.intro rfl ?_; conv => whnf) | (refine And.intro (fun _ => ?_) (fun h => Bool.noConfusion h); conv => whnf) | (refine And.intro (fun h => Bool.noConfusion h) (fun _ => ?_); conv => whnf))
      refine Exists.intro [] (And.intro List.nodup_nil ?_); ((conv => whnf); repeat (first | (refine And.intro rfl ?_; conv => whnf) | (refine And.intro (fun _ => ?_) (fun h => Bool.noConfusion h); conv => whnf) | (refine And.intro (fun h => Bool.noConfusion h) (fun _ => ?_); conv => whnf)))
      have h2' := of_decide_eq_true h2
      have e : cidx ls ps z = decide (z < ((wV ls).length : Int)) := by
        unfold cidx
        rw [h1, Bool.true_and, decide_eq_decide, wV, List.length_map]; omega
      rw [e]; rfl
    · (conv => whnf); repeat (first | (refine And.intro rfl ?_; conv => whnf) | (refine And.intro (fun _ => ?_) (fun h => Bool.noConfusion h); conv => whnf) | (refine And.intro (fun h => Bool.noConfusion h) (fun _ => ?_); conv => whnf))
      refine Exists.intro [] (And.intro List.nodup_nil ?_); ((conv => whnf); repeat (first | (refine And.intro rfl ?_; conv => whnf) | (refine And.intro (fun _ => ?_) (fun h => Bool.noConfusion h); conv => whnf) | (refine And.intro (fun h => Bool.noConfusion h) (fun _ => ?_); conv => whnf)))
      have h2' := of_decide_eq_false h2
      unfold cidx
      rw [decide_eq_false (p := 0 ≤ z ∧ z < ls.length) (by omega), Bool.and_false]; rfl
  · (conv => whnf); repeat (first | (refine And.intro rfl ?_; conv => whnf) | (refine And.intro (fun _ => ?_) (fun h => Bool.noConfusion h); conv => whnf) | (refine And.intro (fun h => Bool.noConfusion h) (fun _ => ?_); conv => whnf))
    refine Exists.intro [] (And.intro List.nodup_nil ?_); ((conv => whnf); repeat (first | (refine And.intro rfl ?_; conv => whnf) | (refine And.intro (fun _ => ?_) (fun h => Bool.noConfusion h); conv => whnf) | (refine And.intro (fun h => Bool.noConfusion h) (fun _ => ?_); conv => whnf)))
    unfold cidx
    rw [h1]; rfl

set_option maxRecDepth 100000 in
set_option maxHeartbeats 8000000 in
theorem cbeginF (ls ps : List Int) (z : Int) (hl : ls.length ≤ 1000000) (hp : ps.length ≤ 1000000) : Fun Try.prog 34 [cntV ls ps, i64V z] [] (.tup [cntV ls (cbegin ls ps z).1, bV (cbegin ls ps z).2]) := by
  have ix := cidxF ls ps z
  by_cases hc : cidx ls ps z = true
  · obtain ⟨k, rfl, k1, k2, k3, k4⟩ := cidx_nat hc
    rw [hc] at ix
    have hv := cin_get k3 k2
    cases ls with
    | nil => simp at k1
    | cons l ls =>
    cases ps with
    | nil => simp at k2
    | cons p ps =>
    refine fun_of_vc tabOk mixOk Try.func34 rfl (by rfl) (rs := [.cell 4 34, .tmp 5]) rfl rfl 34 ?_; rw [Try.ntmps34]
    (conv => whnf); repeat (first | (refine And.intro rfl ?_; conv => whnf) | (refine And.intro (fun _ => ?_) (fun h => Bool.noConfusion h); conv => whnf) | (refine And.intro (fun h => Bool.noConfusion h) (fun _ => ?_); conv => whnf))
    refine ⟨_, _, ccloneO l p ls ps hl hp, ?_⟩
    (conv => whnf); repeat (first | (refine And.intro rfl ?_; conv => whnf) | (refine And.intro (fun _ => ?_) (fun h => Bool.noConfusion h); conv => whnf) | (refine And.intro (fun h => Bool.noConfusion h) (fun _ => ?_); conv => whnf))
    refine ⟨_, _, ix, ?_⟩
    (conv => whnf); repeat (first | (refine And.intro rfl ?_; conv => whnf) | (refine And.intro (fun _ => ?_) (fun h => Bool.noConfusion h); conv => whnf) | (refine And.intro (fun h => Bool.noConfusion h) (fun _ => ?_); conv => whnf))
    refine ⟨by omega, _, wItem k2, rfl, ?_⟩
    (conv => whnf); repeat (first | (refine And.intro rfl ?_; conv => whnf) | (refine And.intro (fun _ => ?_) (fun h => Bool.noConfusion h); conv => whnf) | (refine And.intro (fun h => Bool.noConfusion h) (fun _ => ?_); conv => whnf))
    refine And.intro (fun h => ?_) (fun h => ?_)
    · have h' : (p :: ps)[k] = 1099511627776 := by simpa using h
      have e : cbegin (l :: ls) (p :: ps) k = (p :: ps, false) := by unfold cbegin; rw [if_pos (Or.inr (by rw [Int.toNat_natCast, List.getElem?_eq_getElem k2, h']))]
      (conv => whnf); repeat (first | (refine And.intro rfl ?_; conv => whnf) | (refine And.intro (fun _ => ?_) (fun h => Bool.noConfusion h); conv => whnf) | (refine And.intro (fun h => Bool.noConfusion h) (fun _ => ?_); conv => whnf))
      refine Exists.intro [] (And.intro List.nodup_nil ?_); ((conv => whnf); repeat (first | (refine And.intro rfl ?_; conv => whnf) | (refine And.intro (fun _ => ?_) (fun h => Bool.noConfusion h); conv => whnf) | (refine And.intro (fun h => Bool.noConfusion h) (fun _ => ?_); conv => whnf)))
      rw [e]; rfl
    · have h' : ¬ (p :: ps)[k] = 1099511627776 := by simpa using h
      have e : cbegin (l :: ls) (p :: ps) k = ((p :: ps).set k ((p :: ps)[k] + 1), true) := by
        unfold cbegin
        rw [if_neg (by rw [hc, Int.toNat_natCast, List.getElem?_eq_getElem k2]; simpa using h'), Int.toNat_natCast, List.getElem?_eq_getElem k2]; rfl
      (conv => whnf); repeat (first | (refine And.intro rfl ?_; conv => whnf) | (refine And.intro (fun _ => ?_) (fun h => Bool.noConfusion h); conv => whnf) | (refine And.intro (fun h => Bool.noConfusion h) (fun _ => ?_); conv => whnf))
      refine ⟨by omega, by simpa [wV] using k2, ?_⟩
      (conv => whnf); repeat (first | (refine And.intro rfl ?_; conv => whnf) | (refine And.intro (fun _ => ?_) (fun h => Bool.noConfusion h); conv => whnf) | (refine And.intro (fun h => Bool.noConfusion h) (fun _ => ?_); conv => whnf))
      refine ⟨_, wItem k2, ?_⟩
      (conv => whnf); repeat (first | (refine And.intro rfl ?_; conv => whnf) | (refine And.intro (fun _ => ?_) (fun h => Bool.noConfusion h); conv => whnf) | (refine And.intro (fun h => Bool.noConfusion h) (fun _ => ?_); conv => whnf))
      refine ⟨by omega, by simpa [wV] using k2, ?_⟩
      (conv => whnf); repeat (first | (refine And.intro rfl ?_; conv => whnf) | (refine And.intro (fun _ => ?_) (fun h => Bool.noConfusion h); conv => whnf) | (refine And.intro (fun h => Bool.noConfusion h) (fun _ => ?_); conv => whnf))
      refine ⟨_, wItem k2, ?_⟩
      (conv => whnf); repeat (first | (refine And.intro rfl ?_; conv => whnf) | (refine And.intro (fun _ => ?_) (fun h => Bool.noConfusion h); conv => whnf) | (refine And.intro (fun h => Bool.noConfusion h) (fun _ => ?_); conv => whnf))
      refine Exists.intro [] (And.intro List.nodup_nil ?_); ((conv => whnf); repeat (first | (refine And.intro rfl ?_; conv => whnf) | (refine And.intro (fun _ => ?_) (fun h => Bool.noConfusion h); conv => whnf) | (refine And.intro (fun h => Bool.noConfusion h) (fun _ => ?_); conv => whnf)))
      rw [e]
      have hw : iwrap .i64 ((p :: ps)[k] + 1) = (p :: ps)[k] + 1 := w64_in (by omega)
      rw [hw]
      exact congrArg (fun x => AT.tup [.agg [.i (.sl (wV (l :: ls))), .i (.sl x)], bV true]) (wset (p :: ps) k _)
  · have hc : cidx ls ps z = false := by simpa using hc
    have e : cbegin ls ps z = (ps, false) := by unfold cbegin; rw [if_pos (Or.inl hc)]
    rw [hc] at ix
    refine fun_of_vc tabOk mixOk Try.func34 rfl (by rfl) (rs := [.cell 4 34, .tmp 5]) rfl rfl 34 ?_; rw [Try.ntmps34]
    (conv => whnf); repeat (first | (refine And.intro rfl ?_; conv => whnf) | (refine And.intro (fun _ => ?_) (fun h => Bool.noConfusion h); conv => whnf) | (refine And.intro (fun h => Bool.noConfusion h) (fun _ => ?_); conv => whnf))
    refine ⟨_, _, ccloneF ls ps hl hp, ?_⟩
    (conv => whnf); repeat (first | (refine And.intro rfl ?_; conv => whnf) | (refine And.intro (fun _ => ?_) (fun h => Bool.noConfusion h); conv => whnf) | (refine And.intro (fun h => Bool.noConfusion h) (fun _ => ?_); conv => whnf))
    refine ⟨_, _, ix, ?_⟩
    (conv => whnf); repeat (first | (refine And.intro rfl ?_; conv => whnf) | (refine And.intro (fun _ => ?_) (fun h => Bool.noConfusion h); conv => whnf) | (refine And.intro (fun h => Bool.noConfusion h) (fun _ => ?_); conv => whnf))
    refine Exists.intro [] (And.intro List.nodup_nil ?_); ((conv => whnf); repeat (first | (refine And.intro rfl ?_; conv => whnf) | (refine And.intro (fun _ => ?_) (fun h => Bool.noConfusion h); conv => whnf) | (refine And.intro (fun h => Bool.noConfusion h) (fun _ => ?_); conv => whnf)))
    rw [e]; rfl

set_option maxRecDepth 100000 in
set_option maxHeartbeats 8000000 in
theorem cendF (ls ps : List Int) (z : Int) (hl : ls.length ≤ 1000000) (hp : ps.length ≤ 1000000) : Fun Try.prog 35 [cntV ls ps, i64V z] [] (.tup [cntV ls (cend ls ps z).1, bV (cend ls ps z).2]) := by
  have ix := cidxF ls ps z
  by_cases hc : cidx ls ps z = true
  · obtain ⟨k, rfl, k1, k2, k3, k4⟩ := cidx_nat hc
    rw [hc] at ix
    have hv := cin_get k3 k2
    cases ls with
    | nil => simp at k1
    | cons l ls =>
    cases ps with
    | nil => simp at k2
    | cons p ps =>
    refine fun_of_vc tabOk mixOk Try.func35 rfl (by rfl) (rs := [.cell 4 34, .tmp 5]) rfl rfl 34 ?_; rw [Try.ntmps35]
    (conv => whnf); repeat (first | (refine And.intro rfl ?_; conv => whnf) | (refine And.intro (fun _ => ?_) (fun h => Bool.noConfusion h); conv => whnf) | (refine And.intro (fun h => Bool.noConfusion h) (fun _ => ?_); conv => whnf))
    refine ⟨_, _, ccloneO l p ls ps hl hp, ?_⟩
    (conv => whnf); repeat (first | (refine And.intro rfl ?_; conv => whnf) | (refine And.intro (fun _ => ?_) (fun h => Bool.noConfusion h); conv => whnf) | (refine And.intro (fun h => Bool.noConfusion h) (fun _ => ?_); conv => whnf))
    refine ⟨_, _, ix, ?_⟩
    (conv => whnf); repeat (first | (refine And.intro rfl ?_; conv => whnf) | (refine And.intro (fun _ => ?_) (fun h => Bool.noConfusion h); conv => whnf) | (refine And.intro (fun h => Bool.noConfusion h) (fun _ => ?_); conv => whnf))
    refine ⟨by omega, _, wItem k2, rfl, ?_⟩
    (conv => whnf); repeat (first | (refine And.intro rfl ?_; conv => whnf) | (refine And.intro (fun _ => ?_) (fun h => Bool.noConfusion h); conv => whnf) | (refine And.intro (fun h => Bool.noConfusion h) (fun _ => ?_); conv => whnf))
    refine And.intro (fun h => ?_) (fun h => ?_)
    · have h' : (p :: ps)[k] = 0 := by simpa using h
      have e : cend (l :: ls) (p :: ps) k = (p :: ps, false) := by unfold cend; rw [if_pos (Or.inr (by rw [Int.toNat_natCast, List.getElem?_eq_getElem k2, h']))]
      (conv => whnf); repeat (first | (refine And.intro rfl ?_; conv => whnf) | (refine And.intro (fun _ => ?_) (fun h => Bool.noConfusion h); conv => whnf) | (refine And.intro (fun h => Bool.noConfusion h) (fun _ => ?_); conv => whnf))
      refine Exists.intro [] (And.intro List.nodup_nil ?_); ((conv => whnf); repeat (first | (refine And.intro rfl ?_; conv => whnf) | (refine And.intro (fun _ => ?_) (fun h => Bool.noConfusion h); conv => whnf) | (refine And.intro (fun h => Bool.noConfusion h) (fun _ => ?_); conv => whnf)))
      rw [e]; rfl
    · have h' : ¬ (p :: ps)[k] = 0 := by simpa using h
      have e : cend (l :: ls) (p :: ps) k = ((p :: ps).set k ((p :: ps)[k] - 1), true) := by
        unfold cend
        rw [if_neg (by rw [hc, Int.toNat_natCast, List.getElem?_eq_getElem k2]; simpa using h'), Int.toNat_natCast, List.getElem?_eq_getElem k2]; rfl
      (conv => whnf); repeat (first | (refine And.intro rfl ?_; conv => whnf) | (refine And.intro (fun _ => ?_) (fun h => Bool.noConfusion h); conv => whnf) | (refine And.intro (fun h => Bool.noConfusion h) (fun _ => ?_); conv => whnf))
      refine ⟨by omega, by simpa [wV] using k2, ?_⟩
      (conv => whnf); repeat (first | (refine And.intro rfl ?_; conv => whnf) | (refine And.intro (fun _ => ?_) (fun h => Bool.noConfusion h); conv => whnf) | (refine And.intro (fun h => Bool.noConfusion h) (fun _ => ?_); conv => whnf))
      refine ⟨_, wItem k2, ?_⟩
      (conv => whnf); repeat (first | (refine And.intro rfl ?_; conv => whnf) | (refine And.intro (fun _ => ?_) (fun h => Bool.noConfusion h); conv => whnf) | (refine And.intro (fun h => Bool.noConfusion h) (fun _ => ?_); conv => whnf))
      refine ⟨by omega, by simpa [wV] using k2, ?_⟩
      (conv => whnf); repeat (first | (refine And.intro rfl ?_; conv => whnf) | (refine And.intro (fun _ => ?_) (fun h => Bool.noConfusion h); conv => whnf) | (refine And.intro (fun h => Bool.noConfusion h) (fun _ => ?_); conv => whnf))
      refine ⟨_, wItem k2, ?_⟩
      (conv => whnf); repeat (first | (refine And.intro rfl ?_; conv => whnf) | (refine And.intro (fun _ => ?_) (fun h => Bool.noConfusion h); conv => whnf) | (refine And.intro (fun h => Bool.noConfusion h) (fun _ => ?_); conv => whnf))
      refine Exists.intro [] (And.intro List.nodup_nil ?_); ((conv => whnf); repeat (first | (refine And.intro rfl ?_; conv => whnf) | (refine And.intro (fun _ => ?_) (fun h => Bool.noConfusion h); conv => whnf) | (refine And.intro (fun h => Bool.noConfusion h) (fun _ => ?_); conv => whnf)))
      rw [e]
      have hw : iwrap .i64 ((p :: ps)[k] - 1) = (p :: ps)[k] - 1 := w64_in (by omega)
      rw [hw]
      exact congrArg (fun x => AT.tup [.agg [.i (.sl (wV (l :: ls))), .i (.sl x)], bV true]) (wset (p :: ps) k _)
  · have hc : cidx ls ps z = false := by simpa using hc
    have e : cend ls ps z = (ps, false) := by unfold cend; rw [if_pos (Or.inl hc)]
    rw [hc] at ix
    refine fun_of_vc tabOk mixOk Try.func35 rfl (by rfl) (rs := [.cell 4 34, .tmp 5]) rfl rfl 34 ?_; rw [Try.ntmps35]
    (conv => whnf); repeat (first | (refine And.intro rfl ?_; conv => whnf) | (refine And.intro (fun _ => ?_) (fun h => Bool.noConfusion h); conv => whnf) | (refine And.intro (fun h => Bool.noConfusion h) (fun _ => ?_); conv => whnf))
    refine ⟨_, _, ccloneF ls ps hl hp, ?_⟩
    (conv => whnf); repeat (first | (refine And.intro rfl ?_; conv => whnf) | (refine And.intro (fun _ => ?_) (fun h => Bool.noConfusion h); conv => whnf) | (refine And.intro (fun h => Bool.noConfusion h) (fun _ => ?_); conv => whnf))
    refine ⟨_, _, ix, ?_⟩
    (conv => whnf); repeat (first | (refine And.intro rfl ?_; conv => whnf) | (refine And.intro (fun _ => ?_) (fun h => Bool.noConfusion h); conv => whnf) | (refine And.intro (fun h => Bool.noConfusion h) (fun _ => ?_); conv => whnf))
    refine Exists.intro [] (And.intro List.nodup_nil ?_); ((conv => whnf); repeat (first | (refine And.intro rfl ?_; conv => whnf) | (refine And.intro (fun _ => ?_) (fun h => Bool.noConfusion h); conv => whnf) | (refine And.intro (fun h => Bool.noConfusion h) (fun _ => ?_); conv => whnf)))
    rw [e]; rfl

end Go.Proofs.Ytijajfldpaadnaa.Ab
