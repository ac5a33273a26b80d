/- The counters: Change. -/
import Derived.Test.YtijajfldpaadnaaLd
import Derived.Test.YtijajfldpaadnaaGe
namespace Go.Proofs.Ytijajfldpaadnaa.Ab
set_option linter.unusedVariables false
set_option linter.unusedSimpArgs false
open Go.RowKit

def cupd (ls : List Int) (z n : Int) : List Int := ls.set z.toNat ((ls[z.toNat]?).getD 0 + n)
def cchange (ls ps : List Int) (z1 z2 : Int) (had has : Bool) : List Int × Bool :=
  if cvalid ls ps = false ∨ (had = true ∧ cidx ls ps z1 = false) ∨ (has = true ∧ cidx ls ps z2 = false) then (ls, false)
  else
    let l1 := if had then cupd ls z1 (-1) else ls
    let l2 := if has then cupd l1 z2 1 else l1
    if cvalid l2 ps then (l2, true) else (ls, false)
theorem cupd_nat (ls : List Int) (k : Nat) (n : Int) (h : k < ls.length) : cupd ls k n = ls.set k (ls[k] + n) := by
  unfold cupd; rw [Int.toNat_natCast, List.getElem?_eq_getElem h]; rfl
theorem cupd_len (ls : List Int) (z n : Int) : (cupd ls z n).length = ls.length := by simp [cupd]
theorem cupd_back (ls : List Int) (z : Int) : cupd (cupd ls z (-1)) z 1 = ls := by
  unfold cupd
  by_cases h : z.toNat < ls.length
  · simp [h, List.getElem?_eq_getElem h]
    rw [show ls[z.toNat] + -1 + 1 = ls[z.toNat] by omega]
    simp
  · rw [List.set_eq_of_length_le (by simp; omega), List.set_eq_of_length_le (by omega)]
theorem cvalid_in {ls ps : List Int} (h : cvalid ls ps = true) : cin ls = true ∧ 1 ≤ ls.length ∧ ls.length ≤ 32 ∧ ps.length = ls.length := by
  unfold cvalid at h
  simp only [Bool.and_eq_true, decide_eq_true_eq] at h
  exact ⟨h.2.1, h.1.2.1, h.1.2.2, h.1.1.symm⟩
theorem cidx_iff {ls ps : List Int} {z : Int} (h : cvalid ls ps = true) : cidx ls ps z = true ↔ 0 ≤ z ∧ z < ls.length := by
  unfold cidx; rw [h]; simp
theorem cchange_tt {ls ps : List Int} {k1 k2 : Nat} (hv : cvalid ls ps = true) (h1 : k1 < ls.length) (h2 : k2 < ls.length) :
    cchange ls ps k1 k2 true true = if cvalid (cupd (cupd ls k1 (-1)) k2 1) ps then (cupd (cupd ls k1 (-1)) k2 1, true) else (ls, false) := by
  unfold cchange
  have q1 := (cidx_iff hv (z := (k1 : Int))).2 ⟨by omega, by omega⟩
  have q2 := (cidx_iff hv (z := (k2 : Int))).2 ⟨by omega, by omega⟩
  rw [if_neg (by simp [hv, q1, q2])]
  rfl
theorem cchange_tf {ls ps : List Int} {k1 : Nat} {z : Int} (hv : cvalid ls ps = true) (h1 : k1 < ls.length) :
    cchange ls ps k1 z true false = if cvalid (cupd ls k1 (-1)) ps then (cupd ls k1 (-1), true) else (ls, false) := by
  unfold cchange
  have q1 := (cidx_iff hv (z := (k1 : Int))).2 ⟨by omega, by omega⟩
  rw [if_neg (by simp [hv, q1])]
  rfl
theorem cchange_ft {ls ps : List Int} {k2 : Nat} {z : Int} (hv : cvalid ls ps = true) (h1 : k2 < ls.length) :
    cchange ls ps z k2 false true = if cvalid (cupd ls k2 1) ps then (cupd ls k2 1, true) else (ls, false) := by
  unfold cchange
  have q1 := (cidx_iff hv (z := (k2 : Int))).2 ⟨by omega, by omega⟩
  rw [if_neg (by simp [hv, q1])]
  rfl
theorem cchange_no {ls ps : List Int} {z1 z2 : Int} {a b : Bool} (h : (a = true ∧ cidx ls ps z1 = false) ∨ (b = true ∧ cidx ls ps z2 = false)) : cchange ls ps z1 z2 a b = (ls, false) := by
  unfold cchange; rw [if_pos (Or.inr h)]
theorem cchange_eq {ls ps : List Int} {k : Nat} (hv : cvalid ls ps = true) (h1 : k < ls.length) : cchange ls ps k k true true = (ls, true) := by
  rw [cchange_tt hv h1 h1, cupd_back, hv]; rfl
theorem wupd (ls : List Int) (k : Nat) (n m : Int) (h : k < ls.length) (he : m = ls[k] + n) : (wV ls).set ((k : Int)).toNat [.sc (.int .i64 m)] = wV (cupd ls k n) := by
  rw [wset, cupd_nat _ _ _ h, he]

set_option maxRecDepth 100000 in
set_option maxHeartbeats 16000000 in
theorem cchangeF (ls ps : List Int) (a b : Ety) (had has : Bool) (hl : ls.length ≤ 1000000) (hp : ps.length ≤ 1000000) : Fun Try.prog 30 [cntV ls ps, eV a, eV b, bV had, bV has] [] (.tup [cntV (cchange ls ps a.z b.z had has).1 ps, bV (cchange ls ps a.z b.z had has).2]) := by
  have cl := ccloneF ls ps hl hp
  have vx := cvalidF ls ps
  by_cases hv : cvalid ls ps = false
  · have e : cchange ls ps a.z b.z had has = (ls, false) := by unfold cchange; rw [if_pos (Or.inl hv)]
    rw [hv] at vx
    refine fun_of_vc tabOk mixOk Try.func30 rfl (by rfl) (rs := [.cell 10 34, .tmp 11]) rfl rfl 90 ?_; rw [Try.ntmps30]
    (conv => whnf); repeat (first | (refine And.intro rfl ?_; conv => whnf) | (refine And.intro (fun _ => ?_) (fun h => Bool.noConfusion h); conv => whnf) | (refine And.intro (fun h => Bool.noConfusion h) (fun _ => ?_); conv => whnf))
    refine ⟨_, _, vx, ?_⟩
    (conv => whnf); repeat (first | (refine And.intro rfl ?_; conv => whnf) | (refine And.intro (fun _ => ?_) (fun h => Bool.noConfusion h); conv => whnf) | (refine And.intro (fun h => Bool.noConfusion h) (fun _ => ?_); conv => whnf))
    refine ⟨_, _, cl, ?_⟩
    (conv => whnf); repeat (first | (refine And.intro rfl ?_; conv => whnf) | (refine And.intro (fun _ => ?_) (fun h => Bool.noConfusion h); conv => whnf) | (refine And.intro (fun h => Bool.noConfusion h) (fun _ => ?_); conv => whnf))
    refine Exists.intro [] (And.intro List.nodup_nil ?_); ((conv => whnf); repeat (first | (refine And.intro rfl ?_; conv => whnf) | (refine And.intro (fun _ => ?_) (fun h => Bool.noConfusion h); conv => whnf) | (refine And.intro (fun h => Bool.noConfusion h) (fun _ => ?_); conv => whnf)))
    rw [e]; rfl
  have hv : cvalid ls ps = true := by simpa using hv
  obtain ⟨hin, n1, n2, n3⟩ := cvalid_in hv
  obtain ⟨ab, ak, av, am, az, ao⟩ := a
  obtain ⟨bb, bk, bv, bm, bz, bo⟩ := b
  have i1 := cidxF ls ps az
  have i2 := cidxF ls ps bz
  rw [hv] at vx
  show Fun _ _ [cntV ls ps, eA ab ak av am az ao, eA bb bk bv bm bz bo, bV had, bV has] [] (.tup [cntV (cchange ls ps az bz had has).1 ps, bV (cchange ls ps az bz had has).2])
  cases ls with
  | nil => simp at n1
  | cons l ls =>
  cases ps with
  | nil => simp at n3
  | cons p ps =>
  have co := ccloneO l p ls ps hl hp
  cases had <;> cases has
  · have e : cchange (l :: ls) (p :: ps) az bz false false = (l :: ls, true) := by simp [cchange, hv]
    refine fun_of_vc tabOk mixOk Try.func30 rfl (by rfl) (rs := [.cell 10 34, .tmp 11]) rfl rfl 90 ?_; rw [Try.ntmps30]
    (conv => whnf); repeat (first | (refine And.intro rfl ?_; conv => whnf) | (refine And.intro (fun _ => ?_) (fun h => Bool.noConfusion h); conv => whnf) | (refine And.intro (fun h => Bool.noConfusion h) (fun _ => ?_); conv => whnf))
    refine ⟨_, _, vx, ?_⟩
    (conv => whnf); repeat (first | (refine And.intro rfl ?_; conv => whnf) | (refine And.intro (fun _ => ?_) (fun h => Bool.noConfusion h); conv => whnf) | (refine And.intro (fun h => Bool.noConfusion h) (fun _ => ?_); conv => whnf))
    refine ⟨_, _, co, ?_⟩
    (conv => whnf); repeat (first | (refine And.intro rfl ?_; conv => whnf) | (refine And.intro (fun _ => ?_) (fun h => Bool.noConfusion h); conv => whnf) | (refine And.intro (fun h => Bool.noConfusion h) (fun _ => ?_); conv => whnf))
    refine ⟨_, _, vx, ?_⟩
    (conv => whnf); repeat (first | (refine And.intro rfl ?_; conv => whnf) | (refine And.intro (fun _ => ?_) (fun h => Bool.noConfusion h); conv => whnf) | (refine And.intro (fun h => Bool.noConfusion h) (fun _ => ?_); conv => whnf))
    refine Exists.intro [] (And.intro List.nodup_nil ?_); ((conv => whnf); repeat (first | (refine And.intro rfl ?_; conv => whnf) | (refine And.intro (fun _ => ?_) (fun h => Bool.noConfusion h); conv => whnf) | (refine And.intro (fun h => Bool.noConfusion h) (fun _ => ?_); conv => whnf)))
    rw [e]; rfl
  · by_cases c2 : cidx (l :: ls) (p :: ps) bz = true
    · obtain ⟨k, rfl, k1, _, _, _⟩ := cidx_nat c2
      rw [c2] at i2
      have hb := cin_get hin k1
      have hw : iwrap .i64 ((l :: ls)[k] + 1) = (l :: ls)[k] + 1 := w64_in (by omega)
      have e := cchange_ft (z := az) hv k1
      have s1 := wupd (l :: ls) k 1 _ k1 hw
      refine fun_of_vc tabOk mixOk Try.func30 rfl (by rfl) (rs := [.cell 10 34, .tmp 11]) rfl rfl 90 ?_; rw [Try.ntmps30]
      (conv => whnf); repeat (first | (refine And.intro rfl ?_; conv => whnf) | (refine And.intro (fun _ => ?_) (fun h => Bool.noConfusion h); conv => whnf) | (refine And.intro (fun h => Bool.noConfusion h) (fun _ => ?_); conv => whnf))
      refine ⟨_, _, vx, ?_⟩
      (conv => whnf); repeat (first | (refine And.intro rfl ?_; conv => whnf) | (refine And.intro (fun _ => ?_) (fun h => Bool.noConfusion h); conv => whnf) | (refine And.intro (fun h => Bool.noConfusion h) (fun _ => ?_); conv => whnf))
      refine ⟨_, _, i2, ?_⟩
      (conv => whnf); repeat (first | (refine And.intro rfl ?_; conv => whnf) | (refine And.intro (fun _ => ?_) (fun h => Bool.noConfusion h); conv => whnf) | (refine And.intro (fun h => Bool.noConfusion h) (fun _ => ?_); conv => whnf))
      refine ⟨_, _, co, ?_⟩
      (conv => whnf); repeat (first | (refine And.intro rfl ?_; conv => whnf) | (refine And.intro (fun _ => ?_) (fun h => Bool.noConfusion h); conv => whnf) | (refine And.intro (fun h => Bool.noConfusion h) (fun _ => ?_); conv => whnf))
      refine ⟨by omega, by simpa [wV] using k1, ?_⟩
      (conv => whnf); repeat (first | (refine And.intro rfl ?_; conv => whnf) | (refine And.intro (fun _ => ?_) (fun h => Bool.noConfusion h); conv => whnf) | (refine And.intro (fun h => Bool.noConfusion h) (fun _ => ?_); conv => whnf))
      refine ⟨_, wItem k1, ?_⟩
      (conv => whnf); repeat (first | (refine And.intro rfl ?_; conv => whnf) | (refine And.intro (fun _ => ?_) (fun h => Bool.noConfusion h); conv => whnf) | (refine And.intro (fun h => Bool.noConfusion h) (fun _ => ?_); conv => whnf))
      refine ⟨by omega, by simpa [wV] using k1, ?_⟩
      (conv => whnf); repeat (first | (refine And.intro rfl ?_; conv => whnf) | (refine And.intro (fun _ => ?_) (fun h => Bool.noConfusion h); conv => whnf) | (refine And.intro (fun h => Bool.noConfusion h) (fun _ => ?_); conv => whnf))
      refine ⟨_, wItem k1, ?_⟩
      (conv => whnf); repeat (first | (refine And.intro rfl ?_; conv => whnf) | (refine And.intro (fun _ => ?_) (fun h => Bool.noConfusion h); conv => whnf) | (refine And.intro (fun h => Bool.noConfusion h) (fun _ => ?_); conv => whnf))
      rw [s1]
      refine ⟨_, _, cvalidF _ (p :: ps), ?_⟩
      (conv => whnf); repeat (first | (refine And.intro rfl ?_; conv => whnf) | (refine And.intro (fun _ => ?_) (fun h => Bool.noConfusion h); conv => whnf) | (refine And.intro (fun h => Bool.noConfusion h) (fun _ => ?_); conv => whnf))
      refine And.intro (fun h => ?_) (fun h => ?_)
      · (conv => whnf); repeat (first | (refine And.intro rfl ?_; conv => whnf) | (refine And.intro (fun _ => ?_) (fun h => Bool.noConfusion h); conv => whnf) | (refine And.intro (fun h => Bool.noConfusion h) (fun _ => ?_); conv => whnf))
        refine ⟨_, _, cl, ?_⟩
        (conv => whnf); repeat (first | (refine And.intro rfl ?_; conv => whnf) | (refine And.intro (fun _ => ?_) (fun h => Bool.noConfusion h); conv => whnf) | (refine And.intro (fun h => Bool.noConfusion h) (fun _ => ?_); conv => whnf))
        refine Exists.intro [] (And.intro List.nodup_nil ?_); ((conv => whnf); repeat (first | (refine And.intro rfl ?_; conv => whnf) | (refine And.intro (fun _ => ?_) (fun h => Bool.noConfusion h); conv => whnf) | (refine And.intro (fun h => Bool.noConfusion h) (fun _ => ?_); conv => whnf)))
        rw [e, if_neg (by simpa using h)]; rfl
      · (conv => whnf); repeat (first | (refine And.intro rfl ?_; conv => whnf) | (refine And.intro (fun _ => ?_) (fun h => Bool.noConfusion h); conv => whnf) | (refine And.intro (fun h => Bool.noConfusion h) (fun _ => ?_); conv => whnf))
        refine Exists.intro [] (And.intro List.nodup_nil ?_); ((conv => whnf); repeat (first | (refine And.intro rfl ?_; conv => whnf) | (refine And.intro (fun _ => ?_) (fun h => Bool.noConfusion h); conv => whnf) | (refine And.intro (fun h => Bool.noConfusion h) (fun _ => ?_); conv => whnf)))
        rw [e, if_pos (by simpa using h)]; rfl
    · have c2 : cidx (l :: ls) (p :: ps) bz = false := by simpa using c2
      rw [c2] at i2
      have e := cchange_no (z1 := az) (a := false) (Or.inr ⟨rfl, c2⟩)
      refine fun_of_vc tabOk mixOk Try.func30 rfl (by rfl) (rs := [.cell 10 34, .tmp 11]) rfl rfl 90 ?_; rw [Try.ntmps30]
      (conv => whnf); repeat (first | (refine And.intro rfl ?_; conv => whnf) | (refine And.intro (fun _ => ?_) (fun h => Bool.noConfusion h); conv => whnf) | (refine And.intro (fun h => Bool.noConfusion h) (fun _ => ?_); conv => whnf))
      refine ⟨_, _, vx, ?_⟩
      (conv => whnf); repeat (first | (refine And.intro rfl ?_; conv => whnf) | (refine And.intro (fun _ => ?_) (fun h => Bool.noConfusion h); conv => whnf) | (refine And.intro (fun h => Bool.noConfusion h) (fun _ => ?_); conv => whnf))
      refine ⟨_, _, i2, ?_⟩
      (conv => whnf); repeat (first | (refine And.intro rfl ?_; conv => whnf) | (refine And.intro (fun _ => ?_) (fun h => Bool.noConfusion h); conv => whnf) | (refine And.intro (fun h => Bool.noConfusion h) (fun _ => ?_); conv => whnf))
      refine ⟨_, _, cl, ?_⟩
      (conv => whnf); repeat (first | (refine And.intro rfl ?_; conv => whnf) | (refine And.intro (fun _ => ?_) (fun h => Bool.noConfusion h); conv => whnf) | (refine And.intro (fun h => Bool.noConfusion h) (fun _ => ?_); conv => whnf))
      refine Exists.intro [] (And.intro List.nodup_nil ?_); ((conv => whnf); repeat (first | (refine And.intro rfl ?_; conv => whnf) | (refine And.intro (fun _ => ?_) (fun h => Bool.noConfusion h); conv => whnf) | (refine And.intro (fun h => Bool.noConfusion h) (fun _ => ?_); conv => whnf)))
      rw [e]; rfl
  · by_cases c1 : cidx (l :: ls) (p :: ps) az = true
    · obtain ⟨k, rfl, k1, _, _, _⟩ := cidx_nat c1
      rw [c1] at i1
      have hb := cin_get hin k1
      have hw : iwrap .i64 ((l :: ls)[k] - 1) = (l :: ls)[k] + -1 := (w64_in (by omega)).trans (by omega)
      have e := cchange_tf (z := bz) hv k1
      have s1 := wupd (l :: ls) k (-1) _ k1 hw
      refine fun_of_vc tabOk mixOk Try.func30 rfl (by rfl) (rs := [.cell 10 34, .tmp 11]) rfl rfl 90 ?_; rw [Try.ntmps30]
      (conv => whnf); repeat (first | (refine And.intro rfl ?_; conv => whnf) | (refine And.intro (fun _ => ?_) (fun h => Bool.noConfusion h); conv => whnf) | (refine And.intro (fun h => Bool.noConfusion h) (fun _ => ?_); conv => whnf))
      refine ⟨_, _, vx, ?_⟩
      (conv => whnf); repeat (first | (refine And.intro rfl ?_; conv => whnf) | (refine And.intro (fun _ => ?_) (fun h => Bool.noConfusion h); conv => whnf) | (refine And.intro (fun h => Bool.noConfusion h) (fun _ => ?_); conv => whnf))
      refine ⟨_, _, i1, ?_⟩
      (conv => whnf); repeat (first | (refine And.intro rfl ?_; conv => whnf) | (refine And.intro (fun _ => ?_) (fun h => Bool.noConfusion h); conv => whnf) | (refine And.intro (fun h => Bool.noConfusion h) (fun _ => ?_); conv => whnf))
      refine ⟨_, _, co, ?_⟩
      (conv => whnf); repeat (first | (refine And.intro rfl ?_; conv => whnf) | (refine And.intro (fun _ => ?_) (fun h => Bool.noConfusion h); conv => whnf) | (refine And.intro (fun h => Bool.noConfusion h) (fun _ => ?_); conv => whnf))
      refine ⟨by omega, by simpa [wV] using k1, ?_⟩
      (conv => whnf); repeat (first | (refine And.intro rfl ?_; conv => whnf) | (refine And.intro (fun _ => ?_) (fun h => Bool.noConfusion h); conv => whnf) | (refine And.intro (fun h => Bool.noConfusion h) (fun _ => ?_); conv => whnf))
      refine ⟨_, wItem k1, ?_⟩
      (conv => whnf); repeat (first | (refine And.intro rfl ?_; conv => whnf) | (refine And.intro (fun _ => ?_) (fun h => Bool.noConfusion h); conv => whnf) | (refine And.intro (fun h => Bool.noConfusion h) (fun _ => ?_); conv => whnf))
      refine ⟨by omega, by simpa [wV] using k1, ?_⟩
      (conv => whnf); repeat (first | (refine And.intro rfl ?_; conv => whnf) | (refine And.intro (fun _ => ?_) (fun h => Bool.noConfusion h); conv => whnf) | (refine And.intro (fun h => Bool.noConfusion h) (fun _ => ?_); conv => whnf))
      refine ⟨_, wItem k1, ?_⟩
      (conv => whnf); repeat (first | (refine And.intro rfl ?_; conv => whnf) | (refine And.intro (fun _ => ?_) (fun h => Bool.noConfusion h); conv => whnf) | (refine And.intro (fun h => Bool.noConfusion h) (fun _ => ?_); conv => whnf))
      rw [s1]
      refine ⟨_, _, cvalidF _ (p :: ps), ?_⟩
      (conv => whnf); repeat (first | (refine And.intro rfl ?_; conv => whnf) | (refine And.intro (fun _ => ?_) (fun h => Bool.noConfusion h); conv => whnf) | (refine And.intro (fun h => Bool.noConfusion h) (fun _ => ?_); conv => whnf))
      refine And.intro (fun h => ?_) (fun h => ?_)
      · (conv => whnf); repeat (first | (refine And.intro rfl ?_; conv => whnf) | (refine And.intro (fun _ => ?_) (fun h => Bool.noConfusion h); conv => whnf) | (refine And.intro (fun h => Bool.noConfusion h) (fun _ => ?_); conv => whnf))
        refine ⟨_, _, cl, ?_⟩
        (conv => whnf); repeat (first | (refine And.intro rfl ?_; conv => whnf) | (refine And.intro (fun _ => ?_) (fun h => Bool.noConfusion h); conv => whnf) | (refine And.intro (fun h => Bool.noConfusion h) (fun _ => ?_); conv => whnf))
        refine Exists.intro [] (And.intro List.nodup_nil ?_); ((conv => whnf); repeat (first | (refine And.intro rfl ?_; conv => whnf) | (refine And.intro (fun _ => ?_) (fun h => Bool.noConfusion h); conv => whnf) | (refine And.intro (fun h => Bool.noConfusion h) (fun _ => ?_); conv => whnf)))
        rw [e, if_neg (by simpa using h)]; rfl
      · (conv => whnf); repeat (first | (refine And.intro rfl ?_; conv => whnf) | (refine And.intro (fun _ => ?_) (fun h => Bool.noConfusion h); conv => whnf) | (refine And.intro (fun h => Bool.noConfusion h) (fun _ => ?_); conv => whnf))
        refine Exists.intro [] (And.intro List.nodup_nil ?_); ((conv => whnf); repeat (first | (refine And.intro rfl ?_; conv => whnf) | (refine And.intro (fun _ => ?_) (fun h => Bool.noConfusion h); conv => whnf) | (refine And.intro (fun h => Bool.noConfusion h) (fun _ => ?_); conv => whnf)))
        rw [e, if_pos (by simpa using h)]; rfl
    · have c1 : cidx (l :: ls) (p :: ps) az = false := by simpa using c1
      rw [c1] at i1
      have e := cchange_no (z2 := bz) (b := false) (Or.inl ⟨rfl, c1⟩)
      refine fun_of_vc tabOk mixOk Try.func30 rfl (by rfl) (rs := [.cell 10 34, .tmp 11]) rfl rfl 90 ?_; rw [Try.ntmps30]
      (conv => whnf); repeat (first | (refine And.intro rfl ?_; conv => whnf) | (refine And.intro (fun _ => ?_) (fun h => Bool.noConfusion h); conv => whnf) | (refine And.intro (fun h => Bool.noConfusion h) (fun _ => ?_); conv => whnf))
      refine ⟨_, _, vx, ?_⟩
      (conv => whnf); repeat (first | (refine And.intro rfl ?_; conv => whnf) | (refine And.intro (fun _ => ?_) (fun h => Bool.noConfusion h); conv => whnf) | (refine And.intro (fun h => Bool.noConfusion h) (fun _ => ?_); conv => whnf))
      refine ⟨_, _, i1, ?_⟩
      (conv => whnf); repeat (first | (refine And.intro rfl ?_; conv => whnf) | (refine And.intro (fun _ => ?_) (fun h => Bool.noConfusion h); conv => whnf) | (refine And.intro (fun h => Bool.noConfusion h) (fun _ => ?_); conv => whnf))
      refine ⟨_, _, cl, ?_⟩
      (conv => whnf); repeat (first | (refine And.intro rfl ?_; conv => whnf) | (refine And.intro (fun _ => ?_) (fun h => Bool.noConfusion h); conv => whnf) | (refine And.intro (fun h => Bool.noConfusion h) (fun _ => ?_); conv => whnf))
      refine Exists.intro [] (And.intro List.nodup_nil ?_); ((conv => whnf); repeat (first | (refine And.intro rfl ?_; conv => whnf) | (refine And.intro (fun _ => ?_) (fun h => Bool.noConfusion h); conv => whnf) | (refine And.intro (fun h => Bool.noConfusion h) (fun _ => ?_); conv => whnf)))
      rw [e]; rfl
  · by_cases c1 : cidx (l :: ls) (p :: ps) az = true
    · rw [c1] at i1
      by_cases c2 : cidx (l :: ls) (p :: ps) bz = true
      · obtain ⟨k, rfl, k1, _, _, _⟩ := cidx_nat c1
        obtain ⟨j, rfl, j1, _, _, _⟩ := cidx_nat c2
        rw [c2] at i2
        have hb := cin_get hin k1
        have hw : iwrap .i64 ((l :: ls)[k] - 1) = (l :: ls)[k] + -1 := (w64_in (by omega)).trans (by omega)
        have e := cchange_tt hv k1 j1
        have s1 := wupd (l :: ls) k (-1) _ k1 hw
        have j2 : j < (cupd (l :: ls) k (-1)).length := by rw [cupd_len]; exact j1
        have hb2 : -1 ≤ (cupd (l :: ls) k (-1))[j] ∧ (cupd (l :: ls) k (-1))[j] ≤ 1099511627776 := by
          have hbj := cin_get hin j1
          simp only [cupd_nat _ _ _ k1, List.getElem_set]
          split <;> omega
        have hw2 : iwrap .i64 ((cupd (l :: ls) k (-1))[j] + 1) = (cupd (l :: ls) k (-1))[j] + 1 := w64_in (by omega)
        have s2 := wupd _ j 1 _ j2 hw2
        refine fun_of_vc tabOk mixOk Try.func30 rfl (by rfl) (rs := [.cell 10 34, .tmp 11]) rfl rfl 90 ?_; rw [Try.ntmps30]
        (conv => whnf); repeat (first | (refine And.intro rfl ?_; conv => whnf) | (refine And.intro (fun _ => ?_) (fun h => Bool.noConfusion h); conv => whnf) | (refine And.intro (fun h => Bool.noConfusion h) (fun _ => ?_); conv => whnf))
        refine ⟨_, _, vx, ?_⟩
        (conv => whnf); repeat (first | (refine And.intro rfl ?_; conv => whnf) | (refine And.intro (fun _ => ?_) (fun h => Bool.noConfusion h); conv => whnf) | (refine And.intro (fun h => Bool.noConfusion h) (fun _ => ?_); conv => whnf))
        refine ⟨_, _, i1, ?_⟩
        (conv => whnf); repeat (first | (refine And.intro rfl ?_; conv => whnf) | (refine And.intro (fun _ => ?_) (fun h => Bool.noConfusion h); conv => whnf) | (refine And.intro (fun h => Bool.noConfusion h) (fun _ => ?_); conv => whnf))
        refine ⟨_, _, i2, ?_⟩
        (conv => whnf); repeat (first | (refine And.intro rfl ?_; conv => whnf) | (refine And.intro (fun _ => ?_) (fun h => Bool.noConfusion h); conv => whnf) | (refine And.intro (fun h => Bool.noConfusion h) (fun _ => ?_); conv => whnf))
        refine ⟨_, _, co, ?_⟩
        (conv => whnf); repeat (first | (refine And.intro rfl ?_; conv => whnf) | (refine And.intro (fun _ => ?_) (fun h => Bool.noConfusion h); conv => whnf) | (refine And.intro (fun h => Bool.noConfusion h) (fun _ => ?_); conv => whnf))
        refine And.intro (fun h => ?_) (fun h => ?_)
        · (conv => whnf); repeat (first | (refine And.intro rfl ?_; conv => whnf) | (refine And.intro (fun _ => ?_) (fun h => Bool.noConfusion h); conv => whnf) | (refine And.intro (fun h => Bool.noConfusion h) (fun _ => ?_); conv => whnf))
          refine Exists.intro [] (And.intro List.nodup_nil ?_); ((conv => whnf); repeat (first | (refine And.intro rfl ?_; conv => whnf) | (refine And.intro (fun _ => ?_) (fun h => Bool.noConfusion h); conv => whnf) | (refine And.intro (fun h => Bool.noConfusion h) (fun _ => ?_); conv => whnf)))
          obtain rfl : k = j := by
            have h' : eEq ⟨ab, ak, av, am, k, ao⟩ ⟨bb, bk, bv, bm, j, bo⟩ = true := h
            have := eEq_iff.1 h'
            injection this
            omega
          rw [cchange_eq hv k1]; rfl
        · (conv => whnf); repeat (first | (refine And.intro rfl ?_; conv => whnf) | (refine And.intro (fun _ => ?_) (fun h => Bool.noConfusion h); conv => whnf) | (refine And.intro (fun h => Bool.noConfusion h) (fun _ => ?_); conv => whnf))
          refine ⟨by omega, by simpa [wV] using k1, ?_⟩
          (conv => whnf); repeat (first | (refine And.intro rfl ?_; conv => whnf) | (refine And.intro (fun _ => ?_) (fun h => Bool.noConfusion h); conv => whnf) | (refine And.intro (fun h => Bool.noConfusion h) (fun _ => ?_); conv => whnf))
          refine ⟨_, wItem k1, ?_⟩
          (conv => whnf); repeat (first | (refine And.intro rfl ?_; conv => whnf) | (refine And.intro (fun _ => ?_) (fun h => Bool.noConfusion h); conv => whnf) | (refine And.intro (fun h => Bool.noConfusion h) (fun _ => ?_); conv => whnf))
          refine ⟨by omega, by simpa [wV] using k1, ?_⟩
          (conv => whnf); repeat (first | (refine And.intro rfl ?_; conv => whnf) | (refine And.intro (fun _ => ?_) (fun h => Bool.noConfusion h); conv => whnf) | (refine And.intro (fun h => Bool.noConfusion h) (fun _ => ?_); conv => whnf))
          refine ⟨_, wItem k1, ?_⟩
          (conv => whnf); repeat (first | (refine And.intro rfl ?_; conv => whnf) | (refine And.intro (fun _ => ?_) (fun h => Bool.noConfusion h); conv => whnf) | (refine And.intro (fun h => Bool.noConfusion h) (fun _ => ?_); conv => whnf))
          rw [s1]
          refine ⟨by omega, by simpa [wV] using j2, ?_⟩
          (conv => whnf); repeat (first | (refine And.intro rfl ?_; conv => whnf) | (refine And.intro (fun _ => ?_) (fun h => Bool.noConfusion h); conv => whnf) | (refine And.intro (fun h => Bool.noConfusion h) (fun _ => ?_); conv => whnf))
          refine ⟨_, wItem j2, ?_⟩
          (conv => whnf); repeat (first | (refine And.intro rfl ?_; conv => whnf) | (refine And.intro (fun _ => ?_) (fun h => Bool.noConfusion h); conv => whnf) | (refine And.intro (fun h => Bool.noConfusion h) (fun _ => ?_); conv => whnf))
          refine ⟨by omega, by simpa [wV] using j2, ?_⟩
          (conv => whnf); repeat (first | (refine And.intro rfl ?_; conv => whnf) | (refine And.intro (fun _ => ?_) (fun h => Bool.noConfusion h); conv => whnf) | (refine And.intro (fun h => Bool.noConfusion h) (fun _ => ?_); conv => whnf))
          refine ⟨_, wItem j2, ?_⟩
          (conv => whnf); repeat (first | (refine And.intro rfl ?_; conv => whnf) | (refine And.intro (fun _ => ?_) (fun h => Bool.noConfusion h); conv => whnf) | (refine And.intro (fun h => Bool.noConfusion h) (fun _ => ?_); conv => whnf))
          rw [s2]
          refine ⟨_, _, cvalidF _ (p :: ps), ?_⟩
          (conv => whnf); repeat (first | (refine And.intro rfl ?_; conv => whnf) | (refine And.intro (fun _ => ?_) (fun h => Bool.noConfusion h); conv => whnf) | (refine And.intro (fun h => Bool.noConfusion h) (fun _ => ?_); conv => whnf))
          refine And.intro (fun h => ?_) (fun h => ?_)
          · (conv => whnf); repeat (first | (refine And.intro rfl ?_; conv => whnf) | (refine And.intro (fun _ => ?_) (fun h => Bool.noConfusion h); conv => whnf) | (refine And.intro (fun h => Bool.noConfusion h) (fun _ => ?_); conv => whnf))
            refine ⟨_, _, cl, ?_⟩
            (conv => whnf); repeat (first | (refine And.intro rfl ?_; conv => whnf) | (refine And.intro (fun _ => ?_) (fun h => Bool.noConfusion h); conv => whnf) | (refine And.intro (fun h => Bool.noConfusion h) (fun _ => ?_); conv => whnf))
            refine Exists.intro [] (And.intro List.nodup_nil ?_); ((conv => whnf); repeat (first | (refine And.intro rfl ?_; conv => whnf) | (refine And.intro (fun _ => ?_) (fun h => Bool.noConfusion h); conv => whnf) | (refine And.intro (fun h => Bool.noConfusion h) (fun _ => ?_); conv => whnf)))
            rw [e, if_neg (by simpa using h)]; rfl
          · (conv => whnf); repeat (first | (refine And.intro rfl ?_; conv => whnf) | (refine And.intro (fun _ => ?_) (fun h => Bool.noConfusion h); conv => whnf) | (refine And.intro (fun h => Bool.noConfusion h) (fun _ => ?_); conv => whnf))
            refine Exists.intro [] (And.intro List.nodup_nil ?_); ((conv => whnf); repeat (first | (refine And.intro rfl ?_; conv => whnf) | (refine And.intro (fun _ => ?_) (fun h => Bool.noConfusion h); conv => whnf) | (refine And.intro (fun h => Bool.noConfusion h) (fun _ => ?_); conv => whnf)))
            rw [e, if_pos (by simpa using h)]; rfl
      · have c2 : cidx (l :: ls) (p :: ps) bz = false := by simpa using c2
        rw [c2] at i2
        have e := cchange_no (z1 := az) (a := true) (Or.inr ⟨rfl, c2⟩)
        refine fun_of_vc tabOk mixOk Try.func30 rfl (by rfl) (rs := [.cell 10 34, .tmp 11]) rfl rfl 90 ?_; rw [Try.ntmps30]
        (conv => whnf); repeat (first | (refine And.intro rfl ?_; conv => whnf) | (refine And.intro (fun _ => ?_) (fun h => Bool.noConfusion h); conv => whnf) | (refine And.intro (fun h => Bool.noConfusion h) (fun _ => ?_); conv => whnf))
        refine ⟨_, _, vx, ?_⟩
        (conv => whnf); repeat (first | (refine And.intro rfl ?_; conv => whnf) | (refine And.intro (fun _ => ?_) (fun h => Bool.noConfusion h); conv => whnf) | (refine And.intro (fun h => Bool.noConfusion h) (fun _ => ?_); conv => whnf))
        refine ⟨_, _, i1, ?_⟩
        (conv => whnf); repeat (first | (refine And.intro rfl ?_; conv => whnf) | (refine And.intro (fun _ => ?_) (fun h => Bool.noConfusion h); conv => whnf) | (refine And.intro (fun h => Bool.noConfusion h) (fun _ => ?_); conv => whnf))
        refine ⟨_, _, i2, ?_⟩
        (conv => whnf); repeat (first | (refine And.intro rfl ?_; conv => whnf) | (refine And.intro (fun _ => ?_) (fun h => Bool.noConfusion h); conv => whnf) | (refine And.intro (fun h => Bool.noConfusion h) (fun _ => ?_); conv => whnf))
        refine ⟨_, _, cl, ?_⟩
        (conv => whnf); repeat (first | (refine And.intro rfl ?_; conv => whnf) | (refine And.intro (fun _ => ?_) (fun h => Bool.noConfusion h); conv => whnf) | (refine And.intro (fun h => Bool.noConfusion h) (fun _ => ?_); conv => whnf))
        refine Exists.intro [] (And.intro List.nodup_nil ?_); ((conv => whnf); repeat (first | (refine And.intro rfl ?_; conv => whnf) | (refine And.intro (fun _ => ?_) (fun h => Bool.noConfusion h); conv => whnf) | (refine And.intro (fun h => Bool.noConfusion h) (fun _ => ?_); conv => whnf)))
        rw [e]; rfl
    · have c1 : cidx (l :: ls) (p :: ps) az = false := by simpa using c1
      rw [c1] at i1
      have e := cchange_no (z2 := bz) (b := true) (Or.inl ⟨rfl, c1⟩)
      refine fun_of_vc tabOk mixOk Try.func30 rfl (by rfl) (rs := [.cell 10 34, .tmp 11]) rfl rfl 90 ?_; rw [Try.ntmps30]
      (conv => whnf); repeat (first | (refine And.intro rfl ?_; conv => whnf) | (refine And.intro (fun _ => ?_) (fun h => Bool.noConfusion h); conv => whnf) | (refine And.intro (fun h => Bool.noConfusion h) (fun _ => ?_); conv => whnf))
      refine ⟨_, _, vx, ?_⟩
      (conv => whnf); repeat (first | (refine And.intro rfl ?_; conv => whnf) | (refine And.intro (fun _ => ?_) (fun h => Bool.noConfusion h); conv => whnf) | (refine And.intro (fun h => Bool.noConfusion h) (fun _ => ?_); conv => whnf))
      refine ⟨_, _, i1, ?_⟩
      (conv => whnf); repeat (first | (refine And.intro rfl ?_; conv => whnf) | (refine And.intro (fun _ => ?_) (fun h => Bool.noConfusion h); conv => whnf) | (refine And.intro (fun h => Bool.noConfusion h) (fun _ => ?_); conv => whnf))
      refine ⟨_, _, cl, ?_⟩
      (conv => whnf); repeat (first | (refine And.intro rfl ?_; conv => whnf) | (refine And.intro (fun _ => ?_) (fun h => Bool.noConfusion h); conv => whnf) | (refine And.intro (fun h => Bool.noConfusion h) (fun _ => ?_); conv => whnf))
      refine Exists.intro [] (And.intro List.nodup_nil ?_); ((conv => whnf); repeat (first | (refine And.intro rfl ?_; conv => whnf) | (refine And.intro (fun _ => ?_) (fun h => Bool.noConfusion h); conv => whnf) | (refine And.intro (fun h => Bool.noConfusion h) (fun _ => ?_); conv => whnf)))
      rw [e]; rfl
end Go.Proofs.Ytijajfldpaadnaa.Ab
