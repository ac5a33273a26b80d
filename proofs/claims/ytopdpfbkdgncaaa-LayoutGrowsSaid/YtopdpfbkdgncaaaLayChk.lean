/- The layers' layout: the check of a configuration, the program's and the reference's. -/
import Derived.Test.YtopdpfbkdgncaaaLayRef
namespace Go.Proofs.Ytopdpfbkdgncaaa
set_option linter.unusedVariables false
set_option linter.unusedSimpArgs false
open Go.RowKit

/-- The six ranges: number, least, greatest, in the order in which they are looked at. -/
def rngs (z s b q d h : Int) : Array Value := #[.int .i64 s, .int .i64 3, .int .i64 64, .int .i64 z, .int .i64 1, .int .i64 32, .int .i64 b, .int .i64 1, .int .i64 128, .int .i64 q, .int .i64 1, .int .i64 4, .int .i64 d, .int .i64 1, .int .i64 8, .int .i64 h, .int .i64 1, .int .i64 8]
theorem rngs_one (z s b q d h : Int) : (rngs z s b q d h).all (·.oneCell') = true := by simp [rngs, Value.oneCell']
theorem rngs_size (z s b q d h : Int) : (rngs z s b q d h).size = 18 := rfl
/-- What the check's loop finds in memory. -/
def ChkW (W : World) (z s b q d h : Int) (w : World) : Prop :=
  (∀ j v, (#[Value.int .i64 z, .int .i64 s, .int .i64 b, .int .i64 q, .int .i64 d, .int .i64 h] : Array Value)[j]? = some v → w.cell? ⟨W.heap.size, j, none⟩ = some v) ∧
  (∀ j v, (rngs z s b q d h)[j]? = some v → w.cell? ⟨W.heap.size + 1, j, none⟩ = some v) ∧ Below W.heap.size W w ∧ W.heap.size + 2 ≤ w.heap.size
theorem below_setRow {B : Nat} {a w : World} (h : Below B a w) {g : Nat} (hg : B ≤ g) (cs : Array Value) : Below B a (w.setRow g cs) :=
  h.trans ⟨rfl, rfl, rfl, by simp [World.setRow], fun k hk => setRow_other w g k cs (by omega)⟩
theorem chkW_start (w : World) (z s b q d h : Int) (t t' : TypeId) (old : Array Value) :
    ChkW w z s b q d h (((w.alloc (.cells #[.int .i64 z, .int .i64 s, .int .i64 b, .int .i64 q, .int .i64 d, .int .i64 h] t)).alloc (.cells old t')).setRow (w.heap.size + 1) (rngs z s b q d h)) := by
  refine ⟨fun j v hv => ?_, fun j v hv => ?_, below_setRow (((Below.refl _ _).alloc (Nat.le_refl _) _).alloc (by simp) _) (by omega) _, by simp⟩
  · rw [cell_setRow_other _ _ _ _ (by simp), cell_of_row _ _ _ _ _ _ (heap_alloc2_old w _ _)]; exact hv
  · rw [cell_of_row _ _ _ _ _ _ (setRow_heap _ _ _ _ _ _ (heap_alloc2_new w _ _))]; exact hv
theorem ChkW.alloc {W : World} {z s b q d h : Int} {w : World} (hc : ChkW W z s b q d h w) (o : Obj) : ChkW W z s b q d h (w.alloc o) := by
  obtain ⟨h1, h2, h3, h4⟩ := hc
  exact ⟨fun j v hv => (World.cell?_alloc_lt w o _ (by show W.heap.size < _; omega)).trans (h1 j v hv), fun j v hv => (World.cell?_alloc_lt w o _ (by show W.heap.size + 1 < _; omega)).trans (h2 j v hv), h3.alloc (by omega) o, by simp; omega⟩

/-- The first k ranges are kept. -/
def firstOk (z s b q d h : Int) (k : Nat) : Prop :=
  (1 ≤ k → 3 ≤ s ∧ s ≤ 64) ∧ (2 ≤ k → 1 ≤ z ∧ z ≤ 32) ∧ (3 ≤ k → 1 ≤ b ∧ b ≤ 128) ∧ (4 ≤ k → 1 ≤ q ∧ q ≤ 4) ∧ (5 ≤ k → 1 ≤ d ∧ d ≤ 8) ∧ (6 ≤ k → 1 ≤ h ∧ h ≤ 8)

theorem rng_at (z s b q d h : Int) : ∀ k : Nat, k < 6 → ∃ x lo hi : Int, (rngs z s b q d h)[k * 3]? = some (.int .i64 x) ∧ (rngs z s b q d h)[k * 3 + 1]? = some (.int .i64 lo) ∧ (rngs z s b q d h)[k * 3 + 2]? = some (.int .i64 hi) ∧
    ((lo ≤ x ∧ x ≤ hi) → firstOk z s b q d h k → firstOk z s b q d h (k + 1)) ∧ (¬ (lo ≤ x ∧ x ≤ hi) → ¬ Lay.okR z s b q d h = true)
  | 0, _ => ⟨s, 3, 64, rfl, rfl, rfl, fun h1 h2 => by unfold firstOk at *; omega, fun h1 h2 => by rw [Lay.okR_iff] at h2; omega⟩
  | 1, _ => ⟨z, 1, 32, rfl, rfl, rfl, fun h1 h2 => by unfold firstOk at *; omega, fun h1 h2 => by rw [Lay.okR_iff] at h2; omega⟩
  | 2, _ => ⟨b, 1, 128, rfl, rfl, rfl, fun h1 h2 => by unfold firstOk at *; omega, fun h1 h2 => by rw [Lay.okR_iff] at h2; omega⟩
  | 3, _ => ⟨q, 1, 4, rfl, rfl, rfl, fun h1 h2 => by unfold firstOk at *; omega, fun h1 h2 => by rw [Lay.okR_iff] at h2; omega⟩
  | 4, _ => ⟨d, 1, 8, rfl, rfl, rfl, fun h1 h2 => by unfold firstOk at *; omega, fun h1 h2 => by rw [Lay.okR_iff] at h2; omega⟩
  | 5, _ => ⟨h, 1, 8, rfl, rfl, rfl, fun h1 h2 => by unfold firstOk at *; omega, fun h1 h2 => by rw [Lay.okR_iff] at h2; omega⟩
  | k + 6, hk => by omega
theorem firstOk_all {z s b q d h : Int} (hf : firstOk z s b q d h 6) : Lay.okR z s b q d h = true := by
  rw [Lay.okR_iff]; unfold firstOk at hf; omega

set_option maxRecDepth 100000 in
set_option maxHeartbeats 1000000 in
theorem check_any (z s b q d h : Int) (w : World) :
    Calls Try.prog 18 #[cfgV z s b q d h] w fun e w' => e = .returned (.int .i64 (Lay.chk z s b q d h)) ∧ Below w.heap.size w w' := by
  go_enter Try.func18, Try.ntmps18
  go_wp2_with (refine wpList_store_row rfl 77 _ _ rfl (w.heap.size + 1) (rngs z s b q d h) rfl rfl 77 _ (heap_alloc2_new w _ _) (by kernel_rfl) rfl (rngs_one z s b q d h) ?_)
  have hW := chkW_start w z s b q d h 26 77 #[.int .i64 0, .int .i64 0, .int .i64 0, .int .i64 0, .int .i64 0, .int .i64 0, .int .i64 0, .int .i64 0, .int .i64 0, .int .i64 0, .int .i64 0, .int .i64 0, .int .i64 0, .int .i64 0, .int .i64 0, .int .i64 0, .int .i64 0, .int .i64 0]
  generalize World.setRow _ _ (rngs z s b q d h) = w1 at *
  go_loopw [26] (fun i wr => ∃ k : Nat, k ≤ 6 ∧ i = .int .i64 k ∧ firstOk z s b q d h k ∧ ChkW w z s b q d h wr) (fun i _ => 6 - (intOf i).toNat)
  case atStart => exact ⟨0, by omega, rfl, by unfold firstOk; omega, hW⟩
  case round =>
    obtain ⟨k, hk, rfl, hf, hC⟩ := hrel
    have HF := Lib.hid hf
    clear hf hW
    by_cases hlt : k < 6
    · obtain ⟨x, lo, hi, c0, c1, c2, hyes, hno⟩ := rng_at z s b q d h k hlt
      have d0 := hC.2.1 _ _ c0
      have d1 := hC.2.1 _ _ c1
      have d2 := hC.2.1 _ _ c2
      have hB := hC.2.2.1
      have hS := hB.size
      have HY := Lib.hid hyes
      have HNO := Lib.hid hno
      clear c0 c1 c2 hyes hno
      have HCC := Lib.hid hC
      clear hC
      by_cases hr : lo ≤ x ∧ x ≤ hi
      · have HR := Lib.hid hr
        obtain ⟨hr1, hr2⟩ := hr
        go_wp2
        go_roundw
        case rel => exact ⟨k + 1, by omega, by go_num, HY.out HR.out HF.out, HCC.out.alloc _⟩
        case measure => simp [intOf]; omega
      · have HR := Lib.hid hr
        clear hr
        have HX := Lib.hid (Lay.chk_no (HNO.out HR.out))
        go_wp2
        all_goals first
          | (go_ret; exact ⟨ret_i64 HX.out.symm, (by repeat (first | assumption | exact Below.refl _ _ | refine Below.drew ?_ | refine Below.alloc ?_ (by first | omega | (simp; done) | (simp; omega)) _ | refine Below.setCell ?_ (by first | omega | (simp; done) | (simp; omega)) _))⟩)
          | (exfalso; have := HR.out; omega)
    · obtain rfl : k = 6 := by omega
      have hok' := Lib.hid (firstOk_all HF.out)
      have b0 := hC.1 0 _ rfl
      have b1 := hC.1 1 _ rfl
      have b2 := hC.1 2 _ rfl
      have b3 := hC.1 3 _ rfl
      have b4 := hC.1 4 _ rfl
      have b5 := hC.1 5 _ rfl
      have hB := hC.2.2.1
      have hS := hB.size
      clear hC
      go_wp2_with fail
      refine (shape_any z s b q d h _ hok'.out).mono ?_; rintro e w2 ⟨rfl, hb1⟩
      replace hb1 := bt (a := w) (by repeat (first | assumption | exact Below.refl _ _ | refine Below.drew ?_ | refine Below.alloc ?_ (by first | omega | (simp; done) | (simp; omega)) _ | refine Below.setCell ?_ (by first | omega | (simp; done) | (simp; omega)) _)) hb1
      have hs1 := hb1.size
      have hc := Lay.chk_ok (z := z) (s := s) (b := b) (q := q) (d := d) (h := h) hok'.out
      generalize Lay.data z s b = D at *
      generalize Lay.cap z s b q = C at *
      generalize Lay.slot s b = S at *
      have HC := Lib.hid hc; clear hc
      by_cases hD : D < 6
      · go_wp2
        go_ret
        exact ⟨ret_i64 (by rw [HC.out, if_pos (Or.inl hD)]), (by repeat (first | assumption | exact Below.refl _ _ | refine Below.drew ?_ | refine Below.alloc ?_ (by first | omega | (simp; done) | (simp; omega)) _ | refine Below.setCell ?_ (by first | omega | (simp; done) | (simp; omega)) _))⟩
      · by_cases hC : C < 1
        · go_wp2
          go_ret
          exact ⟨ret_i64 (by rw [HC.out, if_pos (Or.inr hC)]), (by repeat (first | assumption | exact Below.refl _ _ | refine Below.drew ?_ | refine Below.alloc ?_ (by first | omega | (simp; done) | (simp; omega)) _ | refine Below.setCell ?_ (by first | omega | (simp; done) | (simp; omega)) _))⟩
        · go_wp2
          go_ret
          exact ⟨ret_i64 (by rw [HC.out, if_neg (by omega)]), (by repeat (first | assumption | exact Below.refl _ _ | refine Below.drew ?_ | refine Below.alloc ?_ (by first | omega | (simp; done) | (simp; omega)) _ | refine Below.setCell ?_ (by first | omega | (simp; done) | (simp; omega)) _))⟩
end Go.Proofs.Ytopdpfbkdgncaaa
