/- The maker of small configurations. -/
import Derived.Test.YtopdpfbkdgncaaaMake
import Derived.Test.YtopdpfbkdgncaaaLay
namespace Go.Proofs.Ytopdpfbkdgncaaa
set_option linter.unusedVariables false
set_option linter.unusedSimpArgs false
open Go.RowKit

theorem DiceAt.alloc {w : World} {g : Nat} {r : List Int} (h : DiceAt w g r) (o : Obj) : DiceAt (w.alloc o) g r := by
  obtain ⟨xs, at_, A, c, B, h1, h2, h3, hB, h5, hR, h6⟩ := h
  exact ⟨xs, at_, A, c, B, h1, h2, h3, hB.alloc o, h5, hR.alloc (by have := hB.lt; omega) o, h6⟩
theorem DiceAt.drew {w : World} {g : Nat} {r : List Int} (h : DiceAt w g r) : DiceAt w.drew g r := h
theorem DiceAt.lt {w : World} {g : Nat} {r : List Int} (h : DiceAt w g r) : g < w.heap.size := by
  obtain ⟨xs, at_, A, c, B, h1, h2, h3, hB, _⟩ := h; exact hB.lt
theorem DiceAt.far {w : World} {g : Nat} {r : List Int} (h : DiceAt w g r) {p : Addr} (hp : g < p.block) (u : Value) : DiceAt (w.setCell p u) g r := by
  obtain ⟨xs, at_, A, c, B, h1, h2, h3, hB, h5, hR, h6⟩ := h
  exact ⟨xs, at_, A, c, B, h1, h2, h3, hB.far (by omega) u, h5, hR.setCell (by omega) u, h6⟩

theorem DiceAt.only {w w' : World} {g : Nat} {r : List Int} (h : DiceAt w g r) (hk : ∀ k, k ≤ g → w'.heap[k]? = w.heap[k]?) : DiceAt w' g r := by
  obtain ⟨xs, at_, A, c, B, h1, h2, h3, hB, h5, hR, h6⟩ := h
  exact ⟨xs, at_, A, c, B, h1, h2, h3, (hk g (Nat.le_refl _)).trans hB, h5, hR.keep fun p hp => World.cell?_of_block (hk p.block (by omega)), h6⟩
theorem DiceAt.below {w w' : World} {g B : Nat} {r : List Int} (h : DiceAt w g r) (hb : Below B w w') (hB : g < B) : DiceAt w' g r := h.only fun k hk => hb.block k (by omega)
theorem only_setRow {a w : World} {row : Option Nat} (h : a.grownBy w row) {g : Nat} (hg : a.heap.size ≤ g) (cs : Array Value) : a.grownBy (w.setRow g cs) row :=
  ⟨h.os, h.tape, h.output, by simpa using h.size, fun i hi hne => (setRow_other w g i cs (by omega)).trans (h.block i hi hne)⟩

/-- The numbers of a small configuration. -/
def smS (r : List Int) : Int := 3 + dnext r 4
def smB (r : List Int) : Int := 1 + dnext (dtail r) 6
def smQ (r : List Int) : Int := 1 + dnext (dtail (dtail r)) 3
def smD (r : List Int) : Int := 1 + dnext (dtail (dtail (dtail r))) 3
def smH (r : List Int) : Int := 1 + dnext (dtail (dtail (dtail (dtail r)))) 3
def smZ (r : List Int) : Int := 2 * ((smB r + 2 + smS r - 1) / smS r) + 6 + dnext (dtail (dtail (dtail (dtail (dtail r))))) 3
def smR (r : List Int) : List Int := dtail (dtail (dtail (dtail (dtail (dtail r)))))

/-- What stands in memory around the last throw. -/
def SmP (w : World) (g b5 : Nat) (S B Q D E : Int) (u : World) : Prop :=
  Blk u b5 26 #[.int .i64 0, .int .i64 S, .int .i64 B, .int .i64 Q, .int .i64 D, .int .i64 E] ∧ Blk u w.heap.size 26 #[.int .i64 0, .int .i64 0, .int .i64 0, .int .i64 0, .int .i64 0, .int .i64 0] ∧ w.grownBy u (some g)
theorem SmP.cells {w u : World} {g b5 : Nat} {S B Q D E : Int} (h : SmP w g b5 S B Q D E u) : u.cell? ⟨b5, 1, none⟩ = some (.int .i64 S) ∧ u.cell? ⟨b5, 2, none⟩ = some (.int .i64 B) := ⟨h.1.cell 1, h.1.cell 2⟩
theorem SmP.cell0 {w u : World} {g b5 : Nat} {S B Q D E : Int} (h : SmP w g b5 S B Q D E u) : u.cell? ⟨b5, 0, none⟩ = some (.int .i64 0) := h.1.cell 0
theorem SmP.frozen0 {w u : World} {g b5 : Nat} {S B Q D E : Int} (h : SmP w g b5 S B Q D E u) : u.frozen? ⟨b5, 0, none⟩ = false := h.1.frozen 0
theorem SmP.store {w u : World} {g b5 : Nat} {S B Q D E : Int} (h : SmP w g b5 S B Q D E u) (h5 : w.heap.size ≠ b5) (hge : w.heap.size ≤ b5) (Z : Int) :
    Blk (u.setCell ⟨b5, 0, none⟩ (.int .i64 Z)) b5 26 #[.int .i64 Z, .int .i64 S, .int .i64 B, .int .i64 Q, .int .i64 D, .int .i64 E] ∧ Blk (u.setCell ⟨b5, 0, none⟩ (.int .i64 Z)) w.heap.size 26 #[.int .i64 0, .int .i64 0, .int .i64 0, .int .i64 0, .int .i64 0, .int .i64 0] ∧ w.grownBy (u.setCell ⟨b5, 0, none⟩ (.int .i64 Z)) (some g) :=
  ⟨h.1.set_ 0 _, h.2.1.far (p := ⟨b5, 0, none⟩) h5 _, only_setCell h.2.2 (Or.inr hge) _⟩
theorem SmP.store_cells {w u : World} {g b5 : Nat} {S B Q D E : Int} (h : SmP w g b5 S B Q D E u) (Z : Value) :
    (u.setCell ⟨b5, 0, none⟩ Z).cell? ⟨b5, 1, none⟩ = some (.int .i64 S) ∧ (u.setCell ⟨b5, 0, none⟩ Z).cell? ⟨b5, 2, none⟩ = some (.int .i64 B) :=
  ⟨(h.1.set_ 0 _).cell 1, (h.1.set_ 0 _).cell 2⟩
theorem small_step {w u : World} {g b5 : Nat} {S B Q D E : Int} (h : SmP w g b5 S B Q D E u) {r : List Int} (hd : DiceAt u g r) (n : Int) (hn : 1 ≤ n ∧ n ≤ 4611686018427387904) (h5 : g ≠ b5) (h0 : g ≠ w.heap.size) :
    Calls Try.prog 43 #[.pointer (some ⟨g, 0, none⟩), .int .i64 n] u fun e w' => e = .returned (.int .i64 (dnext r n)) ∧ SmP w g b5 S B Q D E w' ∧ DiceAt w' g (dtail r) :=
  (next_any g r n u hd hn).mono fun _ _ ⟨he, hd', hg⟩ => ⟨he, ⟨h.1.grown hg (by simp; omega), h.2.1.grown hg (by simp; omega), h.2.2.trans hg⟩, hd'⟩

set_option maxRecDepth 100000 in
set_option maxHeartbeats 400000 in
theorem small_any (g : Nat) (r : List Int) (w : World) (hd : DiceAt w g r) :
    Calls Try.prog 14 #[.pointer (some ⟨g, 0, none⟩)] w fun e w' => e = .returned (cfgV (smZ r) (smS r) (smB r) (smQ r) (smD r) (smH r)) ∧ DiceAt w' g (smR r) ∧ w.grownBy w' (some g) := by
  have hg := hd.lt
  have x1 := dnext_bd r 4 (by omega)
  have x2 := dnext_bd (dtail r) 6 (by omega)
  have x3 := dnext_bd (dtail (dtail r)) 3 (by omega)
  have x4 := dnext_bd (dtail (dtail (dtail r))) 3 (by omega)
  have x5 := dnext_bd (dtail (dtail (dtail (dtail r)))) 3 (by omega)
  have x6 := dnext_bd (dtail (dtail (dtail (dtail (dtail r))))) 3 (by omega)
  go_enter Try.func14, Try.ntmps14
  go_wp2_with fail
  refine (next_any g r 4 _ (hd.alloc _) (by omega)).mono ?_; rintro e w1 ⟨rfl, hd1, hg1⟩
  have bb1 : Blk w1 w.heap.size 26 _ := Blk.grown (Blk.new w 26 _) hg1 (by simp; omega)
  have gg1 : w.grownBy w1 (some g) := (only_alloc (World.grownBy.refl w _) _).trans hg1
  clear hg1 hd
  have sz1 := gg1.size
  go_wp2_with fail
  refine (next_any g (dtail r) 6 _ hd1 (by omega)).mono ?_; rintro e w2 ⟨rfl, hd2, hg2⟩
  have bb2 := bb1.grown hg2 (by simp; omega)
  have gg2 := gg1.trans hg2
  clear hg2 hd1 bb1 gg1
  have sz2 := gg2.size
  go_wp2_with fail
  refine (next_any g (dtail (dtail r)) 3 _ hd2 (by omega)).mono ?_; rintro e w3 ⟨rfl, hd3, hg3⟩
  have bb3 := bb2.grown hg3 (by simp; omega)
  have gg3 := gg2.trans hg3
  clear hg3 hd2 bb2 gg2
  have sz3 := gg3.size
  go_wp2_with fail
  refine (next_any g (dtail (dtail (dtail r))) 3 _ hd3 (by omega)).mono ?_; rintro e w4 ⟨rfl, hd4, hg4⟩
  have bb4 := bb3.grown hg4 (by simp; omega)
  have gg4 := gg3.trans hg4
  clear hg4 hd3 bb3 gg3
  have sz4 := gg4.size
  go_wp2_with fail
  refine (next_any g (dtail (dtail (dtail (dtail r)))) 3 _ hd4 (by omega)).mono ?_; rintro e w5 ⟨rfl, hd5, hg5⟩
  have bb5 := bb4.grown hg5 (by simp; omega)
  have gg5 := gg4.trans hg5
  clear hg5 hd4 bb4 gg4
  have sz5 := gg5.size
  go_wp2_with fail
  have hfin : (smZ r = 2 * ((1 + dnext (dtail r) 6 + 2 + (3 + dnext r 4) - 1) / (3 + dnext r 4)) + 6 + dnext (dtail (dtail (dtail (dtail (dtail r))))) 3) ∧ smS r = 3 + dnext r 4 ∧ smB r = 1 + dnext (dtail r) 6 ∧ smQ r = 1 + dnext (dtail (dtail r)) 3 ∧ smD r = 1 + dnext (dtail (dtail (dtail r))) 3 ∧ smH r = 1 + dnext (dtail (dtail (dtail (dtail r)))) 3 := ⟨rfl, rfl, rfl, rfl, rfl, rfl⟩
  have y1 : 3 ≤ 3 + dnext r 4 ∧ 3 + dnext r 4 ≤ 6 := by omega
  have y2 : 1 ≤ 1 + dnext (dtail r) 6 ∧ 1 + dnext (dtail r) 6 ≤ 6 := by omega
  generalize 3 + dnext r 4 = S at *
  generalize 1 + dnext (dtail r) 6 = B at *
  generalize 1 + dnext (dtail (dtail r)) 3 = Q at *
  generalize 1 + dnext (dtail (dtail (dtail r))) 3 = D at *
  generalize 1 + dnext (dtail (dtail (dtail (dtail r)))) 3 = E at *
  have HF := Lib.hid hfin
  clear hfin x1 x2 x3 x4 x5
  obtain ⟨u, hu⟩ : ∃ u, u = (w5.alloc (Obj.cells #[.int .i64 0, .int .i64 S, .int .i64 B, .int .i64 Q, .int .i64 D, .int .i64 E] 26)).drew := ⟨_, rfl⟩
  have hdu : DiceAt u g (dtail (dtail (dtail (dtail (dtail r))))) := by rw [hu]; exact (hd5.alloc _).drew
  have hP : SmP w g w5.heap.size S B Q D E u := by rw [hu]; exact ⟨(Blk.new w5 _ _).drew, (bb5.alloc _).drew, only_drew (only_alloc gg5 _)⟩
  have hq0 : 0 ≤ (B + 2 + S - 1) / S := Int.ediv_nonneg (by omega) (by omega)
  have hq1 : (B + 2 + S - 1) / S ≤ 13 := Int.ediv_le_of_le_mul (by omega) (by omega)
  have e1 : IntKind.i64.wrap (B + 2) = B + 2 := IntWalk.i64_in _ (by omega)
  have e2 : IntKind.i64.wrap (B + 2 + S) = B + 2 + S := IntWalk.i64_in _ (by omega)
  have e3 : IntKind.i64.wrap (B + 2 + S - 1) = B + 2 + S - 1 := IntWalk.i64_in _ (by omega)
  have e4 : IntKind.i64.wrap ((B + 2 + S - 1).tdiv S) = (B + 2 + S - 1) / S := IntWalk.i64_quo _ _ (by omega)
  have e5 : IntKind.i64.wrap (2 * ((B + 2 + S - 1) / S)) = 2 * ((B + 2 + S - 1) / S) := IntWalk.i64_in _ (by omega)
  have e6 : IntKind.i64.wrap (2 * ((B + 2 + S - 1) / S) + 6) = 2 * ((B + 2 + S - 1) / S) + 6 := IntWalk.i64_in _ (by omega)
  have e7 : IntKind.i64.wrap (2 * ((B + 2 + S - 1) / S) + 6 + dnext (dtail (dtail (dtail (dtail (dtail r))))) 3) = 2 * ((B + 2 + S - 1) / S) + 6 + dnext (dtail (dtail (dtail (dtail (dtail r))))) 3 := IntWalk.i64_in _ (by omega)
  have ne1 : S ≠ 0 := by omega
  have n5 : g < w5.heap.size := by omega
  have n6 := bb5.lt
  have hU := hP.cells
  have ng1 : g ≠ w5.heap.size := by omega
  have ng2 : g ≠ w.heap.size := by omega
  have HP := Lib.hid hP
  clear hP
  go_region_held3 (fun w' => w'.cell? ⟨w5.heap.size, 1, none⟩ = some (.int .i64 S) ∧ w'.cell? ⟨w5.heap.size, 2, none⟩ = some (.int .i64 B))
    (first | (rw [← hu]; exact hU) | exact hU | exact hP6.cells | exact hP6.store_cells _)
    (first | (go_at_call 43; rw [← hu]; refine (small_step HP.out hdu 3 (by omega) ng1 ng2).mono ?_; rintro e w6 ⟨rfl, hP6, hd6⟩; have k6 := hP6.cell0; have m6 := hP6.frozen0))
  obtain ⟨q1, q2, q3⟩ := hP6.store (by omega) (by omega) (2 * ((B + 2 + S - 1) / S) + 6 + dnext (dtail (dtail (dtail (dtail (dtail r))))) 3)
  have hd7 := hd6.far (p := ⟨w5.heap.size, 0, none⟩) n5 (.int .i64 (2 * ((B + 2 + S - 1) / S) + 6 + dnext (dtail (dtail (dtail (dtail (dtail r))))) 3))
  generalize w6.setCell ⟨w5.heap.size, 0, none⟩ (.int .i64 (2 * ((B + 2 + S - 1) / S) + 6 + dnext (dtail (dtail (dtail (dtail (dtail r))))) 3)) = w7 at *
  have l0 := q1.cell 0
  have l1 := q1.cell 1
  have l2 := q1.cell 2
  have l3 := q1.cell 3
  have l4 := q1.cell 4
  have l5 := q1.cell 5
  simp at l0 l1 l2 l3 l4 l5
  have Q2 := Lib.hid q2
  clear q2
  go_wp2_with (refine wpList_store_row rfl 26 _ _ rfl w.heap.size _ rfl rfl 26 _ Q2.out (by kernel_rfl) rfl (by simp [Value.oneCell']) ?_)
  have hd8 : DiceAt (w7.setRow w.heap.size #[.int .i64 (2 * ((B + 2 + S - 1) / S) + 6 + dnext (dtail (dtail (dtail (dtail (dtail r))))) 3), .int .i64 S, .int .i64 B, .int .i64 Q, .int .i64 D, .int .i64 E]) g (smR r) :=
    hd7.only fun k hk => setRow_other w7 _ k _ (by omega)
  obtain ⟨f1, f2, f3, f4, f5, f6⟩ := HF.out
  refine bodyPost_ret (v := .agg #[.int .i64 (2 * ((B + 2 + S - 1) / S) + 6 + dnext (dtail (dtail (dtail (dtail (dtail r))))) 3), .int .i64 S, .int .i64 B, .int .i64 Q, .int .i64 D, .int .i64 E]) (results_cell_row rfl _ _ w.heap.size 26 _ _ _ rfl (setRow_heap _ _ _ _ _ _ Q2.out) Try.underlying26 rfl (by kernel_rfl)) rfl ⟨?_, hd8, only_setRow q3 (Nat.le_refl _) _⟩
  rw [f1, f2, f3, f4, f5, f6]
end Go.Proofs.Ytopdpfbkdgncaaa
