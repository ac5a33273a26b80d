/- The laws of the layout: what their calls do. -/
import Derived.Test.YtopdpfbkdgncaaaLaySm
import Derived.Test.YtopdpfbkdgncaaaHeld
namespace Go.Proofs.Ytopdpfbkdgncaaa
set_option linter.unusedVariables false
set_option linter.unusedSimpArgs false
open Go.ChangeShapes Go.WideShapes Go.RowKit Go.Deep Go.Joins
theorem Try.cellsCfg : Try.prog.cellsOf 26 = 6 := by kernel_rfl

theorem lay_ex : layV 12 8 6 1 1 1 = .agg #[.int .i64 1, .int .i64 2, .int .i64 10, .int .i64 47] ∧ Lay.chk 12 8 6 1 1 1 = 0 := by
  have h : Lay.chk 12 8 6 1 1 1 = 0 := by decide
  refine ⟨?_, h⟩
  unfold layV; rw [if_pos h]; rfl

set_option maxRecDepth 100000 in
set_option maxHeartbeats 400000 in
theorem layawake_any (w : World) : Calls Try.prog 13 #[] w (True1 w) := by
  go_enter Try.func13, Try.ntmps13
  go_wp2_with fail
  refine (of_any 12 8 6 1 1 1 _).mono ?_; rintro e w1 ⟨rfl, hb1⟩
  obtain ⟨hc1, hf1⟩ := bcell hb1
  have hs1 := hb1.size
  try simp at hs1
  replace hb1 := bt (a := w) (by repeat (first | assumption | exact Below.refl _ _ | refine Below.drew ?_ | refine Below.alloc ?_ (by first | omega | (simp; done) | (simp; omega)) _ | refine Below.setCell ?_ (by first | omega | (simp; done) | (simp; omega)) _)) hb1
  rw [lay_ex.1, lay_ex.2]
  go_wp2
  go_ret
  exact ⟨rfl, (by repeat (first | assumption | exact Below.refl _ _ | refine Below.drew ?_ | refine Below.alloc ?_ (by first | omega | (simp; done) | (simp; omega)) _ | refine Below.setCell ?_ (by first | omega | (simp; done) | (simp; omega)) _))⟩

theorem slotsL_len (z s b q d h slot : Int) : (slotsL z s b q d h slot).length ≤ 1000000 := by
  unfold slotsL
  split
  · rename_i hh
    obtain ⟨o1, o2, o3, o4, o5, o6, o7, o8, o9, o10, o11, o12⟩ := Lay.okR_iff.1 (okR_of_chk hh.1)
    have := Lay.slot_bd o1 o2 o5 o6
    unfold slotsOf; rw [List.length_map, List.length_range]; omega
  · simp

/-- What 'Of' gives, as cells. -/
theorem layV_cells (z s b q d h : Int) : ∃ a b' c e : Int, layV z s b q d h = .agg #[.int .i64 a, .int .i64 b', .int .i64 c, .int .i64 e] := by unfold layV; split <;> exact ⟨_, _, _, _, rfl⟩

set_option maxRecDepth 100000 in
set_option maxHeartbeats 1000000 in
theorem exact_any (z s b q d h slot zone : Int) (w : World) : Calls Try.prog 4 #[cfgV z s b q d h, .int .i64 slot, .int .i64 zone] w (True1 w) := by
  obtain ⟨v1, v2, v3, v4, hv⟩ := layV_cells z s b q d h
  have HV := Lib.hid hv
  clear hv
  go_enter Try.func4, Try.ntmps4
  go_wp2_with fail
  refine (of_any z s b q d h _).mono ?_; rintro e w1 ⟨rfl, hb1⟩
  obtain ⟨hc1, hf1⟩ := bcell hb1
  have hs1 := hb1.size
  try simp at hs1
  have hz1w0 : w.heap.size < w1.heap.size := by omega
  replace hb1 := bt (a := w) (by repeat (first | assumption | exact Below.refl _ _ | refine Below.drew ?_ | refine Below.alloc ?_ (by first | omega | (simp; done) | (simp; omega)) _ | refine Below.setCell ?_ (by first | omega | (simp; done) | (simp; omega)) _)) hb1
  rw [HV.out]
  go_wp2_with fail
  refine (refOf_any z s b q d h _).mono ?_; rintro e w2 ⟨rfl, hb2⟩
  obtain ⟨hc2, hf2⟩ := bcell hb2
  have hs2 := hb2.size
  try simp at hs2
  have hz2w0 : w.heap.size < w2.heap.size := by omega
  have hz2w10 : w1.heap.size < w2.heap.size := by omega
  replace hb2 := bt (a := w) (by repeat (first | assumption | exact Below.refl _ _ | refine Below.drew ?_ | refine Below.alloc ?_ (by first | omega | (simp; done) | (simp; omega)) _ | refine Below.setCell ?_ (by first | omega | (simp; done) | (simp; omega)) _)) hb2
  rw [HV.out]
  generalize hE : Lay.chk z s b q d h = E at *
  have HE := Lib.hid hE
  clear hE
  go_wp2_with fail
  obtain ⟨w3, hw3⟩ : ∃ w3, w3 = (w2.alloc (Obj.cells #[.int .i64 v1, .int .i64 v2, .int .i64 v3, .int .i64 v4] 31)) := ⟨_, rfl⟩
  have hb3 : Below w.heap.size w w3 := by rw [hw3]; exact (by repeat (first | assumption | exact Below.refl _ _ | refine Below.drew ?_ | refine Below.alloc ?_ (by first | omega | (simp; done) | (simp; omega)) _ | refine Below.setCell ?_ (by first | omega | (simp; done) | (simp; omega)) _))
  have hsz : w3.heap.size = w2.heap.size + 1 := by rw [hw3]; simp
  have y0 : w.heap.size < w3.heap.size := by omega
  have y1 : w1.heap.size < w3.heap.size := by omega
  have y2 : w2.heap.size < w3.heap.size := by omega
  have b0 : w3.cell? ⟨w.heap.size, 0, none⟩ = some (.int .i64 z) := by rw [hw3]; go_simp
  have b1 : w3.cell? ⟨w.heap.size, 1, none⟩ = some (.int .i64 s) := by rw [hw3]; go_simp
  have b2 : w3.cell? ⟨w.heap.size, 2, none⟩ = some (.int .i64 b) := by rw [hw3]; go_simp
  have b3 : w3.cell? ⟨w.heap.size, 3, none⟩ = some (.int .i64 q) := by rw [hw3]; go_simp
  have b4 : w3.cell? ⟨w.heap.size, 4, none⟩ = some (.int .i64 d) := by rw [hw3]; go_simp
  have b5 : w3.cell? ⟨w.heap.size, 5, none⟩ = some (.int .i64 h) := by rw [hw3]; go_simp
  have c0 : w3.cell? ⟨w1.heap.size, 0, none⟩ = some (.int .i64 v1) := by rw [hw3]; go_simp
  have c1 : w3.cell? ⟨w1.heap.size, 1, none⟩ = some (.int .i64 v2) := by rw [hw3]; go_simp
  have c2 : w3.cell? ⟨w1.heap.size, 2, none⟩ = some (.int .i64 v3) := by rw [hw3]; go_simp
  have c3 : w3.cell? ⟨w1.heap.size, 3, none⟩ = some (.int .i64 v4) := by rw [hw3]; go_simp
  have d0 : w3.cell? ⟨w2.heap.size, 0, none⟩ = some (.int .i64 v1) := by rw [hw3]; go_simp
  have d1 : w3.cell? ⟨w2.heap.size, 1, none⟩ = some (.int .i64 v2) := by rw [hw3]; go_simp
  have d2 : w3.cell? ⟨w2.heap.size, 2, none⟩ = some (.int .i64 v3) := by rw [hw3]; go_simp
  have d3 : w3.cell? ⟨w2.heap.size, 3, none⟩ = some (.int .i64 v4) := by rw [hw3]; go_simp
  rw [← hw3]
  clear hw3 hsz hc1 hf1 hc2 hf2 hs1 hs2 hz1w0 hz2w0 hz2w10 hb1 hb2
  go_region_held3 (fun w' => (∀ b o, b < w3.heap.size → w'.cell? ⟨b, o, none⟩ = w3.cell? ⟨b, o, none⟩) ∧ Below w3.heap.size w3 w')
    (first | assumption | exact held_start _ | (refine held_next ?_ (by assumption); assumption))
    (first
      | (go_at_call 13; refine (layawake_any _).mono ?_; rintro e w' ⟨rfl, hbq⟩)
      | (go_at_call 18; refine (check_any z s b q d h _).mono ?_; rintro e w' ⟨rfl, hbq⟩; rw [HE.out])
      | (go_at_call 19; refine (refcheck_any z s b q d h _).mono ?_; rintro e w' ⟨rfl, hbq⟩; rw [HE.out])
      | (go_at_call 21; refine (slots_any z s b q d h slot _).mono ?_; rintro e w' ⟨vs1, rfl, ⟨A1, cp1, rfl, hr1⟩, hbq⟩)
      | (go_at_call 22; refine (refslots_any z s b q d h slot _).mono ?_; rintro e w' ⟨vs2, rfl, ⟨A2, cp2, rfl, hr2⟩, hbq⟩; have hr3 := (hr1.below hbq).more hbq.size)
      | (go_at_call 20; refine (same_yes _ _ _ _ _ _ (slotsL_len z s b q d h slot) hr3 hr2).mono ?_; rintro e w' ⟨rfl, hbq⟩)
      | (go_at_call 23; refine (isdata_any z s b q d h zone _).mono ?_; rintro e w' ⟨rfl, hbq⟩)
      | (go_at_call 24; refine (refisdata_any z s b q d h zone _).mono ?_; rintro e w' ⟨rfl, hbq⟩))
  go_wp2
  go_ret
  exact ⟨rfl, bt hb3 (held_two (by assumption))⟩

theorem layoutExact.open6 {H : Type} {enc : TypeId × Value → H} {W : World} {base : Nat} {v : Value} {d : DataW H} {p : List MemPlace}
    (hv : Value.okWide Try.prog W .any base 26 v) (h : DataW.Trod enc Try.prog W 0 (fun _ => true) true 26 v d p) : ∃ z s b q d' h' : Int, v = cfgV z s b q d' h' := by
  obtain ⟨u0, u1, u2, u3, u4, u5, y0, y1, y2, y3, y4, y5, n, rfl, rfl, rfl, g0, g1, g2, g3, g4, g5⟩ := open_agg6 Try.underlying26 (by kernel_rfl) Try.cellsCfg hv h
  obtain ⟨a0, e0, _, _⟩ := DataW.trod_int Try.underlying3 g0
  obtain ⟨a1, e1, _, _⟩ := DataW.trod_int Try.underlying3 g1
  obtain ⟨a2, e2, _, _⟩ := DataW.trod_int Try.underlying3 g2
  obtain ⟨a3, e3, _, _⟩ := DataW.trod_int Try.underlying3 g3
  obtain ⟨a4, e4, _, _⟩ := DataW.trod_int Try.underlying3 g4
  obtain ⟨a5, e5, _, _⟩ := DataW.trod_int Try.underlying3 g5
  simp at e0 e1 e2 e3 e4 e5
  subst e0 e1 e2 e3 e4 e5
  exact ⟨_, _, _, _, _, _, rfl⟩

theorem layoutExact.walk {H : Type} {enc : TypeId × Value → H} {W0 : World} {base : Nat} (v : Value) (d : DataW H) (p : List MemPlace) (hv : Value.okWide Try.prog W0 .any base 26 v)
    (h : DataW.Trod enc Try.prog W0 0 (fun _ => true) true 26 v d p) (_hw : ∀ n ∈ d.weights Try.prog 26, n ≤ 140737488351232)
    (a1 : Int) (_w1 : (Lit.int .i64 a1).wf = true) (a2 : Int) (_w2 : (Lit.int .i64 a2).wf = true) (W : World) : Calls Try.prog 4 #[v, .int .i64 a1, .int .i64 a2] W (True1 W) := by
  obtain ⟨z, s, b, q, d', h', rfl⟩ := layoutExact.open6 hv h
  exact exact_any z s b q d' h' a1 a2 W
end Go.Proofs.Ytopdpfbkdgncaaa
