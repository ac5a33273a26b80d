/- Arguments opened: an array of integers by value, a slice of integers. No condition. -/
import Derived.Test.YtopdpfbkdgncaaaMem2
namespace Go.Proofs.Ytopdpfbkdgncaaa
set_option linter.unusedVariables false
set_option linter.unusedSimpArgs false
open Go.ChangeShapes Go.WideShapes Go.RowKit Go.Deep Go.Joins

theorem bd_i64 {n : Int} (h : (Lit.int .i64 n).wf = true) : -9223372036854775808 ≤ n ∧ n ≤ 9223372036854775807 := by
  simpa [Lit.wf, IntKind.min, IntKind.max, IntKind.signed, IntKind.bits] using h
theorem bd_u8 {n : Int} (h : (Lit.int .u8 n).wf = true) : ∃ k : Nat, n = k ∧ k < 256 := by
  have : 0 ≤ n ∧ n ≤ 255 := by simpa [Lit.wf, IntKind.min, IntKind.max, IntKind.signed, IntKind.bits] using h
  exact ⟨n.toNat, by omega, by omega⟩
theorem bd_u16 {n : Int} (h : (Lit.int .u16 n).wf = true) : ∃ k : Nat, n = k ∧ k < 65536 := by
  have : 0 ≤ n ∧ n ≤ 65535 := by simpa [Lit.wf, IntKind.min, IntKind.max, IntKind.signed, IntKind.bits] using h
  exact ⟨n.toNat, by omega, by omega⟩

section
variable {H : Type} {enc : TypeId × Value → H} {P : Program} {w : World} {base : Nat}

/-- An array of integers by value. -/
theorem open_arr {r : Reach} {b0 : Nat} {t e : TypeId} {n : Nat} {k : IntKind} {v : Value} {d : DataW H} {p : List MemPlace} {sp : Nat → Bool} {held : Bool} (hs : P.underlying t = some (.array n e)) (he : P.underlying e = some (.int k)) (hC : P.cellsOf e = 1) (hT : P.cellsOf t = n)
    (hv : Value.okWide P w r b0 t v) (h : DataW.Trod enc P w base sp held t v d p) : ∃ xs : List Int, v = .agg (xs.map (Value.int k)).toArray ∧ xs.length = n ∧ ∀ x ∈ xs, (Lit.int k x).wf = true := by
  simp only [Value.okWide, hs] at hv
  obtain ⟨cs, rfl, hsz, _⟩ := hv
  obtain ⟨fuel, hf⟩ := h
  obtain ⟨ys, m, _, _, hlen, hyl, hat⟩ := DataW.trod_array hs hf
  obtain ⟨l⟩ := cs
  simp only [Value.cells] at hlen hat
  rw [hC] at hat
  rw [hT] at hlen
  have hl : l.length = n := hlen
  have each : ∀ u ∈ l, ∃ x : Int, u = .int k x ∧ (Lit.int k x).wf = true := by
    intro u hu
    obtain ⟨i, hi, rfl⟩ := List.getElem_of_mem hu
    have h1 := hat i (by omega)
    rw [Nat.mul_one, List.getElem?_eq_getElem (show i < ys.length by omega)] at h1
    obtain ⟨x, e1, _, e3⟩ := DataW.trod_int he h1
    have e2 := congrArg List.head? e1
    rw [List.drop_eq_getElem_cons hi] at e2
    simp only [List.take_succ_cons, List.head?_cons, Option.some.injEq] at e2
    exact ⟨x, e2, e3⟩
  refine ⟨l.map intOf, ?_, by simpa using hl, ?_⟩
  · congr 1
    rw [List.map_map]
    congr 1
    conv => lhs; rw [← List.map_id l]
    apply List.map_congr_left
    intro u hu
    obtain ⟨x, rfl, _⟩ := each u hu
    rfl
  · intro x hx
    rw [List.mem_map] at hx
    obtain ⟨u, hu, rfl⟩ := hx
    obtain ⟨x, rfl, hw⟩ := each u hu
    exact hw

/-- A slice of integers of one kind: it reads as a list, nil let in. -/
theorem open_isl {r : Reach} {b0 : Nat} {t e : TypeId} {k : IntKind} {v : Value} {d : DataW H} {p : List MemPlace} (hs : P.underlying t = some (.slice e)) (he : P.underlying e = some (.int k)) (hC : P.cellsOf e = 1)
    (hv : Value.okWide P w r b0 t v) (h : DataW.Trod enc P w 0 (fun _ => true) true t v d p) (hb : P.bytesOf e ≥ 1) (hw : ∀ n ∈ d.weights P t, n ≤ 140737488351232) :
    ∃ (A : Option Addr) (c : Nat) (xs : List Int), v = .slice A xs.length c ∧ xs.length ≤ c ∧ xs.length * P.bytesOf e ≤ 140737488351232 ∧ Reads w w.heap.size 1 A xs.length (xs.map (Value.int k)) ∧ ∀ x ∈ xs, (Lit.int k x).wf = true := by
  obtain ⟨a0, len, cap, rfl⟩ := okWide_slice hs hv
  obtain ⟨fuel, hf⟩ := h
  simp only [Value.cells] at hf
  rcases open_ints hs he hC hf with ⟨hcs, hx⟩ | ⟨a, len', cap', zs, hcs, _, hl, hm, hz, hx, hcell, hwz⟩
  · simp at hcs
    obtain ⟨rfl, rfl, rfl⟩ := hcs
    exact ⟨none, 0, [], rfl, Nat.le_refl _, by simp, Reads.none_, fun x hx => by cases hx⟩
  · simp at hcs
    obtain ⟨rfl, rfl, rfl⟩ := hcs
    simp at hz
    have htl : (zs.take len).length = len := by rw [List.length_take]; omega
    have hw1 := hw ((lits (H := H) k (zs.take len)).length * P.bytesOf e + (lits (H := H) k (zs.drop len)).length * P.bytesOf e) (by
      have : d = .slice (lits k (zs.take len)) (lits k (zs.drop len)) := (Prod.mk.inj hx).1
      subst this
      simp [DataW.weights, hs, Nat.add_mul])
    have hl1 : (lits (H := H) k (zs.take len)).length = len := by simp [lits]; omega
    rw [hl1] at hw1
    refine ⟨some a, cap, zs.take len, by rw [htl], by omega, by rw [htl]; omega, ⟨by simp, fun _ => ⟨a, rfl, ?_, ?_⟩⟩, fun x hx => hwz x (List.mem_of_mem_take hx)⟩
    · have h0 : 0 < zs.length := by omega
      have := block_lt_of_cell (hcell 0 h0)
      rwa [block_of_add] at this
    · intro j u hu
      have hj : j < (zs.take len).length := by
        have := (List.getElem?_eq_some_iff.1 hu).1
        simpa using this
      have hj2 : j < zs.length := by rw [List.length_take] at hj; omega
      rw [hcell j hj2, ← hu, List.getElem?_map, List.getElem?_eq_getElem hj]
      simp [List.getElem?_eq_getElem hj2]
end
end Go.Proofs.Ytopdpfbkdgncaaa
