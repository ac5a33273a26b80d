/- The table of types, laid from closed facts. No condition. -/
import Derived.Test.YtccplchebbkliaaDoorFk
namespace Go.Proofs.YtccplchebbkliaaDoor.Ab
set_option linter.unusedVariables false
set_option linter.unusedSimpArgs false
open Go.RowKit

def look : List (Nat × TI) → Nat → TI
  | [], _ => ⟨.none, 0, 0, [], false⟩
  | p :: l, t => match Nat.beq p.1 t with
    | true => p.2
    | false => look l t

def DescOk (P : Program) (t : Nat) : TK → Prop
  | .none => True
  | .int k => P.underlying t = some (.int k)
  | .bool => P.underlying t = some .bool
  | .str => P.underlying t = some .string
  | .slice e => P.underlying t = some (.slice e)
  | .arr n e => P.underlying t = some (.array n e)
  | .struct fs => ∃ F : Array Field, P.underlying t = some (.struct F) ∧ F.toList.map (fun f => (f.offset, f.type)) = fs
  | .ptr e => P.underlying t = some (.pointer e)
  | .map k e => P.underlying t = some (.map k e)

def EqsOk (P : Program) (t : Nat) (b : Bool) : Prop := b = true → P.stoodInHeld t = false ∧ P.eqGuardType P.depth t = false ∧ ∀ f ∈ (P.fieldsOf t).toList, f.name ≠ "_"
theorem no_eqs {P : Program} {t : Nat} : EqsOk P t false := fun e => Bool.noConfusion e

def Good (P : Program) (t : Nat) (ti : TI) : Prop :=
  (∃ i z, P.info? t = some i ∧ i.size = ti.size ∧ i.bytes = ti.bytes ∧ i.zero = some z ∧ z.cells.toList.map some = ti.zero.map zcell ∧
    (ti.k.agg = true ↔ ∃ c, z = .agg c) ∧ z.cells.size = ti.size ∧ z.cells.all (·.oneCell') = true) ∧ DescOk P t ti.k ∧ EqsOk P t ti.eq

def AllGood (P : Program) : List (Nat × TI) → Prop
  | [] => True
  | p :: l => Good P p.1 p.2 ∧ AllGood P l

theorem tab_ok {P : Program} {l : List (Nat × TI)} (h : AllGood P l) : TabOk P (look l) := by
  have key : ∀ t, ((look l t).k = .none ∧ (look l t).eq = false) ∨ Good P t (look l t) := by
    intro t
    induction l with
    | nil => exact Or.inl ⟨rfl, rfl⟩
    | cons p l ih =>
      simp only [look]
      cases hb : Nat.beq p.1 t with
      | true =>
        have := Nat.eq_of_beq_eq_true hb
        subst this
        exact Or.inr h.1
      | false => exact ih h.2
  refine ⟨fun t => ?_, fun t => ?_, fun t => ?_⟩
  · rcases key t with h | h
    · rw [h.1]; exact trivial
    · cases hk : (look l t).k <;> first | exact trivial | (have h1 := h.1; exact (by simpa only [hk] using h1))
  · rcases key t with h | h
    · rw [h.1]; exact trivial
    · have h2 := h.2.1
      cases hk : (look l t).k <;> rw [hk] at h2 <;> exact h2
  · rcases key t with h | h
    · rw [h.2]; exact fun e => Bool.noConfusion e
    · exact h.2.2

def inB : List Nat → Nat → Bool
  | [], _ => false
  | x :: l, n => match Nat.beq x n with
    | true => true
    | false => inB l n
/-- A table with marks. -/
def markT (fl : List Nat) (T : Nat → TI) (n : Nat) : TI := match inB fl n with
  | true => ⟨.none, 1, 0, [], false⟩
  | false => T n
theorem mark_ok {P : Program} {T : Nat → TI} (fl : List Nat) (h : TabOk P T) : TabOk P (markT fl T) := by
  have key : ∀ t, markT fl T t = ⟨.none, 1, 0, [], false⟩ ∨ markT fl T t = T t := by
    intro t
    unfold markT
    split
    · exact Or.inl rfl
    · exact Or.inr rfl
  refine ⟨fun t => ?_, fun t => ?_, fun t => ?_⟩
  · rcases key t with e | e
    · rw [e]; exact trivial
    · rw [e]; exact h.info t
  · rcases key t with e | e
    · rw [e]; exact trivial
    · rw [e]; exact h.desc t
  · rcases key t with e | e
    · rw [e]; exact fun e => Bool.noConfusion e
    · rw [e]; exact h.eqs t
theorem good_mk {P : Program} {t : Nat} {ti : TI} {z : Value} (h1 : (P.info? t).map (fun i => (i.zero, i.size, i.bytes)) = some (some z, ti.size, ti.bytes)) (h2 : z.cells.toList.map some = ti.zero.map zcell)
    (h3 : ti.k.agg = true ↔ ∃ c, z = .agg c) (h4 : z.cells.size = ti.size) (h5 : z.cells.all (·.oneCell') = true) (h6 : DescOk P t ti.k) (h7 : EqsOk P t ti.eq) : Good P t ti := by
  obtain ⟨i, hi, hz, hs, hb⟩ := info_parts h1
  exact ⟨⟨i, z, hi, hs, hb, hz, h2, h3, h4, h5⟩, h6, h7⟩
theorem agg_yes {z : Value} {b : Bool} (hb : b = true) {c : Array Value} (h : z = .agg c) : b = true ↔ ∃ c, z = .agg c := ⟨fun _ => ⟨c, h⟩, fun _ => hb⟩
theorem agg_no {z : Value} {b : Bool} (hb : b = false) (h : z.oneCell' = true) : b = true ↔ ∃ c, z = .agg c := ⟨fun e => (by rw [hb] at e; cases e), fun ⟨c, e⟩ => by rw [e] at h; cases h⟩
end Go.Proofs.YtccplchebbkliaaDoor.Ab
