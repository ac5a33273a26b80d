/- What a drawn region with calls keeps: all that was in memory before it. -/
import Derived.Test.YtopdpfbkdgncaaaMem2
import Derived.Deep.RegionHeld3
namespace Go.Proofs.Ytopdpfbkdgncaaa
set_option linter.unusedVariables false
set_option linter.unusedSimpArgs false
open Go.RowKit

/-- In w' all that was in w3 reads as it did. -/
abbrev Held (w3 w' : World) : Prop := (∀ b o, b < w3.heap.size → w'.cell? ⟨b, o, none⟩ = w3.cell? ⟨b, o, none⟩) ∧ Below w3.heap.size w3 w'
theorem held_of {w3 w' : World} (h : Below w3.heap.size w3 w') : Held w3 w' := ⟨fun b o hb => h.cell (p := ⟨b, o, none⟩) hb, h⟩
theorem held_two {w3 w' : World} (h : Held w3 w') : Below w3.heap.size w3 w' := h.2
theorem held_start (w3 : World) : Held w3 w3.drew := held_of (Below.refl _ _).drew
theorem held_next {w3 W w' : World} (h : Held w3 W) (hb : Below W.heap.size W w') : Held w3 w' := held_of (bt h.2 hb)
end Go.Proofs.Ytopdpfbkdgncaaa
