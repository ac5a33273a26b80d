/- What the package's variables hold. No condition. -/
import Derived.Test.YtccplchebbkliaaDoorKit
import Derived.Lib.LaidTab
import Derived.Lib.ItoaNum
namespace Go.Proofs.YtccplchebbkliaaDoor.Ab
set_option linter.unusedVariables false
/-- How many blocks the package's variables are. -/
noncomputable def gN : Nat := Tryd.prog.globals.size
/-- What they hold when the call begins. -/
def gQ (w : World) : Prop := (∃ m, w.var? Tryd.prog "internal/bytealg.MaxLen" = some #[.int .i64 m]) ∧ Lib.TabIs Tryd.prog w "internal/strconv.uint64pow10" .u64 Lib.pow10Tab ∧
  (∃ a b, w.var? Tryd.prog "strconv.ErrSyntax" = some #[.iface a b]) ∧ (∃ a b, w.var? Tryd.prog "strconv.ErrRange" = some #[.iface a b])
/-- They hold it still. -/
def gP (w : World) : Prop := ∃ w0, gQ w0 ∧ ∀ k, k < gN → w.heap[k]? = w0.heap[k]?
theorem gP_local {w w' : World} (h : ∀ k, k < gN → w'.heap[k]? = w.heap[k]?) (hw : gP w) : gP w' := by
  obtain ⟨w0, h1, h2⟩ := hw
  exact ⟨w0, h1, fun k hk => (h k hk).trans (h2 k hk)⟩
end Go.Proofs.YtccplchebbkliaaDoor.Ab
