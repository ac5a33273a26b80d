/-
  No cell of these rows narrows 'for every input' (looked for: loops, veiled, ifaces, maps, wideKeys, modest, calm, conditions, laid).
  DERIVED. THE GIVEN ROWS OF THIS SEAT. 9 by the template 'for every input the law returns true; each argument reads behind the call as it read before'; 0 by the template 'total and deterministic' (their statements: YtopdpfbkdgncaaaTotals.lean).
  GIVEN WITH THE SEED: the statements are not yours to turn. If you find one false, say at which input.
  Laid BY PROGRAM, IN A SANDBOX (cutbox-rows.mjs): the forced cells as the released guide's own fill.sh prints them over the translation e8ea0148e9699598… (all of the seat's roots in one cut). By AI agents, Wed Nov 11 2026. No macro, syntax, notation, axiom, sorry.
-/
import Derived.Test.YtopdpfbkdgncaaaChecked
import GoSem.Claim
import GoSem.ClaimJoined
import GoSem.ClaimMapViews
import Derived.JoinedTies
import Derived.KernelRfl
namespace Go.Proofs.Ytopdpfbkdgncaaa
/- THE CELL 'sum', in the pinned program and in every row, IS THE sha256 OF THE DUMP (.gsa) THAT YtopdpfbkdgncaaaProg.lean LOADS. Nothing in Lean hashes anything: it is a label: what it is worth is what the hold of that sum in a sandbox is worth. -/
noncomputable def Try.pinned : Pinned := { name := "ytopdpfbkdgncaaa", sum := "e8ea0148e96995985c444733877e07ccd0def9319445f4737c17c7b0e8dac10f", checked := Try.checked }
namespace Rows
def none {H : Type} : Left H := { results := [], args := [] }

/-- 'zoneappendlaw07.LayoutGrows': WHATEVER THE INPUT: true; the input reads as it did. -/
def layoutGrowsSpec : ChangeSpec := { name := "layoutGrows", fn := fun _ => fun
  | [d1, d2, d3] => { results := [.lit (.bool true)], args := [d1, d2, d3] }
  | _ => none }
def layoutGrowsRow : OpenClaim := { program := "ytopdpfbkdgncaaa", sum := "e8ea0148e96995985c444733877e07ccd0def9319445f4737c17c7b0e8dac10f", func := "zoneappend/zoneappendlaw07.LayoutGrows", spec := "layoutGrows", apart := false }
def LayoutGrowsSaid : Prop := layoutGrowsRow.holds Try.pinned (OpenSpec.ofChange layoutGrowsSpec)

/-- ITS FALSE NEIGHBOUR: 'it returns false'. Refute it at one input. -/
def layoutGrowsWrong : ChangeSpec := { name := "layoutGrows", fn := fun _ => fun
  | [d1, d2, d3] => { results := [.lit (.bool false)], args := [d1, d2, d3] }
  | _ => none }
def LayoutGrowsWrongFalsely : Prop := layoutGrowsRow.holds Try.pinned (OpenSpec.ofChange layoutGrowsWrong)

/-- 'zoneappendlaw07.LayoutExact': WHATEVER THE INPUT: true; the input reads as it did. -/
def layoutExactSpec : ChangeSpec := { name := "layoutExact", fn := fun _ => fun
  | [d1, d2, d3] => { results := [.lit (.bool true)], args := [d1, d2, d3] }
  | _ => none }
def layoutExactRow : OpenClaim := { program := "ytopdpfbkdgncaaa", sum := "e8ea0148e96995985c444733877e07ccd0def9319445f4737c17c7b0e8dac10f", func := "zoneappend/zoneappendlaw07.LayoutExact", spec := "layoutExact", apart := false }
def LayoutExactSaid : Prop := layoutExactRow.holds Try.pinned (OpenSpec.ofChange layoutExactSpec)

/-- ITS FALSE NEIGHBOUR: 'it returns false'. Refute it at one input. -/
def layoutExactWrong : ChangeSpec := { name := "layoutExact", fn := fun _ => fun
  | [d1, d2, d3] => { results := [.lit (.bool false)], args := [d1, d2, d3] }
  | _ => none }
def LayoutExactWrongFalsely : Prop := layoutExactRow.holds Try.pinned (OpenSpec.ofChange layoutExactWrong)

/-- 'zoneappendlaw07.LayoutMade': WHATEVER THE INPUT: true; the input reads as it did. -/
def layoutMadeSpec : ChangeSpec := { name := "layoutMade", fn := fun _ => fun
  | [d1, d2, d3] => { results := [.lit (.bool true)], args := [d1, d2, d3] }
  | _ => none }
def layoutMadeRow : OpenClaim := { program := "ytopdpfbkdgncaaa", sum := "e8ea0148e96995985c444733877e07ccd0def9319445f4737c17c7b0e8dac10f", func := "zoneappend/zoneappendlaw07.LayoutMade", spec := "layoutMade", apart := false }
def LayoutMadeSaid : Prop := layoutMadeRow.holds Try.pinned (OpenSpec.ofChange layoutMadeSpec)

/-- ITS FALSE NEIGHBOUR: 'it returns false'. Refute it at one input. -/
def layoutMadeWrong : ChangeSpec := { name := "layoutMade", fn := fun _ => fun
  | [d1, d2, d3] => { results := [.lit (.bool false)], args := [d1, d2, d3] }
  | _ => none }
def LayoutMadeWrongFalsely : Prop := layoutMadeRow.holds Try.pinned (OpenSpec.ofChange layoutMadeWrong)

/-- 'zoneappendlaw07.LayoutDivides': WHATEVER THE INPUT: true; the input reads as it did. -/
def layoutDividesSpec : ChangeSpec := { name := "layoutDivides", fn := fun _ => fun
  | [d] => { results := [.lit (.bool true)], args := [d] }
  | _ => none }
def layoutDividesRow : OpenClaim := { program := "ytopdpfbkdgncaaa", sum := "e8ea0148e96995985c444733877e07ccd0def9319445f4737c17c7b0e8dac10f", func := "zoneappend/zoneappendlaw07.LayoutDivides", spec := "layoutDivides", apart := false }
def LayoutDividesSaid : Prop := layoutDividesRow.holds Try.pinned (OpenSpec.ofChange layoutDividesSpec)

/-- ITS FALSE NEIGHBOUR: 'it returns false'. Refute it at one input. -/
def layoutDividesWrong : ChangeSpec := { name := "layoutDivides", fn := fun _ => fun
  | [d] => { results := [.lit (.bool false)], args := [d] }
  | _ => none }
def LayoutDividesWrongFalsely : Prop := layoutDividesRow.holds Try.pinned (OpenSpec.ofChange layoutDividesWrong)

/-- 'zoneappendlaw16.RingRaw': WHATEVER THE INPUT: true; the input reads as it did. -/
def ringRawSpec : ChangeSpec := { name := "ringRaw", fn := fun _ => fun
  | [d1, d2, d3] => { results := [.lit (.bool true)], args := [d1, d2, d3] }
  | _ => none }
def ringRawRow : OpenClaim := { program := "ytopdpfbkdgncaaa", sum := "e8ea0148e96995985c444733877e07ccd0def9319445f4737c17c7b0e8dac10f", func := "zoneappend/zoneappendlaw16.RingRaw", spec := "ringRaw", apart := false }
def RingRawSaid : Prop := ringRawRow.holds Try.pinned (OpenSpec.ofChange ringRawSpec)

/-- ITS FALSE NEIGHBOUR: 'it returns false'. Refute it at one input. -/
def ringRawWrong : ChangeSpec := { name := "ringRaw", fn := fun _ => fun
  | [d1, d2, d3] => { results := [.lit (.bool false)], args := [d1, d2, d3] }
  | _ => none }
def RingRawWrongFalsely : Prop := ringRawRow.holds Try.pinned (OpenSpec.ofChange ringRawWrong)

/-- 'zoneappendlaw16.RingOrder': WHATEVER THE INPUT: true; the input reads as it did. -/
def ringOrderSpec : ChangeSpec := { name := "ringOrder", fn := fun _ => fun
  | [d1, d2] => { results := [.lit (.bool true)], args := [d1, d2] }
  | _ => none }
def ringOrderRow : OpenClaim := { program := "ytopdpfbkdgncaaa", sum := "e8ea0148e96995985c444733877e07ccd0def9319445f4737c17c7b0e8dac10f", func := "zoneappend/zoneappendlaw16.RingOrder", spec := "ringOrder", apart := false }
def RingOrderSaid : Prop := ringOrderRow.holds Try.pinned (OpenSpec.ofChange ringOrderSpec)

/-- ITS FALSE NEIGHBOUR: 'it returns false'. Refute it at one input. -/
def ringOrderWrong : ChangeSpec := { name := "ringOrder", fn := fun _ => fun
  | [d1, d2] => { results := [.lit (.bool false)], args := [d1, d2] }
  | _ => none }
def RingOrderWrongFalsely : Prop := ringOrderRow.holds Try.pinned (OpenSpec.ofChange ringOrderWrong)

/-- 'zoneappendlaw11.LocksRaw': WHATEVER THE INPUT: true; the input reads as it did. -/
def locksRawSpec : ChangeSpec := { name := "locksRaw", fn := fun _ => fun
  | [d1, d2, d3] => { results := [.lit (.bool true)], args := [d1, d2, d3] }
  | _ => none }
def locksRawRow : OpenClaim := { program := "ytopdpfbkdgncaaa", sum := "e8ea0148e96995985c444733877e07ccd0def9319445f4737c17c7b0e8dac10f", func := "zoneappend/zoneappendlaw11.LocksRaw", spec := "locksRaw", apart := false }
def LocksRawSaid : Prop := locksRawRow.holds Try.pinned (OpenSpec.ofChange locksRawSpec)

/-- ITS FALSE NEIGHBOUR: 'it returns false'. Refute it at one input. -/
def locksRawWrong : ChangeSpec := { name := "locksRaw", fn := fun _ => fun
  | [d1, d2, d3] => { results := [.lit (.bool false)], args := [d1, d2, d3] }
  | _ => none }
def LocksRawWrongFalsely : Prop := locksRawRow.holds Try.pinned (OpenSpec.ofChange locksRawWrong)

/-- 'zoneappendlaw11.LocksSteps': WHATEVER THE INPUT: true; the input reads as it did. -/
def locksStepsSpec : ChangeSpec := { name := "locksSteps", fn := fun _ => fun
  | [d1, d2] => { results := [.lit (.bool true)], args := [d1, d2] }
  | _ => none }
def locksStepsRow : OpenClaim := { program := "ytopdpfbkdgncaaa", sum := "e8ea0148e96995985c444733877e07ccd0def9319445f4737c17c7b0e8dac10f", func := "zoneappend/zoneappendlaw11.LocksSteps", spec := "locksSteps", apart := false }
def LocksStepsSaid : Prop := locksStepsRow.holds Try.pinned (OpenSpec.ofChange locksStepsSpec)

/-- ITS FALSE NEIGHBOUR: 'it returns false'. Refute it at one input. -/
def locksStepsWrong : ChangeSpec := { name := "locksSteps", fn := fun _ => fun
  | [d1, d2] => { results := [.lit (.bool false)], args := [d1, d2] }
  | _ => none }
def LocksStepsWrongFalsely : Prop := locksStepsRow.holds Try.pinned (OpenSpec.ofChange locksStepsWrong)

/-- 'zoneappendlaw11.LocksAlone': WHATEVER THE INPUT: true; the input reads as it did. -/
def locksAloneSpec : ChangeSpec := { name := "locksAlone", fn := fun _ => fun
  | [d1, d2] => { results := [.lit (.bool true)], args := [d1, d2] }
  | _ => none }
def locksAloneRow : OpenClaim := { program := "ytopdpfbkdgncaaa", sum := "e8ea0148e96995985c444733877e07ccd0def9319445f4737c17c7b0e8dac10f", func := "zoneappend/zoneappendlaw11.LocksAlone", spec := "locksAlone", apart := false }
def LocksAloneSaid : Prop := locksAloneRow.holds Try.pinned (OpenSpec.ofChange locksAloneSpec)

/-- ITS FALSE NEIGHBOUR: 'it returns false'. Refute it at one input. -/
def locksAloneWrong : ChangeSpec := { name := "locksAlone", fn := fun _ => fun
  | [d1, d2] => { results := [.lit (.bool false)], args := [d1, d2] }
  | _ => none }
def LocksAloneWrongFalsely : Prop := locksAloneRow.holds Try.pinned (OpenSpec.ofChange locksAloneWrong)

/- THE SECOND FORM. 'bulk': how many values and letters a reading holds, each counted each time it is reached (what is shared counts as often as it is met; a slice's spare places count too). A statement '..UptoSaid' is the law's where the arguments, and the package variables that the reading takes, are together of bulk at most 1048576: NARROWER than '..Said'. Prove '..Said' where nothing that the law and all that it calls make is longer than what came in: it says more and counts as full. Else prove '..UptoSaid'. A law counts once. -/
mutual
def uptoBulk {H : Type} : DataW H → Nat
  | .lit (.string bytes) => bytes.length + 1
  | .lit _ => 1
  | .nil => 1
  | .ptr d => uptoBulk d + 1
  | .slice elems spare => uptoBulkAll elems + uptoBulkAll spare + 1
  | .agg parts => uptoBulkAll parts + 1
  | .iface _ d => uptoBulk d + 1
  | .map entries => uptoBulkEntries entries + 1
  | .held _ => 1
def uptoBulkAll {H : Type} : List (DataW H) → Nat
  | [] => 0
  | d :: r => uptoBulk d + uptoBulkAll r
def uptoBulkEntries {H : Type} : List (Lit × DataW H) → Nat
  | [] => 0
  | x :: r => uptoBulkEntry x + uptoBulkEntries r
def uptoBulkEntry {H : Type} : Lit × DataW H → Nat
  | (.string bytes, d) => bytes.length + uptoBulk d + 1
  | (_, d) => uptoBulk d + 1
 end
def uptoSmall : (H : Type) → List (DataW H) → Bool := fun _ ds => decide (uptoBulkAll ds ≤ 1048576)
def OpenSpec.upto (s : _root_.Go.ChangeSpec) : _root_.Go.OpenSpec := { _root_.Go.OpenSpec.ofChange s with cond := some uptoSmall }

/-- 'zoneappendlaw07.LayoutGrows', WHERE WHAT IT READS IS OF BULK AT MOST 1048576: true; the input reads as it did. -/
def layoutGrowsUptoRow : OpenClaim := { program := "ytopdpfbkdgncaaa", sum := "e8ea0148e96995985c444733877e07ccd0def9319445f4737c17c7b0e8dac10f", func := "zoneappend/zoneappendlaw07.LayoutGrows", spec := "layoutGrows", apart := false, narrowed := true }
def LayoutGrowsUptoSaid : Prop := layoutGrowsUptoRow.holds Try.pinned (OpenSpec.upto layoutGrowsSpec)

/-- 'zoneappendlaw07.LayoutExact', WHERE WHAT IT READS IS OF BULK AT MOST 1048576: true; the input reads as it did. -/
def layoutExactUptoRow : OpenClaim := { program := "ytopdpfbkdgncaaa", sum := "e8ea0148e96995985c444733877e07ccd0def9319445f4737c17c7b0e8dac10f", func := "zoneappend/zoneappendlaw07.LayoutExact", spec := "layoutExact", apart := false, narrowed := true }
def LayoutExactUptoSaid : Prop := layoutExactUptoRow.holds Try.pinned (OpenSpec.upto layoutExactSpec)

/-- 'zoneappendlaw07.LayoutMade', WHERE WHAT IT READS IS OF BULK AT MOST 1048576: true; the input reads as it did. -/
def layoutMadeUptoRow : OpenClaim := { program := "ytopdpfbkdgncaaa", sum := "e8ea0148e96995985c444733877e07ccd0def9319445f4737c17c7b0e8dac10f", func := "zoneappend/zoneappendlaw07.LayoutMade", spec := "layoutMade", apart := false, narrowed := true }
def LayoutMadeUptoSaid : Prop := layoutMadeUptoRow.holds Try.pinned (OpenSpec.upto layoutMadeSpec)

/-- 'zoneappendlaw07.LayoutDivides', WHERE WHAT IT READS IS OF BULK AT MOST 1048576: true; the input reads as it did. -/
def layoutDividesUptoRow : OpenClaim := { program := "ytopdpfbkdgncaaa", sum := "e8ea0148e96995985c444733877e07ccd0def9319445f4737c17c7b0e8dac10f", func := "zoneappend/zoneappendlaw07.LayoutDivides", spec := "layoutDivides", apart := false, narrowed := true }
def LayoutDividesUptoSaid : Prop := layoutDividesUptoRow.holds Try.pinned (OpenSpec.upto layoutDividesSpec)

/-- 'zoneappendlaw16.RingRaw', WHERE WHAT IT READS IS OF BULK AT MOST 1048576: true; the input reads as it did. -/
def ringRawUptoRow : OpenClaim := { program := "ytopdpfbkdgncaaa", sum := "e8ea0148e96995985c444733877e07ccd0def9319445f4737c17c7b0e8dac10f", func := "zoneappend/zoneappendlaw16.RingRaw", spec := "ringRaw", apart := false, narrowed := true }
def RingRawUptoSaid : Prop := ringRawUptoRow.holds Try.pinned (OpenSpec.upto ringRawSpec)

/-- 'zoneappendlaw16.RingOrder', WHERE WHAT IT READS IS OF BULK AT MOST 1048576: true; the input reads as it did. -/
def ringOrderUptoRow : OpenClaim := { program := "ytopdpfbkdgncaaa", sum := "e8ea0148e96995985c444733877e07ccd0def9319445f4737c17c7b0e8dac10f", func := "zoneappend/zoneappendlaw16.RingOrder", spec := "ringOrder", apart := false, narrowed := true }
def RingOrderUptoSaid : Prop := ringOrderUptoRow.holds Try.pinned (OpenSpec.upto ringOrderSpec)

/-- 'zoneappendlaw11.LocksRaw', WHERE WHAT IT READS IS OF BULK AT MOST 1048576: true; the input reads as it did. -/
def locksRawUptoRow : OpenClaim := { program := "ytopdpfbkdgncaaa", sum := "e8ea0148e96995985c444733877e07ccd0def9319445f4737c17c7b0e8dac10f", func := "zoneappend/zoneappendlaw11.LocksRaw", spec := "locksRaw", apart := false, narrowed := true }
def LocksRawUptoSaid : Prop := locksRawUptoRow.holds Try.pinned (OpenSpec.upto locksRawSpec)

/-- 'zoneappendlaw11.LocksSteps', WHERE WHAT IT READS IS OF BULK AT MOST 1048576: true; the input reads as it did. -/
def locksStepsUptoRow : OpenClaim := { program := "ytopdpfbkdgncaaa", sum := "e8ea0148e96995985c444733877e07ccd0def9319445f4737c17c7b0e8dac10f", func := "zoneappend/zoneappendlaw11.LocksSteps", spec := "locksSteps", apart := false, narrowed := true }
def LocksStepsUptoSaid : Prop := locksStepsUptoRow.holds Try.pinned (OpenSpec.upto locksStepsSpec)

/-- 'zoneappendlaw11.LocksAlone', WHERE WHAT IT READS IS OF BULK AT MOST 1048576: true; the input reads as it did. -/
def locksAloneUptoRow : OpenClaim := { program := "ytopdpfbkdgncaaa", sum := "e8ea0148e96995985c444733877e07ccd0def9319445f4737c17c7b0e8dac10f", func := "zoneappend/zoneappendlaw11.LocksAlone", spec := "locksAlone", apart := false, narrowed := true }
def LocksAloneUptoSaid : Prop := locksAloneUptoRow.holds Try.pinned (OpenSpec.upto locksAloneSpec)

end Rows
end Go.Proofs.Ytopdpfbkdgncaaa
