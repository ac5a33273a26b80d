/-
  No cell of these rows narrows 'for every input' (looked for: loops, veiled, ifaces, maps, wideKeys, modest, calm, conditions, laid).
  DERIVED. THE GIVEN ROWS OF THIS SEAT. 9 by the template 'for every input the law returns true; each argument reads behind the call as it read before'; 0 by the template 'total and deterministic' (their statements: YtmooflgfcebmaaaTotals.lean).
  GIVEN WITH THE SEED: the statements are not yours to turn. If you find one false, say at which input.
  Laid BY PROGRAM, IN A SANDBOX (cutbox-rows.mjs): the forced cells as the released guide's own fill.sh prints them over the translation 2396518d5da3aebc… (all of the seat's roots in one cut). By AI agents, Wed Nov 11 2026. No macro, syntax, notation, axiom, sorry.
-/
import Derived.Test.YtmooflgfcebmaaaChecked
import GoSem.Claim
import GoSem.ClaimJoined
import GoSem.ClaimMapViews
import Derived.JoinedTies
import Derived.KernelRfl
namespace Go.Proofs.Ytmooflgfcebmaaa
/- THE CELL 'sum', in the pinned program and in every row, IS THE sha256 OF THE DUMP (.gsa) THAT YtmooflgfcebmaaaProg.lean LOADS. Nothing in Lean hashes anything: it is a label: what it is worth is what the hold of that sum in a sandbox is worth. -/
noncomputable def Try.pinned : Pinned := { name := "ytmooflgfcebmaaa", sum := "2396518d5da3aebc6f99550f4983c46d36a4a331051e2253fd7e4d0587177e8b", checked := Try.checked }
namespace Rows
def none {H : Type} : Left H := { results := [], args := [] }

/-- 'zoneappendlaw18.HistoryOrder': WHATEVER THE INPUT: true; the input reads as it did. -/
def historyOrderSpec : ChangeSpec := { name := "historyOrder", fn := fun _ => fun
  | [d1, d2, d3, d4, d5] => { results := [.lit (.bool true)], args := [d1, d2, d3, d4, d5] }
  | _ => none }
def historyOrderRow : OpenClaim := { program := "ytmooflgfcebmaaa", sum := "2396518d5da3aebc6f99550f4983c46d36a4a331051e2253fd7e4d0587177e8b", func := "zoneappend/zoneappendlaw18.HistoryOrder", spec := "historyOrder", apart := false }
def HistoryOrderSaid : Prop := historyOrderRow.holds Try.pinned (OpenSpec.ofChange historyOrderSpec)

/-- ITS FALSE NEIGHBOUR: 'it returns false'. Refute it at one input. -/
def historyOrderWrong : ChangeSpec := { name := "historyOrder", fn := fun _ => fun
  | [d1, d2, d3, d4, d5] => { results := [.lit (.bool false)], args := [d1, d2, d3, d4, d5] }
  | _ => none }
def HistoryOrderWrongFalsely : Prop := historyOrderRow.holds Try.pinned (OpenSpec.ofChange historyOrderWrong)

/-- 'zoneappendlaw18.HistoryRaw': WHATEVER THE INPUT: true; the input reads as it did. -/
def historyRawSpec : ChangeSpec := { name := "historyRaw", fn := fun _ => fun
  | [d1, d2, d3, d4, d5] => { results := [.lit (.bool true)], args := [d1, d2, d3, d4, d5] }
  | _ => none }
def historyRawRow : OpenClaim := { program := "ytmooflgfcebmaaa", sum := "2396518d5da3aebc6f99550f4983c46d36a4a331051e2253fd7e4d0587177e8b", func := "zoneappend/zoneappendlaw18.HistoryRaw", spec := "historyRaw", unfollowed := true, recurses := true, apart := false }
def HistoryRawSaid : Prop := historyRawRow.holds Try.pinned (OpenSpec.ofChange historyRawSpec)

/-- ITS FALSE NEIGHBOUR: 'it returns false'. Refute it at one input. -/
def historyRawWrong : ChangeSpec := { name := "historyRaw", fn := fun _ => fun
  | [d1, d2, d3, d4, d5] => { results := [.lit (.bool false)], args := [d1, d2, d3, d4, d5] }
  | _ => none }
def HistoryRawWrongFalsely : Prop := historyRawRow.holds Try.pinned (OpenSpec.ofChange historyRawWrong)

/-- 'zoneappendlaw18.HistoryMade': WHATEVER THE INPUT: true; the input reads as it did. -/
def historyMadeSpec : ChangeSpec := { name := "historyMade", fn := fun _ => fun
  | [d1, d2, d3, d4, d5, d6] => { results := [.lit (.bool true)], args := [d1, d2, d3, d4, d5, d6] }
  | _ => none }
def historyMadeRow : OpenClaim := { program := "ytmooflgfcebmaaa", sum := "2396518d5da3aebc6f99550f4983c46d36a4a331051e2253fd7e4d0587177e8b", func := "zoneappend/zoneappendlaw18.HistoryMade", spec := "historyMade", unfollowed := true, recurses := true, apart := false }
def HistoryMadeSaid : Prop := historyMadeRow.holds Try.pinned (OpenSpec.ofChange historyMadeSpec)

/-- ITS FALSE NEIGHBOUR: 'it returns false'. Refute it at one input. -/
def historyMadeWrong : ChangeSpec := { name := "historyMade", fn := fun _ => fun
  | [d1, d2, d3, d4, d5, d6] => { results := [.lit (.bool false)], args := [d1, d2, d3, d4, d5, d6] }
  | _ => none }
def HistoryMadeWrongFalsely : Prop := historyMadeRow.holds Try.pinned (OpenSpec.ofChange historyMadeWrong)

/-- 'zoneappendlaw18.HistoryCounts': WHATEVER THE INPUT: true; the input reads as it did. -/
def historyCountsSpec : ChangeSpec := { name := "historyCounts", fn := fun _ => fun
  | [d] => { results := [.lit (.bool true)], args := [d] }
  | _ => none }
def historyCountsRow : OpenClaim := { program := "ytmooflgfcebmaaa", sum := "2396518d5da3aebc6f99550f4983c46d36a4a331051e2253fd7e4d0587177e8b", func := "zoneappend/zoneappendlaw18.HistoryCounts", spec := "historyCounts", unfollowed := true, recurses := true, apart := false }
def HistoryCountsSaid : Prop := historyCountsRow.holds Try.pinned (OpenSpec.ofChange historyCountsSpec)

/-- ITS FALSE NEIGHBOUR: 'it returns false'. Refute it at one input. -/
def historyCountsWrong : ChangeSpec := { name := "historyCounts", fn := fun _ => fun
  | [d] => { results := [.lit (.bool false)], args := [d] }
  | _ => none }
def HistoryCountsWrongFalsely : Prop := historyCountsRow.holds Try.pinned (OpenSpec.ofChange historyCountsWrong)

/-- 'zoneappendlaw15.CommandExact': WHATEVER THE INPUT: true; the input reads as it did. -/
def commandExactSpec : ChangeSpec := { name := "commandExact", fn := fun _ => fun
  | [d1, d2] => { results := [.lit (.bool true)], args := [d1, d2] }
  | _ => none }
def commandExactRow : OpenClaim := { program := "ytmooflgfcebmaaa", sum := "2396518d5da3aebc6f99550f4983c46d36a4a331051e2253fd7e4d0587177e8b", func := "zoneappend/zoneappendlaw15.CommandExact", spec := "commandExact", inPlace := ["internal/abi.NoEscape", "internal/bytealg.MakeNoZero"], apart := false }
def CommandExactSaid : Prop := commandExactRow.holds Try.pinned (OpenSpec.ofChange commandExactSpec)

/-- ITS FALSE NEIGHBOUR: 'it returns false'. Refute it at one input. -/
def commandExactWrong : ChangeSpec := { name := "commandExact", fn := fun _ => fun
  | [d1, d2] => { results := [.lit (.bool false)], args := [d1, d2] }
  | _ => none }
def CommandExactWrongFalsely : Prop := commandExactRow.holds Try.pinned (OpenSpec.ofChange commandExactWrong)

/-- 'zoneappendlaw15.CommandBlocks': WHATEVER THE INPUT: true; the input reads as it did. -/
def commandBlocksSpec : ChangeSpec := { name := "commandBlocks", fn := fun _ => fun
  | [d1, d2, d3, d4] => { results := [.lit (.bool true)], args := [d1, d2, d3, d4] }
  | _ => none }
def commandBlocksRow : OpenClaim := { program := "ytmooflgfcebmaaa", sum := "2396518d5da3aebc6f99550f4983c46d36a4a331051e2253fd7e4d0587177e8b", func := "zoneappend/zoneappendlaw15.CommandBlocks", spec := "commandBlocks", inPlace := ["internal/abi.NoEscape", "internal/bytealg.MakeNoZero"], apart := false }
def CommandBlocksSaid : Prop := commandBlocksRow.holds Try.pinned (OpenSpec.ofChange commandBlocksSpec)

/-- ITS FALSE NEIGHBOUR: 'it returns false'. Refute it at one input. -/
def commandBlocksWrong : ChangeSpec := { name := "commandBlocks", fn := fun _ => fun
  | [d1, d2, d3, d4] => { results := [.lit (.bool false)], args := [d1, d2, d3, d4] }
  | _ => none }
def CommandBlocksWrongFalsely : Prop := commandBlocksRow.holds Try.pinned (OpenSpec.ofChange commandBlocksWrong)

/-- 'zoneappendlaw17.ModelRaw': WHATEVER THE INPUT: true; the input reads as it did. -/
def modelRawSpec : ChangeSpec := { name := "modelRaw", fn := fun _ => fun
  | [d1, d2, d3, d4] => { results := [.lit (.bool true)], args := [d1, d2, d3, d4] }
  | _ => none }
def modelRawRow : OpenClaim := { program := "ytmooflgfcebmaaa", sum := "2396518d5da3aebc6f99550f4983c46d36a4a331051e2253fd7e4d0587177e8b", func := "zoneappend/zoneappendlaw17.ModelRaw", spec := "modelRaw", inPlace := ["internal/abi.NoEscape", "internal/bytealg.MakeNoZero"], apart := false }
def ModelRawSaid : Prop := modelRawRow.holds Try.pinned (OpenSpec.ofChange modelRawSpec)

/-- ITS FALSE NEIGHBOUR: 'it returns false'. Refute it at one input. -/
def modelRawWrong : ChangeSpec := { name := "modelRaw", fn := fun _ => fun
  | [d1, d2, d3, d4] => { results := [.lit (.bool false)], args := [d1, d2, d3, d4] }
  | _ => none }
def ModelRawWrongFalsely : Prop := modelRawRow.holds Try.pinned (OpenSpec.ofChange modelRawWrong)

/-- 'zoneappendlaw17.ModelReads': WHATEVER THE INPUT: true; the input reads as it did. -/
def modelReadsSpec : ChangeSpec := { name := "modelReads", fn := fun _ => fun
  | [d] => { results := [.lit (.bool true)], args := [d] }
  | _ => none }
def modelReadsRow : OpenClaim := { program := "ytmooflgfcebmaaa", sum := "2396518d5da3aebc6f99550f4983c46d36a4a331051e2253fd7e4d0587177e8b", func := "zoneappend/zoneappendlaw17.ModelReads", spec := "modelReads", inPlace := ["internal/abi.NoEscape", "internal/bytealg.MakeNoZero"], apart := false }
def ModelReadsSaid : Prop := modelReadsRow.holds Try.pinned (OpenSpec.ofChange modelReadsSpec)

/-- ITS FALSE NEIGHBOUR: 'it returns false'. Refute it at one input. -/
def modelReadsWrong : ChangeSpec := { name := "modelReads", fn := fun _ => fun
  | [d] => { results := [.lit (.bool false)], args := [d] }
  | _ => none }
def ModelReadsWrongFalsely : Prop := modelReadsRow.holds Try.pinned (OpenSpec.ofChange modelReadsWrong)

/-- 'zoneappendlaw17.ModelCommutes': WHATEVER THE INPUT: true; the input reads as it did. -/
def modelCommutesSpec : ChangeSpec := { name := "modelCommutes", fn := fun _ => fun
  | [d] => { results := [.lit (.bool true)], args := [d] }
  | _ => none }
def modelCommutesRow : OpenClaim := { program := "ytmooflgfcebmaaa", sum := "2396518d5da3aebc6f99550f4983c46d36a4a331051e2253fd7e4d0587177e8b", func := "zoneappend/zoneappendlaw17.ModelCommutes", spec := "modelCommutes", inPlace := ["internal/abi.NoEscape", "internal/bytealg.MakeNoZero"], apart := false }
def ModelCommutesSaid : Prop := modelCommutesRow.holds Try.pinned (OpenSpec.ofChange modelCommutesSpec)

/-- ITS FALSE NEIGHBOUR: 'it returns false'. Refute it at one input. -/
def modelCommutesWrong : ChangeSpec := { name := "modelCommutes", fn := fun _ => fun
  | [d] => { results := [.lit (.bool false)], args := [d] }
  | _ => none }
def ModelCommutesWrongFalsely : Prop := modelCommutesRow.holds Try.pinned (OpenSpec.ofChange modelCommutesWrong)

/- THE SECOND FORM. 'bulk': how many values and letters a reading holds, each counted each time it is reached (what is shared counts as often as it is met; a slice's spare places count too). A statement '..UptoSaid' is the law's where the arguments, and the package variables that the reading takes, are together of bulk at most 1048576: NARROWER than '..Said'. Prove '..Said' where nothing that the law and all that it calls make is longer than what came in: it says more and counts as full. Else prove '..UptoSaid'. A law counts once. -/
mutual
def uptoBulk {H : Type} : DataW H → Nat
  | .lit (.string bytes) => bytes.length + 1
  | .lit _ => 1
  | .nil => 1
  | .ptr d => uptoBulk d + 1
  | .slice elems spare => uptoBulkAll elems + uptoBulkAll spare + 1
  | .agg parts => uptoBulkAll parts + 1
  | .iface _ d => uptoBulk d + 1
  | .map entries => uptoBulkEntries entries + 1
  | .held _ => 1
def uptoBulkAll {H : Type} : List (DataW H) → Nat
  | [] => 0
  | d :: r => uptoBulk d + uptoBulkAll r
def uptoBulkEntries {H : Type} : List (Lit × DataW H) → Nat
  | [] => 0
  | x :: r => uptoBulkEntry x + uptoBulkEntries r
def uptoBulkEntry {H : Type} : Lit × DataW H → Nat
  | (.string bytes, d) => bytes.length + uptoBulk d + 1
  | (_, d) => uptoBulk d + 1
 end
def uptoSmall : (H : Type) → List (DataW H) → Bool := fun _ ds => decide (uptoBulkAll ds ≤ 1048576)
def OpenSpec.upto (s : _root_.Go.ChangeSpec) : _root_.Go.OpenSpec := { _root_.Go.OpenSpec.ofChange s with cond := some uptoSmall }

/-- 'zoneappendlaw18.HistoryOrder', WHERE WHAT IT READS IS OF BULK AT MOST 1048576: true; the input reads as it did. -/
def historyOrderUptoRow : OpenClaim := { program := "ytmooflgfcebmaaa", sum := "2396518d5da3aebc6f99550f4983c46d36a4a331051e2253fd7e4d0587177e8b", func := "zoneappend/zoneappendlaw18.HistoryOrder", spec := "historyOrder", apart := false, narrowed := true }
def HistoryOrderUptoSaid : Prop := historyOrderUptoRow.holds Try.pinned (OpenSpec.upto historyOrderSpec)

/-- 'zoneappendlaw18.HistoryRaw', WHERE WHAT IT READS IS OF BULK AT MOST 1048576: true; the input reads as it did. -/
def historyRawUptoRow : OpenClaim := { program := "ytmooflgfcebmaaa", sum := "2396518d5da3aebc6f99550f4983c46d36a4a331051e2253fd7e4d0587177e8b", func := "zoneappend/zoneappendlaw18.HistoryRaw", spec := "historyRaw", unfollowed := true, recurses := true, apart := false, narrowed := true }
def HistoryRawUptoSaid : Prop := historyRawUptoRow.holds Try.pinned (OpenSpec.upto historyRawSpec)

/-- 'zoneappendlaw18.HistoryMade', WHERE WHAT IT READS IS OF BULK AT MOST 1048576: true; the input reads as it did. -/
def historyMadeUptoRow : OpenClaim := { program := "ytmooflgfcebmaaa", sum := "2396518d5da3aebc6f99550f4983c46d36a4a331051e2253fd7e4d0587177e8b", func := "zoneappend/zoneappendlaw18.HistoryMade", spec := "historyMade", unfollowed := true, recurses := true, apart := false, narrowed := true }
def HistoryMadeUptoSaid : Prop := historyMadeUptoRow.holds Try.pinned (OpenSpec.upto historyMadeSpec)

/-- 'zoneappendlaw18.HistoryCounts', WHERE WHAT IT READS IS OF BULK AT MOST 1048576: true; the input reads as it did. -/
def historyCountsUptoRow : OpenClaim := { program := "ytmooflgfcebmaaa", sum := "2396518d5da3aebc6f99550f4983c46d36a4a331051e2253fd7e4d0587177e8b", func := "zoneappend/zoneappendlaw18.HistoryCounts", spec := "historyCounts", unfollowed := true, recurses := true, apart := false, narrowed := true }
def HistoryCountsUptoSaid : Prop := historyCountsUptoRow.holds Try.pinned (OpenSpec.upto historyCountsSpec)

/-- 'zoneappendlaw15.CommandExact', WHERE WHAT IT READS IS OF BULK AT MOST 1048576: true; the input reads as it did. -/
def commandExactUptoRow : OpenClaim := { program := "ytmooflgfcebmaaa", sum := "2396518d5da3aebc6f99550f4983c46d36a4a331051e2253fd7e4d0587177e8b", func := "zoneappend/zoneappendlaw15.CommandExact", spec := "commandExact", inPlace := ["internal/abi.NoEscape", "internal/bytealg.MakeNoZero"], apart := false, narrowed := true }
def CommandExactUptoSaid : Prop := commandExactUptoRow.holds Try.pinned (OpenSpec.upto commandExactSpec)

/-- 'zoneappendlaw15.CommandBlocks', WHERE WHAT IT READS IS OF BULK AT MOST 1048576: true; the input reads as it did. -/
def commandBlocksUptoRow : OpenClaim := { program := "ytmooflgfcebmaaa", sum := "2396518d5da3aebc6f99550f4983c46d36a4a331051e2253fd7e4d0587177e8b", func := "zoneappend/zoneappendlaw15.CommandBlocks", spec := "commandBlocks", inPlace := ["internal/abi.NoEscape", "internal/bytealg.MakeNoZero"], apart := false, narrowed := true }
def CommandBlocksUptoSaid : Prop := commandBlocksUptoRow.holds Try.pinned (OpenSpec.upto commandBlocksSpec)

/-- 'zoneappendlaw17.ModelRaw', WHERE WHAT IT READS IS OF BULK AT MOST 1048576: true; the input reads as it did. -/
def modelRawUptoRow : OpenClaim := { program := "ytmooflgfcebmaaa", sum := "2396518d5da3aebc6f99550f4983c46d36a4a331051e2253fd7e4d0587177e8b", func := "zoneappend/zoneappendlaw17.ModelRaw", spec := "modelRaw", inPlace := ["internal/abi.NoEscape", "internal/bytealg.MakeNoZero"], apart := false, narrowed := true }
def ModelRawUptoSaid : Prop := modelRawUptoRow.holds Try.pinned (OpenSpec.upto modelRawSpec)

/-- 'zoneappendlaw17.ModelReads', WHERE WHAT IT READS IS OF BULK AT MOST 1048576: true; the input reads as it did. -/
def modelReadsUptoRow : OpenClaim := { program := "ytmooflgfcebmaaa", sum := "2396518d5da3aebc6f99550f4983c46d36a4a331051e2253fd7e4d0587177e8b", func := "zoneappend/zoneappendlaw17.ModelReads", spec := "modelReads", inPlace := ["internal/abi.NoEscape", "internal/bytealg.MakeNoZero"], apart := false, narrowed := true }
def ModelReadsUptoSaid : Prop := modelReadsUptoRow.holds Try.pinned (OpenSpec.upto modelReadsSpec)

/-- 'zoneappendlaw17.ModelCommutes', WHERE WHAT IT READS IS OF BULK AT MOST 1048576: true; the input reads as it did. -/
def modelCommutesUptoRow : OpenClaim := { program := "ytmooflgfcebmaaa", sum := "2396518d5da3aebc6f99550f4983c46d36a4a331051e2253fd7e4d0587177e8b", func := "zoneappend/zoneappendlaw17.ModelCommutes", spec := "modelCommutes", inPlace := ["internal/abi.NoEscape", "internal/bytealg.MakeNoZero"], apart := false, narrowed := true }
def ModelCommutesUptoSaid : Prop := modelCommutesUptoRow.holds Try.pinned (OpenSpec.upto modelCommutesSpec)

end Rows
end Go.Proofs.Ytmooflgfcebmaaa
