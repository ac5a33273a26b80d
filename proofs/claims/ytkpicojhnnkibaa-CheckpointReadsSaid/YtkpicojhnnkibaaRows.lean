/-
  No cell of these rows narrows 'for every input' (looked for: loops, veiled, ifaces, maps, wideKeys, modest, calm, conditions, laid).
  DERIVED. THE GIVEN ROWS OF THIS SEAT. 6 by the template 'for every input the law returns true; each argument reads behind the call as it read before'; 0 by the template 'total and deterministic' (their statements: YtkpicojhnnkibaaTotals.lean).
  GIVEN WITH THE SEED: the statements are not yours to turn. If you find one false, say at which input.
  Laid BY PROGRAM, IN A SANDBOX (cutbox-rows.mjs): the forced cells as the released guide's own fill.sh prints them over the translation c45d77fa05125c94… (all of the seat's roots in one cut). By AI agents, Wed Nov 11 2026. No macro, syntax, notation, axiom, sorry.
-/
import Derived.Test.YtkpicojhnnkibaaChecked
import GoSem.Claim
import GoSem.ClaimJoined
import GoSem.ClaimMapViews
import Derived.JoinedTies
import Derived.KernelRfl
namespace Go.Proofs.Ytkpicojhnnkibaa
/- THE CELL 'sum', in the pinned program and in every row, IS THE sha256 OF THE DUMP (.gsa) THAT YtkpicojhnnkibaaProg.lean LOADS. Nothing in Lean hashes anything: it is a label: what it is worth is what the hold of that sum in a sandbox is worth. -/
noncomputable def Try.pinned : Pinned := { name := "ytkpicojhnnkibaa", sum := "c45d77fa05125c9490e176c92040bdd3527a14ce92fe3c2c8d4ceaeb5f7a131e", checked := Try.checked }
namespace Rows
def none {H : Type} : Left H := { results := [], args := [] }

/-- 'zoneappendlaw21.CheckpointRaw': WHATEVER THE INPUT: true; the input reads as it did. -/
def checkpointRawSpec : ChangeSpec := { name := "checkpointRaw", fn := fun _ => fun
  | [d1, d2] => { results := [.lit (.bool true)], args := [d1, d2] }
  | _ => none }
def checkpointRawRow : OpenClaim := { program := "ytkpicojhnnkibaa", sum := "c45d77fa05125c9490e176c92040bdd3527a14ce92fe3c2c8d4ceaeb5f7a131e", func := "zoneappend/zoneappendlaw21.CheckpointRaw", spec := "checkpointRaw", inPlace := ["internal/abi.NoEscape", "internal/bytealg.MakeNoZero"], apart := false }
def CheckpointRawSaid : Prop := checkpointRawRow.holds Try.pinned (OpenSpec.ofChange checkpointRawSpec)

/-- ITS FALSE NEIGHBOUR: 'it returns false'. Refute it at one input. -/
def checkpointRawWrong : ChangeSpec := { name := "checkpointRaw", fn := fun _ => fun
  | [d1, d2] => { results := [.lit (.bool false)], args := [d1, d2] }
  | _ => none }
def CheckpointRawWrongFalsely : Prop := checkpointRawRow.holds Try.pinned (OpenSpec.ofChange checkpointRawWrong)

/-- 'zoneappendlaw21.CheckpointBack': WHATEVER THE INPUT: true; the input reads as it did. -/
def checkpointBackSpec : ChangeSpec := { name := "checkpointBack", fn := fun _ => fun
  | [d1, d2, d3] => { results := [.lit (.bool true)], args := [d1, d2, d3] }
  | _ => none }
def checkpointBackRow : OpenClaim := { program := "ytkpicojhnnkibaa", sum := "c45d77fa05125c9490e176c92040bdd3527a14ce92fe3c2c8d4ceaeb5f7a131e", func := "zoneappend/zoneappendlaw21.CheckpointBack", spec := "checkpointBack", inPlace := ["internal/abi.NoEscape", "internal/bytealg.MakeNoZero"], apart := false }
def CheckpointBackSaid : Prop := checkpointBackRow.holds Try.pinned (OpenSpec.ofChange checkpointBackSpec)

/-- ITS FALSE NEIGHBOUR: 'it returns false'. Refute it at one input. -/
def checkpointBackWrong : ChangeSpec := { name := "checkpointBack", fn := fun _ => fun
  | [d1, d2, d3] => { results := [.lit (.bool false)], args := [d1, d2, d3] }
  | _ => none }
def CheckpointBackWrongFalsely : Prop := checkpointBackRow.holds Try.pinned (OpenSpec.ofChange checkpointBackWrong)

/-- 'zoneappendlaw22.ScanMade': WHATEVER THE INPUT: true; the input reads as it did. -/
def scanMadeSpec : ChangeSpec := { name := "scanMade", fn := fun _ => fun
  | [d1, d2] => { results := [.lit (.bool true)], args := [d1, d2] }
  | _ => none }
def scanMadeRow : OpenClaim := { program := "ytkpicojhnnkibaa", sum := "c45d77fa05125c9490e176c92040bdd3527a14ce92fe3c2c8d4ceaeb5f7a131e", func := "zoneappend/zoneappendlaw22.ScanMade", spec := "scanMade", inPlace := ["internal/abi.NoEscape", "internal/bytealg.MakeNoZero"], apart := false }
def ScanMadeSaid : Prop := scanMadeRow.holds Try.pinned (OpenSpec.ofChange scanMadeSpec)

/-- ITS FALSE NEIGHBOUR: 'it returns false'. Refute it at one input. -/
def scanMadeWrong : ChangeSpec := { name := "scanMade", fn := fun _ => fun
  | [d1, d2] => { results := [.lit (.bool false)], args := [d1, d2] }
  | _ => none }
def ScanMadeWrongFalsely : Prop := scanMadeRow.holds Try.pinned (OpenSpec.ofChange scanMadeWrong)

/-- 'zoneappendlaw22.ScanFinds': WHATEVER THE INPUT: true; the input reads as it did. -/
def scanFindsSpec : ChangeSpec := { name := "scanFinds", fn := fun _ => fun
  | [d1, d2, d3, d4] => { results := [.lit (.bool true)], args := [d1, d2, d3, d4] }
  | _ => none }
def scanFindsRow : OpenClaim := { program := "ytkpicojhnnkibaa", sum := "c45d77fa05125c9490e176c92040bdd3527a14ce92fe3c2c8d4ceaeb5f7a131e", func := "zoneappend/zoneappendlaw22.ScanFinds", spec := "scanFinds", inPlace := ["internal/abi.NoEscape", "internal/bytealg.MakeNoZero"], apart := false }
def ScanFindsSaid : Prop := scanFindsRow.holds Try.pinned (OpenSpec.ofChange scanFindsSpec)

/-- ITS FALSE NEIGHBOUR: 'it returns false'. Refute it at one input. -/
def scanFindsWrong : ChangeSpec := { name := "scanFinds", fn := fun _ => fun
  | [d1, d2, d3, d4] => { results := [.lit (.bool false)], args := [d1, d2, d3, d4] }
  | _ => none }
def ScanFindsWrongFalsely : Prop := scanFindsRow.holds Try.pinned (OpenSpec.ofChange scanFindsWrong)

/-- 'zoneappendlaw21.CheckpointReads': WHATEVER THE INPUT: true; the input reads as it did. -/
def checkpointReadsSpec : ChangeSpec := { name := "checkpointReads", fn := fun _ => fun
  | [d1, d2, d3, d4, d5] => { results := [.lit (.bool true)], args := [d1, d2, d3, d4, d5] }
  | _ => none }
def checkpointReadsRow : OpenClaim := { program := "ytkpicojhnnkibaa", sum := "c45d77fa05125c9490e176c92040bdd3527a14ce92fe3c2c8d4ceaeb5f7a131e", func := "zoneappend/zoneappendlaw21.CheckpointReads", spec := "checkpointReads", inPlace := ["internal/abi.NoEscape", "internal/bytealg.MakeNoZero"], apart := false }
def CheckpointReadsSaid : Prop := checkpointReadsRow.holds Try.pinned (OpenSpec.ofChange checkpointReadsSpec)

/-- ITS FALSE NEIGHBOUR: 'it returns false'. Refute it at one input. -/
def checkpointReadsWrong : ChangeSpec := { name := "checkpointReads", fn := fun _ => fun
  | [d1, d2, d3, d4, d5] => { results := [.lit (.bool false)], args := [d1, d2, d3, d4, d5] }
  | _ => none }
def CheckpointReadsWrongFalsely : Prop := checkpointReadsRow.holds Try.pinned (OpenSpec.ofChange checkpointReadsWrong)

/-- 'zoneappendlaw21.CheckpointFits': WHATEVER THE INPUT: true; the input reads as it did. -/
def checkpointFitsSpec : ChangeSpec := { name := "checkpointFits", fn := fun _ => fun
  | [d1, d2] => { results := [.lit (.bool true)], args := [d1, d2] }
  | _ => none }
def checkpointFitsRow : OpenClaim := { program := "ytkpicojhnnkibaa", sum := "c45d77fa05125c9490e176c92040bdd3527a14ce92fe3c2c8d4ceaeb5f7a131e", func := "zoneappend/zoneappendlaw21.CheckpointFits", spec := "checkpointFits", inPlace := ["internal/abi.NoEscape", "internal/bytealg.MakeNoZero"], apart := false }
def CheckpointFitsSaid : Prop := checkpointFitsRow.holds Try.pinned (OpenSpec.ofChange checkpointFitsSpec)

/-- ITS FALSE NEIGHBOUR: 'it returns false'. Refute it at one input. -/
def checkpointFitsWrong : ChangeSpec := { name := "checkpointFits", fn := fun _ => fun
  | [d1, d2] => { results := [.lit (.bool false)], args := [d1, d2] }
  | _ => none }
def CheckpointFitsWrongFalsely : Prop := checkpointFitsRow.holds Try.pinned (OpenSpec.ofChange checkpointFitsWrong)

/- THE SECOND FORM. 'bulk': how many values and letters a reading holds, each counted each time it is reached (what is shared counts as often as it is met; a slice's spare places count too). A statement '..UptoSaid' is the law's where the arguments, and the package variables that the reading takes, are together of bulk at most 1048576: NARROWER than '..Said'. Prove '..Said' where nothing that the law and all that it calls make is longer than what came in: it says more and counts as full. Else prove '..UptoSaid'. A law counts once. -/
mutual
def uptoBulk {H : Type} : DataW H → Nat
  | .lit (.string bytes) => bytes.length + 1
  | .lit _ => 1
  | .nil => 1
  | .ptr d => uptoBulk d + 1
  | .slice elems spare => uptoBulkAll elems + uptoBulkAll spare + 1
  | .agg parts => uptoBulkAll parts + 1
  | .iface _ d => uptoBulk d + 1
  | .map entries => uptoBulkEntries entries + 1
  | .held _ => 1
def uptoBulkAll {H : Type} : List (DataW H) → Nat
  | [] => 0
  | d :: r => uptoBulk d + uptoBulkAll r
def uptoBulkEntries {H : Type} : List (Lit × DataW H) → Nat
  | [] => 0
  | x :: r => uptoBulkEntry x + uptoBulkEntries r
def uptoBulkEntry {H : Type} : Lit × DataW H → Nat
  | (.string bytes, d) => bytes.length + uptoBulk d + 1
  | (_, d) => uptoBulk d + 1
 end
def uptoSmall : (H : Type) → List (DataW H) → Bool := fun _ ds => decide (uptoBulkAll ds ≤ 1048576)
def OpenSpec.upto (s : _root_.Go.ChangeSpec) : _root_.Go.OpenSpec := { _root_.Go.OpenSpec.ofChange s with cond := some uptoSmall }

/-- 'zoneappendlaw21.CheckpointRaw', WHERE WHAT IT READS IS OF BULK AT MOST 1048576: true; the input reads as it did. -/
def checkpointRawUptoRow : OpenClaim := { program := "ytkpicojhnnkibaa", sum := "c45d77fa05125c9490e176c92040bdd3527a14ce92fe3c2c8d4ceaeb5f7a131e", func := "zoneappend/zoneappendlaw21.CheckpointRaw", spec := "checkpointRaw", inPlace := ["internal/abi.NoEscape", "internal/bytealg.MakeNoZero"], apart := false, narrowed := true }
def CheckpointRawUptoSaid : Prop := checkpointRawUptoRow.holds Try.pinned (OpenSpec.upto checkpointRawSpec)

/-- 'zoneappendlaw21.CheckpointBack', WHERE WHAT IT READS IS OF BULK AT MOST 1048576: true; the input reads as it did. -/
def checkpointBackUptoRow : OpenClaim := { program := "ytkpicojhnnkibaa", sum := "c45d77fa05125c9490e176c92040bdd3527a14ce92fe3c2c8d4ceaeb5f7a131e", func := "zoneappend/zoneappendlaw21.CheckpointBack", spec := "checkpointBack", inPlace := ["internal/abi.NoEscape", "internal/bytealg.MakeNoZero"], apart := false, narrowed := true }
def CheckpointBackUptoSaid : Prop := checkpointBackUptoRow.holds Try.pinned (OpenSpec.upto checkpointBackSpec)

/-- 'zoneappendlaw22.ScanMade', WHERE WHAT IT READS IS OF BULK AT MOST 1048576: true; the input reads as it did. -/
def scanMadeUptoRow : OpenClaim := { program := "ytkpicojhnnkibaa", sum := "c45d77fa05125c9490e176c92040bdd3527a14ce92fe3c2c8d4ceaeb5f7a131e", func := "zoneappend/zoneappendlaw22.ScanMade", spec := "scanMade", inPlace := ["internal/abi.NoEscape", "internal/bytealg.MakeNoZero"], apart := false, narrowed := true }
def ScanMadeUptoSaid : Prop := scanMadeUptoRow.holds Try.pinned (OpenSpec.upto scanMadeSpec)

/-- 'zoneappendlaw22.ScanFinds', WHERE WHAT IT READS IS OF BULK AT MOST 1048576: true; the input reads as it did. -/
def scanFindsUptoRow : OpenClaim := { program := "ytkpicojhnnkibaa", sum := "c45d77fa05125c9490e176c92040bdd3527a14ce92fe3c2c8d4ceaeb5f7a131e", func := "zoneappend/zoneappendlaw22.ScanFinds", spec := "scanFinds", inPlace := ["internal/abi.NoEscape", "internal/bytealg.MakeNoZero"], apart := false, narrowed := true }
def ScanFindsUptoSaid : Prop := scanFindsUptoRow.holds Try.pinned (OpenSpec.upto scanFindsSpec)

/-- 'zoneappendlaw21.CheckpointReads', WHERE WHAT IT READS IS OF BULK AT MOST 1048576: true; the input reads as it did. -/
def checkpointReadsUptoRow : OpenClaim := { program := "ytkpicojhnnkibaa", sum := "c45d77fa05125c9490e176c92040bdd3527a14ce92fe3c2c8d4ceaeb5f7a131e", func := "zoneappend/zoneappendlaw21.CheckpointReads", spec := "checkpointReads", inPlace := ["internal/abi.NoEscape", "internal/bytealg.MakeNoZero"], apart := false, narrowed := true }
def CheckpointReadsUptoSaid : Prop := checkpointReadsUptoRow.holds Try.pinned (OpenSpec.upto checkpointReadsSpec)

/-- 'zoneappendlaw21.CheckpointFits', WHERE WHAT IT READS IS OF BULK AT MOST 1048576: true; the input reads as it did. -/
def checkpointFitsUptoRow : OpenClaim := { program := "ytkpicojhnnkibaa", sum := "c45d77fa05125c9490e176c92040bdd3527a14ce92fe3c2c8d4ceaeb5f7a131e", func := "zoneappend/zoneappendlaw21.CheckpointFits", spec := "checkpointFits", inPlace := ["internal/abi.NoEscape", "internal/bytealg.MakeNoZero"], apart := false, narrowed := true }
def CheckpointFitsUptoSaid : Prop := checkpointFitsUptoRow.holds Try.pinned (OpenSpec.upto checkpointFitsSpec)

end Rows
end Go.Proofs.Ytkpicojhnnkibaa
