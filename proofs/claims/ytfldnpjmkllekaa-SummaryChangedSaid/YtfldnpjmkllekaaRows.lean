/-
  No cell of these rows narrows 'for every input' (looked for: loops, veiled, ifaces, maps, wideKeys, modest, calm, conditions, laid).
  DERIVED. THE GIVEN ROWS OF THIS SEAT. 10 by the template 'for every input the law returns true; each argument reads behind the call as it read before'; 0 by the template 'total and deterministic' (their statements: YtfldnpjmkllekaaTotals.lean).
  GIVEN WITH THE SEED: the statements are not yours to turn. If you find one false, say at which input.
  Laid BY PROGRAM, IN A SANDBOX (cutbox-rows.mjs): the forced cells as the released guide's own fill.sh prints them over the translation 46270a08b5550d76… (all of the seat's roots in one cut). By AI agents, Wed Nov 11 2026. No macro, syntax, notation, axiom, sorry.
-/
import Derived.Test.YtfldnpjmkllekaaChecked
import GoSem.Claim
import GoSem.ClaimJoined
import GoSem.ClaimMapViews
import Derived.JoinedTies
import Derived.KernelRfl
namespace Go.Proofs.Ytfldnpjmkllekaa
/- THE CELL 'sum', in the pinned program and in every row, IS THE sha256 OF THE DUMP (.gsa) THAT YtfldnpjmkllekaaProg.lean LOADS. Nothing in Lean hashes anything: it is a label: what it is worth is what the hold of that sum in a sandbox is worth. -/
noncomputable def Try.pinned : Pinned := { name := "ytfldnpjmkllekaa", sum := "46270a08b5550d76ab155cd25c59503f5adb83ed68d22b7000741c3efd9a2302", checked := Try.checked }
namespace Rows
def none {H : Type} : Left H := { results := [], args := [] }

/-- 'zoneappendlaw02.CodecBack': WHATEVER THE INPUT: true; the input reads as it did. -/
def codecBackSpec : ChangeSpec := { name := "codecBack", fn := fun _ => fun
  | [d1, d2, d3, d4] => { results := [.lit (.bool true)], args := [d1, d2, d3, d4] }
  | _ => none }
def codecBackRow : OpenClaim := { program := "ytfldnpjmkllekaa", sum := "46270a08b5550d76ab155cd25c59503f5adb83ed68d22b7000741c3efd9a2302", func := "zoneappend/zoneappendlaw02.CodecBack", spec := "codecBack", inPlace := ["internal/abi.NoEscape", "internal/bytealg.MakeNoZero"], apart := false }
def CodecBackSaid : Prop := codecBackRow.holds Try.pinned (OpenSpec.ofChange codecBackSpec)

/-- ITS FALSE NEIGHBOUR: 'it returns false'. Refute it at one input. -/
def codecBackWrong : ChangeSpec := { name := "codecBack", fn := fun _ => fun
  | [d1, d2, d3, d4] => { results := [.lit (.bool false)], args := [d1, d2, d3, d4] }
  | _ => none }
def CodecBackWrongFalsely : Prop := codecBackRow.holds Try.pinned (OpenSpec.ofChange codecBackWrong)

/-- 'zoneappendlaw02.CodecExact': WHATEVER THE INPUT: true; the input reads as it did. -/
def codecExactSpec : ChangeSpec := { name := "codecExact", fn := fun _ => fun
  | [d1, d2, d3, d4, d5] => { results := [.lit (.bool true)], args := [d1, d2, d3, d4, d5] }
  | _ => none }
def codecExactRow : OpenClaim := { program := "ytfldnpjmkllekaa", sum := "46270a08b5550d76ab155cd25c59503f5adb83ed68d22b7000741c3efd9a2302", func := "zoneappend/zoneappendlaw02.CodecExact", spec := "codecExact", inPlace := ["internal/abi.NoEscape", "internal/bytealg.MakeNoZero"], apart := false }
def CodecExactSaid : Prop := codecExactRow.holds Try.pinned (OpenSpec.ofChange codecExactSpec)

/-- ITS FALSE NEIGHBOUR: 'it returns false'. Refute it at one input. -/
def codecExactWrong : ChangeSpec := { name := "codecExact", fn := fun _ => fun
  | [d1, d2, d3, d4, d5] => { results := [.lit (.bool false)], args := [d1, d2, d3, d4, d5] }
  | _ => none }
def CodecExactWrongFalsely : Prop := codecExactRow.holds Try.pinned (OpenSpec.ofChange codecExactWrong)

/-- 'zoneappendlaw03.RecordDecodes': WHATEVER THE INPUT: true; the input reads as it did. -/
def recordDecodesSpec : ChangeSpec := { name := "recordDecodes", fn := fun _ => fun
  | [d] => { results := [.lit (.bool true)], args := [d] }
  | _ => none }
def recordDecodesRow : OpenClaim := { program := "ytfldnpjmkllekaa", sum := "46270a08b5550d76ab155cd25c59503f5adb83ed68d22b7000741c3efd9a2302", func := "zoneappend/zoneappendlaw03.RecordDecodes", spec := "recordDecodes", inPlace := ["internal/abi.NoEscape", "internal/bytealg.MakeNoZero"], apart := false }
def RecordDecodesSaid : Prop := recordDecodesRow.holds Try.pinned (OpenSpec.ofChange recordDecodesSpec)

/-- ITS FALSE NEIGHBOUR: 'it returns false'. Refute it at one input. -/
def recordDecodesWrong : ChangeSpec := { name := "recordDecodes", fn := fun _ => fun
  | [d] => { results := [.lit (.bool false)], args := [d] }
  | _ => none }
def RecordDecodesWrongFalsely : Prop := recordDecodesRow.holds Try.pinned (OpenSpec.ofChange recordDecodesWrong)

/-- 'zoneappendlaw03.RecordBack': WHATEVER THE INPUT: true; the input reads as it did. -/
def recordBackSpec : ChangeSpec := { name := "recordBack", fn := fun _ => fun
  | [d1, d2, d3] => { results := [.lit (.bool true)], args := [d1, d2, d3] }
  | _ => none }
def recordBackRow : OpenClaim := { program := "ytfldnpjmkllekaa", sum := "46270a08b5550d76ab155cd25c59503f5adb83ed68d22b7000741c3efd9a2302", func := "zoneappend/zoneappendlaw03.RecordBack", spec := "recordBack", inPlace := ["internal/abi.NoEscape", "internal/bytealg.MakeNoZero"], apart := false }
def RecordBackSaid : Prop := recordBackRow.holds Try.pinned (OpenSpec.ofChange recordBackSpec)

/-- ITS FALSE NEIGHBOUR: 'it returns false'. Refute it at one input. -/
def recordBackWrong : ChangeSpec := { name := "recordBack", fn := fun _ => fun
  | [d1, d2, d3] => { results := [.lit (.bool false)], args := [d1, d2, d3] }
  | _ => none }
def RecordBackWrongFalsely : Prop := recordBackRow.holds Try.pinned (OpenSpec.ofChange recordBackWrong)

/-- 'zoneappendlaw03.RecordSealed': WHATEVER THE INPUT: true; the input reads as it did. -/
def recordSealedSpec : ChangeSpec := { name := "recordSealed", fn := fun _ => fun
  | [d1, d2, d3] => { results := [.lit (.bool true)], args := [d1, d2, d3] }
  | _ => none }
def recordSealedRow : OpenClaim := { program := "ytfldnpjmkllekaa", sum := "46270a08b5550d76ab155cd25c59503f5adb83ed68d22b7000741c3efd9a2302", func := "zoneappend/zoneappendlaw03.RecordSealed", spec := "recordSealed", inPlace := ["internal/abi.NoEscape", "internal/bytealg.MakeNoZero"], apart := false }
def RecordSealedSaid : Prop := recordSealedRow.holds Try.pinned (OpenSpec.ofChange recordSealedSpec)

/-- ITS FALSE NEIGHBOUR: 'it returns false'. Refute it at one input. -/
def recordSealedWrong : ChangeSpec := { name := "recordSealed", fn := fun _ => fun
  | [d1, d2, d3] => { results := [.lit (.bool false)], args := [d1, d2, d3] }
  | _ => none }
def RecordSealedWrongFalsely : Prop := recordSealedRow.holds Try.pinned (OpenSpec.ofChange recordSealedWrong)

/-- 'zoneappendlaw03.RecordExact': WHATEVER THE INPUT: true; the input reads as it did. -/
def recordExactSpec : ChangeSpec := { name := "recordExact", fn := fun _ => fun
  | [d] => { results := [.lit (.bool true)], args := [d] }
  | _ => none }
def recordExactRow : OpenClaim := { program := "ytfldnpjmkllekaa", sum := "46270a08b5550d76ab155cd25c59503f5adb83ed68d22b7000741c3efd9a2302", func := "zoneappend/zoneappendlaw03.RecordExact", spec := "recordExact", inPlace := ["internal/abi.NoEscape", "internal/bytealg.MakeNoZero"], apart := false }
def RecordExactSaid : Prop := recordExactRow.holds Try.pinned (OpenSpec.ofChange recordExactSpec)

/-- ITS FALSE NEIGHBOUR: 'it returns false'. Refute it at one input. -/
def recordExactWrong : ChangeSpec := { name := "recordExact", fn := fun _ => fun
  | [d] => { results := [.lit (.bool false)], args := [d] }
  | _ => none }
def RecordExactWrongFalsely : Prop := recordExactRow.holds Try.pinned (OpenSpec.ofChange recordExactWrong)

/-- 'zoneappendlaw03.RecordCopies': WHATEVER THE INPUT: true; the input reads as it did. -/
def recordCopiesSpec : ChangeSpec := { name := "recordCopies", fn := fun _ => fun
  | [d1, d2] => { results := [.lit (.bool true)], args := [d1, d2] }
  | _ => none }
def recordCopiesRow : OpenClaim := { program := "ytfldnpjmkllekaa", sum := "46270a08b5550d76ab155cd25c59503f5adb83ed68d22b7000741c3efd9a2302", func := "zoneappend/zoneappendlaw03.RecordCopies", spec := "recordCopies", inPlace := ["internal/abi.NoEscape", "internal/bytealg.MakeNoZero"], apart := false }
def RecordCopiesSaid : Prop := recordCopiesRow.holds Try.pinned (OpenSpec.ofChange recordCopiesSpec)

/-- ITS FALSE NEIGHBOUR: 'it returns false'. Refute it at one input. -/
def recordCopiesWrong : ChangeSpec := { name := "recordCopies", fn := fun _ => fun
  | [d1, d2] => { results := [.lit (.bool false)], args := [d1, d2] }
  | _ => none }
def RecordCopiesWrongFalsely : Prop := recordCopiesRow.holds Try.pinned (OpenSpec.ofChange recordCopiesWrong)

/-- 'zoneappendlaw04.SummaryExact': WHATEVER THE INPUT: true; the input reads as it did. -/
def summaryExactSpec : ChangeSpec := { name := "summaryExact", fn := fun _ => fun
  | [d1, d2] => { results := [.lit (.bool true)], args := [d1, d2] }
  | _ => none }
def summaryExactRow : OpenClaim := { program := "ytfldnpjmkllekaa", sum := "46270a08b5550d76ab155cd25c59503f5adb83ed68d22b7000741c3efd9a2302", func := "zoneappend/zoneappendlaw04.SummaryExact", spec := "summaryExact", inPlace := ["internal/abi.NoEscape", "internal/bytealg.MakeNoZero"], unfollowed := true, recurses := true, apart := false }
def SummaryExactSaid : Prop := summaryExactRow.holds Try.pinned (OpenSpec.ofChange summaryExactSpec)

/-- ITS FALSE NEIGHBOUR: 'it returns false'. Refute it at one input. -/
def summaryExactWrong : ChangeSpec := { name := "summaryExact", fn := fun _ => fun
  | [d1, d2] => { results := [.lit (.bool false)], args := [d1, d2] }
  | _ => none }
def SummaryExactWrongFalsely : Prop := summaryExactRow.holds Try.pinned (OpenSpec.ofChange summaryExactWrong)

/-- 'zoneappendlaw04.SummaryMade': WHATEVER THE INPUT: true; the input reads as it did. -/
def summaryMadeSpec : ChangeSpec := { name := "summaryMade", fn := fun _ => fun
  | [d1, d2, d3, d4] => { results := [.lit (.bool true)], args := [d1, d2, d3, d4] }
  | _ => none }
def summaryMadeRow : OpenClaim := { program := "ytfldnpjmkllekaa", sum := "46270a08b5550d76ab155cd25c59503f5adb83ed68d22b7000741c3efd9a2302", func := "zoneappend/zoneappendlaw04.SummaryMade", spec := "summaryMade", inPlace := ["internal/abi.NoEscape", "internal/bytealg.MakeNoZero"], unfollowed := true, recurses := true, apart := false }
def SummaryMadeSaid : Prop := summaryMadeRow.holds Try.pinned (OpenSpec.ofChange summaryMadeSpec)

/-- ITS FALSE NEIGHBOUR: 'it returns false'. Refute it at one input. -/
def summaryMadeWrong : ChangeSpec := { name := "summaryMade", fn := fun _ => fun
  | [d1, d2, d3, d4] => { results := [.lit (.bool false)], args := [d1, d2, d3, d4] }
  | _ => none }
def SummaryMadeWrongFalsely : Prop := summaryMadeRow.holds Try.pinned (OpenSpec.ofChange summaryMadeWrong)

/-- 'zoneappendlaw04.SummaryChanged': WHATEVER THE INPUT: true; the input reads as it did. -/
def summaryChangedSpec : ChangeSpec := { name := "summaryChanged", fn := fun _ => fun
  | [d1, d2, d3, d4] => { results := [.lit (.bool true)], args := [d1, d2, d3, d4] }
  | _ => none }
def summaryChangedRow : OpenClaim := { program := "ytfldnpjmkllekaa", sum := "46270a08b5550d76ab155cd25c59503f5adb83ed68d22b7000741c3efd9a2302", func := "zoneappend/zoneappendlaw04.SummaryChanged", spec := "summaryChanged", inPlace := ["internal/abi.NoEscape", "internal/bytealg.MakeNoZero"], unfollowed := true, recurses := true, apart := false }
def SummaryChangedSaid : Prop := summaryChangedRow.holds Try.pinned (OpenSpec.ofChange summaryChangedSpec)

/-- ITS FALSE NEIGHBOUR: 'it returns false'. Refute it at one input. -/
def summaryChangedWrong : ChangeSpec := { name := "summaryChanged", fn := fun _ => fun
  | [d1, d2, d3, d4] => { results := [.lit (.bool false)], args := [d1, d2, d3, d4] }
  | _ => none }
def SummaryChangedWrongFalsely : Prop := summaryChangedRow.holds Try.pinned (OpenSpec.ofChange summaryChangedWrong)

/- THE SECOND FORM. 'bulk': how many values and letters a reading holds, each counted each time it is reached (what is shared counts as often as it is met; a slice's spare places count too). A statement '..UptoSaid' is the law's where the arguments, and the package variables that the reading takes, are together of bulk at most 1048576: NARROWER than '..Said'. Prove '..Said' where nothing that the law and all that it calls make is longer than what came in: it says more and counts as full. Else prove '..UptoSaid'. A law counts once. -/
mutual
def uptoBulk {H : Type} : DataW H → Nat
  | .lit (.string bytes) => bytes.length + 1
  | .lit _ => 1
  | .nil => 1
  | .ptr d => uptoBulk d + 1
  | .slice elems spare => uptoBulkAll elems + uptoBulkAll spare + 1
  | .agg parts => uptoBulkAll parts + 1
  | .iface _ d => uptoBulk d + 1
  | .map entries => uptoBulkEntries entries + 1
  | .held _ => 1
def uptoBulkAll {H : Type} : List (DataW H) → Nat
  | [] => 0
  | d :: r => uptoBulk d + uptoBulkAll r
def uptoBulkEntries {H : Type} : List (Lit × DataW H) → Nat
  | [] => 0
  | x :: r => uptoBulkEntry x + uptoBulkEntries r
def uptoBulkEntry {H : Type} : Lit × DataW H → Nat
  | (.string bytes, d) => bytes.length + uptoBulk d + 1
  | (_, d) => uptoBulk d + 1
 end
def uptoSmall : (H : Type) → List (DataW H) → Bool := fun _ ds => decide (uptoBulkAll ds ≤ 1048576)
def OpenSpec.upto (s : _root_.Go.ChangeSpec) : _root_.Go.OpenSpec := { _root_.Go.OpenSpec.ofChange s with cond := some uptoSmall }

/-- 'zoneappendlaw02.CodecBack', WHERE WHAT IT READS IS OF BULK AT MOST 1048576: true; the input reads as it did. -/
def codecBackUptoRow : OpenClaim := { program := "ytfldnpjmkllekaa", sum := "46270a08b5550d76ab155cd25c59503f5adb83ed68d22b7000741c3efd9a2302", func := "zoneappend/zoneappendlaw02.CodecBack", spec := "codecBack", inPlace := ["internal/abi.NoEscape", "internal/bytealg.MakeNoZero"], apart := false, narrowed := true }
def CodecBackUptoSaid : Prop := codecBackUptoRow.holds Try.pinned (OpenSpec.upto codecBackSpec)

/-- 'zoneappendlaw02.CodecExact', WHERE WHAT IT READS IS OF BULK AT MOST 1048576: true; the input reads as it did. -/
def codecExactUptoRow : OpenClaim := { program := "ytfldnpjmkllekaa", sum := "46270a08b5550d76ab155cd25c59503f5adb83ed68d22b7000741c3efd9a2302", func := "zoneappend/zoneappendlaw02.CodecExact", spec := "codecExact", inPlace := ["internal/abi.NoEscape", "internal/bytealg.MakeNoZero"], apart := false, narrowed := true }
def CodecExactUptoSaid : Prop := codecExactUptoRow.holds Try.pinned (OpenSpec.upto codecExactSpec)

/-- 'zoneappendlaw03.RecordDecodes', WHERE WHAT IT READS IS OF BULK AT MOST 1048576: true; the input reads as it did. -/
def recordDecodesUptoRow : OpenClaim := { program := "ytfldnpjmkllekaa", sum := "46270a08b5550d76ab155cd25c59503f5adb83ed68d22b7000741c3efd9a2302", func := "zoneappend/zoneappendlaw03.RecordDecodes", spec := "recordDecodes", inPlace := ["internal/abi.NoEscape", "internal/bytealg.MakeNoZero"], apart := false, narrowed := true }
def RecordDecodesUptoSaid : Prop := recordDecodesUptoRow.holds Try.pinned (OpenSpec.upto recordDecodesSpec)

/-- 'zoneappendlaw03.RecordBack', WHERE WHAT IT READS IS OF BULK AT MOST 1048576: true; the input reads as it did. -/
def recordBackUptoRow : OpenClaim := { program := "ytfldnpjmkllekaa", sum := "46270a08b5550d76ab155cd25c59503f5adb83ed68d22b7000741c3efd9a2302", func := "zoneappend/zoneappendlaw03.RecordBack", spec := "recordBack", inPlace := ["internal/abi.NoEscape", "internal/bytealg.MakeNoZero"], apart := false, narrowed := true }
def RecordBackUptoSaid : Prop := recordBackUptoRow.holds Try.pinned (OpenSpec.upto recordBackSpec)

/-- 'zoneappendlaw03.RecordSealed', WHERE WHAT IT READS IS OF BULK AT MOST 1048576: true; the input reads as it did. -/
def recordSealedUptoRow : OpenClaim := { program := "ytfldnpjmkllekaa", sum := "46270a08b5550d76ab155cd25c59503f5adb83ed68d22b7000741c3efd9a2302", func := "zoneappend/zoneappendlaw03.RecordSealed", spec := "recordSealed", inPlace := ["internal/abi.NoEscape", "internal/bytealg.MakeNoZero"], apart := false, narrowed := true }
def RecordSealedUptoSaid : Prop := recordSealedUptoRow.holds Try.pinned (OpenSpec.upto recordSealedSpec)

/-- 'zoneappendlaw03.RecordExact', WHERE WHAT IT READS IS OF BULK AT MOST 1048576: true; the input reads as it did. -/
def recordExactUptoRow : OpenClaim := { program := "ytfldnpjmkllekaa", sum := "46270a08b5550d76ab155cd25c59503f5adb83ed68d22b7000741c3efd9a2302", func := "zoneappend/zoneappendlaw03.RecordExact", spec := "recordExact", inPlace := ["internal/abi.NoEscape", "internal/bytealg.MakeNoZero"], apart := false, narrowed := true }
def RecordExactUptoSaid : Prop := recordExactUptoRow.holds Try.pinned (OpenSpec.upto recordExactSpec)

/-- 'zoneappendlaw03.RecordCopies', WHERE WHAT IT READS IS OF BULK AT MOST 1048576: true; the input reads as it did. -/
def recordCopiesUptoRow : OpenClaim := { program := "ytfldnpjmkllekaa", sum := "46270a08b5550d76ab155cd25c59503f5adb83ed68d22b7000741c3efd9a2302", func := "zoneappend/zoneappendlaw03.RecordCopies", spec := "recordCopies", inPlace := ["internal/abi.NoEscape", "internal/bytealg.MakeNoZero"], apart := false, narrowed := true }
def RecordCopiesUptoSaid : Prop := recordCopiesUptoRow.holds Try.pinned (OpenSpec.upto recordCopiesSpec)

/-- 'zoneappendlaw04.SummaryExact', WHERE WHAT IT READS IS OF BULK AT MOST 1048576: true; the input reads as it did. -/
def summaryExactUptoRow : OpenClaim := { program := "ytfldnpjmkllekaa", sum := "46270a08b5550d76ab155cd25c59503f5adb83ed68d22b7000741c3efd9a2302", func := "zoneappend/zoneappendlaw04.SummaryExact", spec := "summaryExact", inPlace := ["internal/abi.NoEscape", "internal/bytealg.MakeNoZero"], unfollowed := true, recurses := true, apart := false, narrowed := true }
def SummaryExactUptoSaid : Prop := summaryExactUptoRow.holds Try.pinned (OpenSpec.upto summaryExactSpec)

/-- 'zoneappendlaw04.SummaryMade', WHERE WHAT IT READS IS OF BULK AT MOST 1048576: true; the input reads as it did. -/
def summaryMadeUptoRow : OpenClaim := { program := "ytfldnpjmkllekaa", sum := "46270a08b5550d76ab155cd25c59503f5adb83ed68d22b7000741c3efd9a2302", func := "zoneappend/zoneappendlaw04.SummaryMade", spec := "summaryMade", inPlace := ["internal/abi.NoEscape", "internal/bytealg.MakeNoZero"], unfollowed := true, recurses := true, apart := false, narrowed := true }
def SummaryMadeUptoSaid : Prop := summaryMadeUptoRow.holds Try.pinned (OpenSpec.upto summaryMadeSpec)

/-- 'zoneappendlaw04.SummaryChanged', WHERE WHAT IT READS IS OF BULK AT MOST 1048576: true; the input reads as it did. -/
def summaryChangedUptoRow : OpenClaim := { program := "ytfldnpjmkllekaa", sum := "46270a08b5550d76ab155cd25c59503f5adb83ed68d22b7000741c3efd9a2302", func := "zoneappend/zoneappendlaw04.SummaryChanged", spec := "summaryChanged", inPlace := ["internal/abi.NoEscape", "internal/bytealg.MakeNoZero"], unfollowed := true, recurses := true, apart := false, narrowed := true }
def SummaryChangedUptoSaid : Prop := summaryChangedUptoRow.holds Try.pinned (OpenSpec.upto summaryChangedSpec)

end Rows
end Go.Proofs.Ytfldnpjmkllekaa
