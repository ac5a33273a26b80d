/-
  No cell of these rows narrows 'for every input' (looked for: loops, veiled, ifaces, maps, wideKeys, modest, calm, conditions, laid).
  DERIVED. THE GIVEN ROWS OF THIS SEAT. 9 by the template 'for every input the law returns true; each argument reads behind the call as it read before'; 0 by the template 'total and deterministic' (their statements: YtgjcljjgifnjdaaTotals.lean).
  GIVEN WITH THE SEED: the statements are not yours to turn. If you find one false, say at which input.
  Laid BY PROGRAM, IN A SANDBOX (cutbox-rows.mjs): the forced cells as the released guide's own fill.sh prints them over the translation 051dc3f2b78b25de… (all of the seat's roots in one cut). By AI agents, Wed Nov 11 2026. No macro, syntax, notation, axiom, sorry.
-/
import Derived.Test.YtgjcljjgifnjdaaChecked
import GoSem.Claim
import GoSem.ClaimJoined
import GoSem.ClaimMapViews
import Derived.JoinedTies
import Derived.KernelRfl
namespace Go.Proofs.Ytgjcljjgifnjdaa
/- THE CELL 'sum', in the pinned program and in every row, IS THE sha256 OF THE DUMP (.gsa) THAT YtgjcljjgifnjdaaProg.lean LOADS. Nothing in Lean hashes anything: it is a label: what it is worth is what the hold of that sum in a sandbox is worth. -/
noncomputable def Try.pinned : Pinned := { name := "ytgjcljjgifnjdaa", sum := "051dc3f2b78b25de5a7fb082ef79548a9c11d5aa2a852bce29ad715686a2e9ae", checked := Try.checked }
namespace Rows
def none {H : Type} : Left H := { results := [], args := [] }

/-- 'zoneappendlaw08.ShardNewest': WHATEVER THE INPUT: true; the input reads as it did. -/
def shardNewestSpec : ChangeSpec := { name := "shardNewest", fn := fun _ => fun
  | [d1, d2] => { results := [.lit (.bool true)], args := [d1, d2] }
  | _ => none }
def shardNewestRow : OpenClaim := { program := "ytgjcljjgifnjdaa", sum := "051dc3f2b78b25de5a7fb082ef79548a9c11d5aa2a852bce29ad715686a2e9ae", func := "zoneappend/zoneappendlaw08.ShardNewest", spec := "shardNewest", unfollowed := true, recurses := true, apart := false }
def ShardNewestSaid : Prop := shardNewestRow.holds Try.pinned (OpenSpec.ofChange shardNewestSpec)

/-- ITS FALSE NEIGHBOUR: 'it returns false'. Refute it at one input. -/
def shardNewestWrong : ChangeSpec := { name := "shardNewest", fn := fun _ => fun
  | [d1, d2] => { results := [.lit (.bool false)], args := [d1, d2] }
  | _ => none }
def ShardNewestWrongFalsely : Prop := shardNewestRow.holds Try.pinned (OpenSpec.ofChange shardNewestWrong)

/-- 'zoneappendlaw08.ShardCommutes': WHATEVER THE INPUT: true; the input reads as it did. -/
def shardCommutesSpec : ChangeSpec := { name := "shardCommutes", fn := fun _ => fun
  | [d] => { results := [.lit (.bool true)], args := [d] }
  | _ => none }
def shardCommutesRow : OpenClaim := { program := "ytgjcljjgifnjdaa", sum := "051dc3f2b78b25de5a7fb082ef79548a9c11d5aa2a852bce29ad715686a2e9ae", func := "zoneappend/zoneappendlaw08.ShardCommutes", spec := "shardCommutes", unfollowed := true, recurses := true, apart := false }
def ShardCommutesSaid : Prop := shardCommutesRow.holds Try.pinned (OpenSpec.ofChange shardCommutesSpec)

/-- ITS FALSE NEIGHBOUR: 'it returns false'. Refute it at one input. -/
def shardCommutesWrong : ChangeSpec := { name := "shardCommutes", fn := fun _ => fun
  | [d] => { results := [.lit (.bool false)], args := [d] }
  | _ => none }
def ShardCommutesWrongFalsely : Prop := shardCommutesRow.holds Try.pinned (OpenSpec.ofChange shardCommutesWrong)

/-- 'zoneappendlaw08.ShardDrops': WHATEVER THE INPUT: true; the input reads as it did. -/
def shardDropsSpec : ChangeSpec := { name := "shardDrops", fn := fun _ => fun
  | [d1, d2, d3] => { results := [.lit (.bool true)], args := [d1, d2, d3] }
  | _ => none }
def shardDropsRow : OpenClaim := { program := "ytgjcljjgifnjdaa", sum := "051dc3f2b78b25de5a7fb082ef79548a9c11d5aa2a852bce29ad715686a2e9ae", func := "zoneappend/zoneappendlaw08.ShardDrops", spec := "shardDrops", unfollowed := true, recurses := true, apart := false }
def ShardDropsSaid : Prop := shardDropsRow.holds Try.pinned (OpenSpec.ofChange shardDropsSpec)

/-- ITS FALSE NEIGHBOUR: 'it returns false'. Refute it at one input. -/
def shardDropsWrong : ChangeSpec := { name := "shardDrops", fn := fun _ => fun
  | [d1, d2, d3] => { results := [.lit (.bool false)], args := [d1, d2, d3] }
  | _ => none }
def ShardDropsWrongFalsely : Prop := shardDropsRow.holds Try.pinned (OpenSpec.ofChange shardDropsWrong)

/-- 'zoneappendlaw08.ShardRaw': WHATEVER THE INPUT: true; the input reads as it did. -/
def shardRawSpec : ChangeSpec := { name := "shardRaw", fn := fun _ => fun
  | [d1, d2, d3, d4, d5, d6, d7] => { results := [.lit (.bool true)], args := [d1, d2, d3, d4, d5, d6, d7] }
  | _ => none }
def shardRawRow : OpenClaim := { program := "ytgjcljjgifnjdaa", sum := "051dc3f2b78b25de5a7fb082ef79548a9c11d5aa2a852bce29ad715686a2e9ae", func := "zoneappend/zoneappendlaw08.ShardRaw", spec := "shardRaw", unfollowed := true, recurses := true, apart := false }
def ShardRawSaid : Prop := shardRawRow.holds Try.pinned (OpenSpec.ofChange shardRawSpec)

/-- ITS FALSE NEIGHBOUR: 'it returns false'. Refute it at one input. -/
def shardRawWrong : ChangeSpec := { name := "shardRaw", fn := fun _ => fun
  | [d1, d2, d3, d4, d5, d6, d7] => { results := [.lit (.bool false)], args := [d1, d2, d3, d4, d5, d6, d7] }
  | _ => none }
def ShardRawWrongFalsely : Prop := shardRawRow.holds Try.pinned (OpenSpec.ofChange shardRawWrong)

/-- 'zoneappendlaw08.ShardMade': WHATEVER THE INPUT: true; the input reads as it did. -/
def shardMadeSpec : ChangeSpec := { name := "shardMade", fn := fun _ => fun
  | [d] => { results := [.lit (.bool true)], args := [d] }
  | _ => none }
def shardMadeRow : OpenClaim := { program := "ytgjcljjgifnjdaa", sum := "051dc3f2b78b25de5a7fb082ef79548a9c11d5aa2a852bce29ad715686a2e9ae", func := "zoneappend/zoneappendlaw08.ShardMade", spec := "shardMade", unfollowed := true, recurses := true, apart := false }
def ShardMadeSaid : Prop := shardMadeRow.holds Try.pinned (OpenSpec.ofChange shardMadeSpec)

/-- ITS FALSE NEIGHBOUR: 'it returns false'. Refute it at one input. -/
def shardMadeWrong : ChangeSpec := { name := "shardMade", fn := fun _ => fun
  | [d] => { results := [.lit (.bool false)], args := [d] }
  | _ => none }
def ShardMadeWrongFalsely : Prop := shardMadeRow.holds Try.pinned (OpenSpec.ofChange shardMadeWrong)

/-- 'zoneappendlaw09.L2pFinds': WHATEVER THE INPUT: true; the input reads as it did. -/
def l2pFindsSpec : ChangeSpec := { name := "l2pFinds", fn := fun _ => fun
  | [d1, d2] => { results := [.lit (.bool true)], args := [d1, d2] }
  | _ => none }
def l2pFindsRow : OpenClaim := { program := "ytgjcljjgifnjdaa", sum := "051dc3f2b78b25de5a7fb082ef79548a9c11d5aa2a852bce29ad715686a2e9ae", func := "zoneappend/zoneappendlaw09.L2pFinds", spec := "l2pFinds", unfollowed := true, recurses := true, apart := false }
def L2pFindsSaid : Prop := l2pFindsRow.holds Try.pinned (OpenSpec.ofChange l2pFindsSpec)

/-- ITS FALSE NEIGHBOUR: 'it returns false'. Refute it at one input. -/
def l2pFindsWrong : ChangeSpec := { name := "l2pFinds", fn := fun _ => fun
  | [d1, d2] => { results := [.lit (.bool false)], args := [d1, d2] }
  | _ => none }
def L2pFindsWrongFalsely : Prop := l2pFindsRow.holds Try.pinned (OpenSpec.ofChange l2pFindsWrong)

/-- 'zoneappendlaw09.L2pRaw': WHATEVER THE INPUT: true; the input reads as it did. -/
def l2pRawSpec : ChangeSpec := { name := "l2pRaw", fn := fun _ => fun
  | [d1, d2, d3, d4, d5, d6, d7] => { results := [.lit (.bool true)], args := [d1, d2, d3, d4, d5, d6, d7] }
  | _ => none }
def l2pRawRow : OpenClaim := { program := "ytgjcljjgifnjdaa", sum := "051dc3f2b78b25de5a7fb082ef79548a9c11d5aa2a852bce29ad715686a2e9ae", func := "zoneappend/zoneappendlaw09.L2pRaw", spec := "l2pRaw", unfollowed := true, recurses := true, apart := false }
def L2pRawSaid : Prop := l2pRawRow.holds Try.pinned (OpenSpec.ofChange l2pRawSpec)

/-- ITS FALSE NEIGHBOUR: 'it returns false'. Refute it at one input. -/
def l2pRawWrong : ChangeSpec := { name := "l2pRaw", fn := fun _ => fun
  | [d1, d2, d3, d4, d5, d6, d7] => { results := [.lit (.bool false)], args := [d1, d2, d3, d4, d5, d6, d7] }
  | _ => none }
def L2pRawWrongFalsely : Prop := l2pRawRow.holds Try.pinned (OpenSpec.ofChange l2pRawWrong)

/-- 'zoneappendlaw09.L2pMade': WHATEVER THE INPUT: true; the input reads as it did. -/
def l2pMadeSpec : ChangeSpec := { name := "l2pMade", fn := fun _ => fun
  | [d1, d2] => { results := [.lit (.bool true)], args := [d1, d2] }
  | _ => none }
def l2pMadeRow : OpenClaim := { program := "ytgjcljjgifnjdaa", sum := "051dc3f2b78b25de5a7fb082ef79548a9c11d5aa2a852bce29ad715686a2e9ae", func := "zoneappend/zoneappendlaw09.L2pMade", spec := "l2pMade", unfollowed := true, recurses := true, apart := false }
def L2pMadeSaid : Prop := l2pMadeRow.holds Try.pinned (OpenSpec.ofChange l2pMadeSpec)

/-- ITS FALSE NEIGHBOUR: 'it returns false'. Refute it at one input. -/
def l2pMadeWrong : ChangeSpec := { name := "l2pMade", fn := fun _ => fun
  | [d1, d2] => { results := [.lit (.bool false)], args := [d1, d2] }
  | _ => none }
def L2pMadeWrongFalsely : Prop := l2pMadeRow.holds Try.pinned (OpenSpec.ofChange l2pMadeWrong)

/-- 'zoneappendlaw09.L2pShards': WHATEVER THE INPUT: true; the input reads as it did. -/
def l2pShardsSpec : ChangeSpec := { name := "l2pShards", fn := fun _ => fun
  | [d1, d2, d3] => { results := [.lit (.bool true)], args := [d1, d2, d3] }
  | _ => none }
def l2pShardsRow : OpenClaim := { program := "ytgjcljjgifnjdaa", sum := "051dc3f2b78b25de5a7fb082ef79548a9c11d5aa2a852bce29ad715686a2e9ae", func := "zoneappend/zoneappendlaw09.L2pShards", spec := "l2pShards", unfollowed := true, recurses := true, apart := false }
def L2pShardsSaid : Prop := l2pShardsRow.holds Try.pinned (OpenSpec.ofChange l2pShardsSpec)

/-- ITS FALSE NEIGHBOUR: 'it returns false'. Refute it at one input. -/
def l2pShardsWrong : ChangeSpec := { name := "l2pShards", fn := fun _ => fun
  | [d1, d2, d3] => { results := [.lit (.bool false)], args := [d1, d2, d3] }
  | _ => none }
def L2pShardsWrongFalsely : Prop := l2pShardsRow.holds Try.pinned (OpenSpec.ofChange l2pShardsWrong)

/- THE SECOND FORM. 'bulk': how many values and letters a reading holds, each counted each time it is reached (what is shared counts as often as it is met; a slice's spare places count too). A statement '..UptoSaid' is the law's where the arguments, and the package variables that the reading takes, are together of bulk at most 1048576: NARROWER than '..Said'. Prove '..Said' where nothing that the law and all that it calls make is longer than what came in: it says more and counts as full. Else prove '..UptoSaid'. A law counts once. -/
mutual
def uptoBulk {H : Type} : DataW H → Nat
  | .lit (.string bytes) => bytes.length + 1
  | .lit _ => 1
  | .nil => 1
  | .ptr d => uptoBulk d + 1
  | .slice elems spare => uptoBulkAll elems + uptoBulkAll spare + 1
  | .agg parts => uptoBulkAll parts + 1
  | .iface _ d => uptoBulk d + 1
  | .map entries => uptoBulkEntries entries + 1
  | .held _ => 1
def uptoBulkAll {H : Type} : List (DataW H) → Nat
  | [] => 0
  | d :: r => uptoBulk d + uptoBulkAll r
def uptoBulkEntries {H : Type} : List (Lit × DataW H) → Nat
  | [] => 0
  | x :: r => uptoBulkEntry x + uptoBulkEntries r
def uptoBulkEntry {H : Type} : Lit × DataW H → Nat
  | (.string bytes, d) => bytes.length + uptoBulk d + 1
  | (_, d) => uptoBulk d + 1
 end
def uptoSmall : (H : Type) → List (DataW H) → Bool := fun _ ds => decide (uptoBulkAll ds ≤ 1048576)
def OpenSpec.upto (s : _root_.Go.ChangeSpec) : _root_.Go.OpenSpec := { _root_.Go.OpenSpec.ofChange s with cond := some uptoSmall }

/-- 'zoneappendlaw08.ShardNewest', WHERE WHAT IT READS IS OF BULK AT MOST 1048576: true; the input reads as it did. -/
def shardNewestUptoRow : OpenClaim := { program := "ytgjcljjgifnjdaa", sum := "051dc3f2b78b25de5a7fb082ef79548a9c11d5aa2a852bce29ad715686a2e9ae", func := "zoneappend/zoneappendlaw08.ShardNewest", spec := "shardNewest", unfollowed := true, recurses := true, apart := false, narrowed := true }
def ShardNewestUptoSaid : Prop := shardNewestUptoRow.holds Try.pinned (OpenSpec.upto shardNewestSpec)

/-- 'zoneappendlaw08.ShardCommutes', WHERE WHAT IT READS IS OF BULK AT MOST 1048576: true; the input reads as it did. -/
def shardCommutesUptoRow : OpenClaim := { program := "ytgjcljjgifnjdaa", sum := "051dc3f2b78b25de5a7fb082ef79548a9c11d5aa2a852bce29ad715686a2e9ae", func := "zoneappend/zoneappendlaw08.ShardCommutes", spec := "shardCommutes", unfollowed := true, recurses := true, apart := false, narrowed := true }
def ShardCommutesUptoSaid : Prop := shardCommutesUptoRow.holds Try.pinned (OpenSpec.upto shardCommutesSpec)

/-- 'zoneappendlaw08.ShardDrops', WHERE WHAT IT READS IS OF BULK AT MOST 1048576: true; the input reads as it did. -/
def shardDropsUptoRow : OpenClaim := { program := "ytgjcljjgifnjdaa", sum := "051dc3f2b78b25de5a7fb082ef79548a9c11d5aa2a852bce29ad715686a2e9ae", func := "zoneappend/zoneappendlaw08.ShardDrops", spec := "shardDrops", unfollowed := true, recurses := true, apart := false, narrowed := true }
def ShardDropsUptoSaid : Prop := shardDropsUptoRow.holds Try.pinned (OpenSpec.upto shardDropsSpec)

/-- 'zoneappendlaw08.ShardRaw', WHERE WHAT IT READS IS OF BULK AT MOST 1048576: true; the input reads as it did. -/
def shardRawUptoRow : OpenClaim := { program := "ytgjcljjgifnjdaa", sum := "051dc3f2b78b25de5a7fb082ef79548a9c11d5aa2a852bce29ad715686a2e9ae", func := "zoneappend/zoneappendlaw08.ShardRaw", spec := "shardRaw", unfollowed := true, recurses := true, apart := false, narrowed := true }
def ShardRawUptoSaid : Prop := shardRawUptoRow.holds Try.pinned (OpenSpec.upto shardRawSpec)

/-- 'zoneappendlaw08.ShardMade', WHERE WHAT IT READS IS OF BULK AT MOST 1048576: true; the input reads as it did. -/
def shardMadeUptoRow : OpenClaim := { program := "ytgjcljjgifnjdaa", sum := "051dc3f2b78b25de5a7fb082ef79548a9c11d5aa2a852bce29ad715686a2e9ae", func := "zoneappend/zoneappendlaw08.ShardMade", spec := "shardMade", unfollowed := true, recurses := true, apart := false, narrowed := true }
def ShardMadeUptoSaid : Prop := shardMadeUptoRow.holds Try.pinned (OpenSpec.upto shardMadeSpec)

/-- 'zoneappendlaw09.L2pFinds', WHERE WHAT IT READS IS OF BULK AT MOST 1048576: true; the input reads as it did. -/
def l2pFindsUptoRow : OpenClaim := { program := "ytgjcljjgifnjdaa", sum := "051dc3f2b78b25de5a7fb082ef79548a9c11d5aa2a852bce29ad715686a2e9ae", func := "zoneappend/zoneappendlaw09.L2pFinds", spec := "l2pFinds", unfollowed := true, recurses := true, apart := false, narrowed := true }
def L2pFindsUptoSaid : Prop := l2pFindsUptoRow.holds Try.pinned (OpenSpec.upto l2pFindsSpec)

/-- 'zoneappendlaw09.L2pRaw', WHERE WHAT IT READS IS OF BULK AT MOST 1048576: true; the input reads as it did. -/
def l2pRawUptoRow : OpenClaim := { program := "ytgjcljjgifnjdaa", sum := "051dc3f2b78b25de5a7fb082ef79548a9c11d5aa2a852bce29ad715686a2e9ae", func := "zoneappend/zoneappendlaw09.L2pRaw", spec := "l2pRaw", unfollowed := true, recurses := true, apart := false, narrowed := true }
def L2pRawUptoSaid : Prop := l2pRawUptoRow.holds Try.pinned (OpenSpec.upto l2pRawSpec)

/-- 'zoneappendlaw09.L2pMade', WHERE WHAT IT READS IS OF BULK AT MOST 1048576: true; the input reads as it did. -/
def l2pMadeUptoRow : OpenClaim := { program := "ytgjcljjgifnjdaa", sum := "051dc3f2b78b25de5a7fb082ef79548a9c11d5aa2a852bce29ad715686a2e9ae", func := "zoneappend/zoneappendlaw09.L2pMade", spec := "l2pMade", unfollowed := true, recurses := true, apart := false, narrowed := true }
def L2pMadeUptoSaid : Prop := l2pMadeUptoRow.holds Try.pinned (OpenSpec.upto l2pMadeSpec)

/-- 'zoneappendlaw09.L2pShards', WHERE WHAT IT READS IS OF BULK AT MOST 1048576: true; the input reads as it did. -/
def l2pShardsUptoRow : OpenClaim := { program := "ytgjcljjgifnjdaa", sum := "051dc3f2b78b25de5a7fb082ef79548a9c11d5aa2a852bce29ad715686a2e9ae", func := "zoneappend/zoneappendlaw09.L2pShards", spec := "l2pShards", unfollowed := true, recurses := true, apart := false, narrowed := true }
def L2pShardsUptoSaid : Prop := l2pShardsUptoRow.holds Try.pinned (OpenSpec.upto l2pShardsSpec)

end Rows
end Go.Proofs.Ytgjcljjgifnjdaa
