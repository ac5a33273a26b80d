/-
  No cell of these rows narrows 'for every input' (looked for: loops, veiled, ifaces, maps, wideKeys, modest, calm, conditions, laid).
  DERIVED. THE GIVEN ROWS OF THIS SEAT. 12 by the template 'for every input the law returns true; each argument reads behind the call as it read before'; 0 by the template 'total and deterministic' (their statements: YtijajfldpaadnaaTotals.lean).
  GIVEN WITH THE SEED: the statements are not yours to turn. If you find one false, say at which input.
  Laid BY PROGRAM, IN A SANDBOX (cutbox-rows.mjs): the forced cells as the released guide's own fill.sh prints them over the translation 1df2349c2e093117… (all of the seat's roots in one cut). By AI agents, Wed Nov 11 2026. No macro, syntax, notation, axiom, sorry.
-/
import Derived.Test.YtijajfldpaadnaaChecked
import GoSem.Claim
import GoSem.ClaimJoined
import GoSem.ClaimMapViews
import Derived.JoinedTies
import Derived.KernelRfl
namespace Go.Proofs.Ytijajfldpaadnaa
/- THE CELL 'sum', in the pinned program and in every row, IS THE sha256 OF THE DUMP (.gsa) THAT YtijajfldpaadnaaProg.lean LOADS. Nothing in Lean hashes anything: it is a label: what it is worth is what the hold of that sum in a sandbox is worth. -/
noncomputable def Try.pinned : Pinned := { name := "ytijajfldpaadnaa", sum := "1df2349c2e09311716eec391fde86f05e8a5c14ac55a67f7c6e142c748db40f1", checked := Try.checked }
namespace Rows
def none {H : Type} : Left H := { results := [], args := [] }

/-- 'zoneappendlaw14.VictimLeast': WHATEVER THE INPUT: true; the input reads as it did. -/
def victimLeastSpec : ChangeSpec := { name := "victimLeast", fn := fun _ => fun
  | [d] => { results := [.lit (.bool true)], args := [d] }
  | _ => none }
def victimLeastRow : OpenClaim := { program := "ytijajfldpaadnaa", sum := "1df2349c2e09311716eec391fde86f05e8a5c14ac55a67f7c6e142c748db40f1", func := "zoneappend/zoneappendlaw14.VictimLeast", spec := "victimLeast", unfollowed := true, recurses := true, apart := false }
def VictimLeastSaid : Prop := victimLeastRow.holds Try.pinned (OpenSpec.ofChange victimLeastSpec)

/-- ITS FALSE NEIGHBOUR: 'it returns false'. Refute it at one input. -/
def victimLeastWrong : ChangeSpec := { name := "victimLeast", fn := fun _ => fun
  | [d] => { results := [.lit (.bool false)], args := [d] }
  | _ => none }
def VictimLeastWrongFalsely : Prop := victimLeastRow.holds Try.pinned (OpenSpec.ofChange victimLeastWrong)

/-- 'zoneappendlaw14.VictimMade': WHATEVER THE INPUT: true; the input reads as it did. -/
def victimMadeSpec : ChangeSpec := { name := "victimMade", fn := fun _ => fun
  | [d1, d2, d3, d4, d5] => { results := [.lit (.bool true)], args := [d1, d2, d3, d4, d5] }
  | _ => none }
def victimMadeRow : OpenClaim := { program := "ytijajfldpaadnaa", sum := "1df2349c2e09311716eec391fde86f05e8a5c14ac55a67f7c6e142c748db40f1", func := "zoneappend/zoneappendlaw14.VictimMade", spec := "victimMade", unfollowed := true, recurses := true, apart := false }
def VictimMadeSaid : Prop := victimMadeRow.holds Try.pinned (OpenSpec.ofChange victimMadeSpec)

/-- ITS FALSE NEIGHBOUR: 'it returns false'. Refute it at one input. -/
def victimMadeWrong : ChangeSpec := { name := "victimMade", fn := fun _ => fun
  | [d1, d2, d3, d4, d5] => { results := [.lit (.bool false)], args := [d1, d2, d3, d4, d5] }
  | _ => none }
def VictimMadeWrongFalsely : Prop := victimMadeRow.holds Try.pinned (OpenSpec.ofChange victimMadeWrong)

/-- 'zoneappendlaw10.LiveFollows': WHATEVER THE INPUT: true; the input reads as it did. -/
def liveFollowsSpec : ChangeSpec := { name := "liveFollows", fn := fun _ => fun
  | [d] => { results := [.lit (.bool true)], args := [d] }
  | _ => none }
def liveFollowsRow : OpenClaim := { program := "ytijajfldpaadnaa", sum := "1df2349c2e09311716eec391fde86f05e8a5c14ac55a67f7c6e142c748db40f1", func := "zoneappend/zoneappendlaw10.LiveFollows", spec := "liveFollows", apart := false }
def LiveFollowsSaid : Prop := liveFollowsRow.holds Try.pinned (OpenSpec.ofChange liveFollowsSpec)

/-- ITS FALSE NEIGHBOUR: 'it returns false'. Refute it at one input. -/
def liveFollowsWrong : ChangeSpec := { name := "liveFollows", fn := fun _ => fun
  | [d] => { results := [.lit (.bool false)], args := [d] }
  | _ => none }
def LiveFollowsWrongFalsely : Prop := liveFollowsRow.holds Try.pinned (OpenSpec.ofChange liveFollowsWrong)

/-- 'zoneappendlaw10.LivePending': WHATEVER THE INPUT: true; the input reads as it did. -/
def livePendingSpec : ChangeSpec := { name := "livePending", fn := fun _ => fun
  | [d1, d2] => { results := [.lit (.bool true)], args := [d1, d2] }
  | _ => none }
def livePendingRow : OpenClaim := { program := "ytijajfldpaadnaa", sum := "1df2349c2e09311716eec391fde86f05e8a5c14ac55a67f7c6e142c748db40f1", func := "zoneappend/zoneappendlaw10.LivePending", spec := "livePending", apart := false }
def LivePendingSaid : Prop := livePendingRow.holds Try.pinned (OpenSpec.ofChange livePendingSpec)

/-- ITS FALSE NEIGHBOUR: 'it returns false'. Refute it at one input. -/
def livePendingWrong : ChangeSpec := { name := "livePending", fn := fun _ => fun
  | [d1, d2] => { results := [.lit (.bool false)], args := [d1, d2] }
  | _ => none }
def LivePendingWrongFalsely : Prop := livePendingRow.holds Try.pinned (OpenSpec.ofChange livePendingWrong)

/-- 'zoneappendlaw10.LiveRaw': WHATEVER THE INPUT: true; the input reads as it did. -/
def liveRawSpec : ChangeSpec := { name := "liveRaw", fn := fun _ => fun
  | [d1, d2, d3, d4, d5, d6, d7] => { results := [.lit (.bool true)], args := [d1, d2, d3, d4, d5, d6, d7] }
  | _ => none }
def liveRawRow : OpenClaim := { program := "ytijajfldpaadnaa", sum := "1df2349c2e09311716eec391fde86f05e8a5c14ac55a67f7c6e142c748db40f1", func := "zoneappend/zoneappendlaw10.LiveRaw", spec := "liveRaw", apart := false }
def LiveRawSaid : Prop := liveRawRow.holds Try.pinned (OpenSpec.ofChange liveRawSpec)

/-- ITS FALSE NEIGHBOUR: 'it returns false'. Refute it at one input. -/
def liveRawWrong : ChangeSpec := { name := "liveRaw", fn := fun _ => fun
  | [d1, d2, d3, d4, d5, d6, d7] => { results := [.lit (.bool false)], args := [d1, d2, d3, d4, d5, d6, d7] }
  | _ => none }
def LiveRawWrongFalsely : Prop := liveRawRow.holds Try.pinned (OpenSpec.ofChange liveRawWrong)

/-- 'zoneappendlaw12.EpochRaw': WHATEVER THE INPUT: true; the input reads as it did. -/
def epochRawSpec : ChangeSpec := { name := "epochRaw", fn := fun _ => fun
  | [d1, d2, d3] => { results := [.lit (.bool true)], args := [d1, d2, d3] }
  | _ => none }
def epochRawRow : OpenClaim := { program := "ytijajfldpaadnaa", sum := "1df2349c2e09311716eec391fde86f05e8a5c14ac55a67f7c6e142c748db40f1", func := "zoneappend/zoneappendlaw12.EpochRaw", spec := "epochRaw", unfollowed := true, recurses := true, apart := false }
def EpochRawSaid : Prop := epochRawRow.holds Try.pinned (OpenSpec.ofChange epochRawSpec)

/-- ITS FALSE NEIGHBOUR: 'it returns false'. Refute it at one input. -/
def epochRawWrong : ChangeSpec := { name := "epochRaw", fn := fun _ => fun
  | [d1, d2, d3] => { results := [.lit (.bool false)], args := [d1, d2, d3] }
  | _ => none }
def EpochRawWrongFalsely : Prop := epochRawRow.holds Try.pinned (OpenSpec.ofChange epochRawWrong)

/-- 'zoneappendlaw12.EpochSteps': WHATEVER THE INPUT: true; the input reads as it did. -/
def epochStepsSpec : ChangeSpec := { name := "epochSteps", fn := fun _ => fun
  | [d1, d2] => { results := [.lit (.bool true)], args := [d1, d2] }
  | _ => none }
def epochStepsRow : OpenClaim := { program := "ytijajfldpaadnaa", sum := "1df2349c2e09311716eec391fde86f05e8a5c14ac55a67f7c6e142c748db40f1", func := "zoneappend/zoneappendlaw12.EpochSteps", spec := "epochSteps", unfollowed := true, recurses := true, apart := false }
def EpochStepsSaid : Prop := epochStepsRow.holds Try.pinned (OpenSpec.ofChange epochStepsSpec)

/-- ITS FALSE NEIGHBOUR: 'it returns false'. Refute it at one input. -/
def epochStepsWrong : ChangeSpec := { name := "epochSteps", fn := fun _ => fun
  | [d1, d2] => { results := [.lit (.bool false)], args := [d1, d2] }
  | _ => none }
def EpochStepsWrongFalsely : Prop := epochStepsRow.holds Try.pinned (OpenSpec.ofChange epochStepsWrong)

/-- 'zoneappendlaw12.EpochGrace': WHATEVER THE INPUT: true; the input reads as it did. -/
def epochGraceSpec : ChangeSpec := { name := "epochGrace", fn := fun _ => fun
  | [d1, d2, d3] => { results := [.lit (.bool true)], args := [d1, d2, d3] }
  | _ => none }
def epochGraceRow : OpenClaim := { program := "ytijajfldpaadnaa", sum := "1df2349c2e09311716eec391fde86f05e8a5c14ac55a67f7c6e142c748db40f1", func := "zoneappend/zoneappendlaw12.EpochGrace", spec := "epochGrace", unfollowed := true, recurses := true, apart := false }
def EpochGraceSaid : Prop := epochGraceRow.holds Try.pinned (OpenSpec.ofChange epochGraceSpec)

/-- ITS FALSE NEIGHBOUR: 'it returns false'. Refute it at one input. -/
def epochGraceWrong : ChangeSpec := { name := "epochGrace", fn := fun _ => fun
  | [d1, d2, d3] => { results := [.lit (.bool false)], args := [d1, d2, d3] }
  | _ => none }
def EpochGraceWrongFalsely : Prop := epochGraceRow.holds Try.pinned (OpenSpec.ofChange epochGraceWrong)

/-- 'zoneappendlaw12.EpochEnds': WHATEVER THE INPUT: true; the input reads as it did. -/
def epochEndsSpec : ChangeSpec := { name := "epochEnds", fn := fun _ => fun
  | [d] => { results := [.lit (.bool true)], args := [d] }
  | _ => none }
def epochEndsRow : OpenClaim := { program := "ytijajfldpaadnaa", sum := "1df2349c2e09311716eec391fde86f05e8a5c14ac55a67f7c6e142c748db40f1", func := "zoneappend/zoneappendlaw12.EpochEnds", spec := "epochEnds", unfollowed := true, recurses := true, apart := false }
def EpochEndsSaid : Prop := epochEndsRow.holds Try.pinned (OpenSpec.ofChange epochEndsSpec)

/-- ITS FALSE NEIGHBOUR: 'it returns false'. Refute it at one input. -/
def epochEndsWrong : ChangeSpec := { name := "epochEnds", fn := fun _ => fun
  | [d] => { results := [.lit (.bool false)], args := [d] }
  | _ => none }
def EpochEndsWrongFalsely : Prop := epochEndsRow.holds Try.pinned (OpenSpec.ofChange epochEndsWrong)

/-- 'zoneappendlaw13.PoolRaw': WHATEVER THE INPUT: true; the input reads as it did. -/
def poolRawSpec : ChangeSpec := { name := "poolRaw", fn := fun _ => fun
  | [d1, d2, d3, d4] => { results := [.lit (.bool true)], args := [d1, d2, d3, d4] }
  | _ => none }
def poolRawRow : OpenClaim := { program := "ytijajfldpaadnaa", sum := "1df2349c2e09311716eec391fde86f05e8a5c14ac55a67f7c6e142c748db40f1", func := "zoneappend/zoneappendlaw13.PoolRaw", spec := "poolRaw", inPlace := ["slices.overlaps[int]"], apart := false }
def PoolRawSaid : Prop := poolRawRow.holds Try.pinned (OpenSpec.ofChange poolRawSpec)

/-- ITS FALSE NEIGHBOUR: 'it returns false'. Refute it at one input. -/
def poolRawWrong : ChangeSpec := { name := "poolRaw", fn := fun _ => fun
  | [d1, d2, d3, d4] => { results := [.lit (.bool false)], args := [d1, d2, d3, d4] }
  | _ => none }
def PoolRawWrongFalsely : Prop := poolRawRow.holds Try.pinned (OpenSpec.ofChange poolRawWrong)

/-- 'zoneappendlaw13.PoolSteps': WHATEVER THE INPUT: true; the input reads as it did. -/
def poolStepsSpec : ChangeSpec := { name := "poolSteps", fn := fun _ => fun
  | [d1, d2] => { results := [.lit (.bool true)], args := [d1, d2] }
  | _ => none }
def poolStepsRow : OpenClaim := { program := "ytijajfldpaadnaa", sum := "1df2349c2e09311716eec391fde86f05e8a5c14ac55a67f7c6e142c748db40f1", func := "zoneappend/zoneappendlaw13.PoolSteps", spec := "poolSteps", inPlace := ["slices.overlaps[int]"], apart := false }
def PoolStepsSaid : Prop := poolStepsRow.holds Try.pinned (OpenSpec.ofChange poolStepsSpec)

/-- ITS FALSE NEIGHBOUR: 'it returns false'. Refute it at one input. -/
def poolStepsWrong : ChangeSpec := { name := "poolSteps", fn := fun _ => fun
  | [d1, d2] => { results := [.lit (.bool false)], args := [d1, d2] }
  | _ => none }
def PoolStepsWrongFalsely : Prop := poolStepsRow.holds Try.pinned (OpenSpec.ofChange poolStepsWrong)

/-- 'zoneappendlaw13.PoolReserve': WHATEVER THE INPUT: true; the input reads as it did. -/
def poolReserveSpec : ChangeSpec := { name := "poolReserve", fn := fun _ => fun
  | [d] => { results := [.lit (.bool true)], args := [d] }
  | _ => none }
def poolReserveRow : OpenClaim := { program := "ytijajfldpaadnaa", sum := "1df2349c2e09311716eec391fde86f05e8a5c14ac55a67f7c6e142c748db40f1", func := "zoneappend/zoneappendlaw13.PoolReserve", spec := "poolReserve", inPlace := ["slices.overlaps[int]"], apart := false }
def PoolReserveSaid : Prop := poolReserveRow.holds Try.pinned (OpenSpec.ofChange poolReserveSpec)

/-- ITS FALSE NEIGHBOUR: 'it returns false'. Refute it at one input. -/
def poolReserveWrong : ChangeSpec := { name := "poolReserve", fn := fun _ => fun
  | [d] => { results := [.lit (.bool false)], args := [d] }
  | _ => none }
def PoolReserveWrongFalsely : Prop := poolReserveRow.holds Try.pinned (OpenSpec.ofChange poolReserveWrong)

/- THE SECOND FORM. 'bulk': how many values and letters a reading holds, each counted each time it is reached (what is shared counts as often as it is met; a slice's spare places count too). A statement '..UptoSaid' is the law's where the arguments, and the package variables that the reading takes, are together of bulk at most 1048576: NARROWER than '..Said'. Prove '..Said' where nothing that the law and all that it calls make is longer than what came in: it says more and counts as full. Else prove '..UptoSaid'. A law counts once. -/
mutual
def uptoBulk {H : Type} : DataW H → Nat
  | .lit (.string bytes) => bytes.length + 1
  | .lit _ => 1
  | .nil => 1
  | .ptr d => uptoBulk d + 1
  | .slice elems spare => uptoBulkAll elems + uptoBulkAll spare + 1
  | .agg parts => uptoBulkAll parts + 1
  | .iface _ d => uptoBulk d + 1
  | .map entries => uptoBulkEntries entries + 1
  | .held _ => 1
def uptoBulkAll {H : Type} : List (DataW H) → Nat
  | [] => 0
  | d :: r => uptoBulk d + uptoBulkAll r
def uptoBulkEntries {H : Type} : List (Lit × DataW H) → Nat
  | [] => 0
  | x :: r => uptoBulkEntry x + uptoBulkEntries r
def uptoBulkEntry {H : Type} : Lit × DataW H → Nat
  | (.string bytes, d) => bytes.length + uptoBulk d + 1
  | (_, d) => uptoBulk d + 1
 end
def uptoSmall : (H : Type) → List (DataW H) → Bool := fun _ ds => decide (uptoBulkAll ds ≤ 1048576)
def OpenSpec.upto (s : _root_.Go.ChangeSpec) : _root_.Go.OpenSpec := { _root_.Go.OpenSpec.ofChange s with cond := some uptoSmall }

/-- 'zoneappendlaw14.VictimLeast', WHERE WHAT IT READS IS OF BULK AT MOST 1048576: true; the input reads as it did. -/
def victimLeastUptoRow : OpenClaim := { program := "ytijajfldpaadnaa", sum := "1df2349c2e09311716eec391fde86f05e8a5c14ac55a67f7c6e142c748db40f1", func := "zoneappend/zoneappendlaw14.VictimLeast", spec := "victimLeast", unfollowed := true, recurses := true, apart := false, narrowed := true }
def VictimLeastUptoSaid : Prop := victimLeastUptoRow.holds Try.pinned (OpenSpec.upto victimLeastSpec)

/-- 'zoneappendlaw14.VictimMade', WHERE WHAT IT READS IS OF BULK AT MOST 1048576: true; the input reads as it did. -/
def victimMadeUptoRow : OpenClaim := { program := "ytijajfldpaadnaa", sum := "1df2349c2e09311716eec391fde86f05e8a5c14ac55a67f7c6e142c748db40f1", func := "zoneappend/zoneappendlaw14.VictimMade", spec := "victimMade", unfollowed := true, recurses := true, apart := false, narrowed := true }
def VictimMadeUptoSaid : Prop := victimMadeUptoRow.holds Try.pinned (OpenSpec.upto victimMadeSpec)

/-- 'zoneappendlaw10.LiveFollows', WHERE WHAT IT READS IS OF BULK AT MOST 1048576: true; the input reads as it did. -/
def liveFollowsUptoRow : OpenClaim := { program := "ytijajfldpaadnaa", sum := "1df2349c2e09311716eec391fde86f05e8a5c14ac55a67f7c6e142c748db40f1", func := "zoneappend/zoneappendlaw10.LiveFollows", spec := "liveFollows", apart := false, narrowed := true }
def LiveFollowsUptoSaid : Prop := liveFollowsUptoRow.holds Try.pinned (OpenSpec.upto liveFollowsSpec)

/-- 'zoneappendlaw10.LivePending', WHERE WHAT IT READS IS OF BULK AT MOST 1048576: true; the input reads as it did. -/
def livePendingUptoRow : OpenClaim := { program := "ytijajfldpaadnaa", sum := "1df2349c2e09311716eec391fde86f05e8a5c14ac55a67f7c6e142c748db40f1", func := "zoneappend/zoneappendlaw10.LivePending", spec := "livePending", apart := false, narrowed := true }
def LivePendingUptoSaid : Prop := livePendingUptoRow.holds Try.pinned (OpenSpec.upto livePendingSpec)

/-- 'zoneappendlaw10.LiveRaw', WHERE WHAT IT READS IS OF BULK AT MOST 1048576: true; the input reads as it did. -/
def liveRawUptoRow : OpenClaim := { program := "ytijajfldpaadnaa", sum := "1df2349c2e09311716eec391fde86f05e8a5c14ac55a67f7c6e142c748db40f1", func := "zoneappend/zoneappendlaw10.LiveRaw", spec := "liveRaw", apart := false, narrowed := true }
def LiveRawUptoSaid : Prop := liveRawUptoRow.holds Try.pinned (OpenSpec.upto liveRawSpec)

/-- 'zoneappendlaw12.EpochRaw', WHERE WHAT IT READS IS OF BULK AT MOST 1048576: true; the input reads as it did. -/
def epochRawUptoRow : OpenClaim := { program := "ytijajfldpaadnaa", sum := "1df2349c2e09311716eec391fde86f05e8a5c14ac55a67f7c6e142c748db40f1", func := "zoneappend/zoneappendlaw12.EpochRaw", spec := "epochRaw", unfollowed := true, recurses := true, apart := false, narrowed := true }
def EpochRawUptoSaid : Prop := epochRawUptoRow.holds Try.pinned (OpenSpec.upto epochRawSpec)

/-- 'zoneappendlaw12.EpochSteps', WHERE WHAT IT READS IS OF BULK AT MOST 1048576: true; the input reads as it did. -/
def epochStepsUptoRow : OpenClaim := { program := "ytijajfldpaadnaa", sum := "1df2349c2e09311716eec391fde86f05e8a5c14ac55a67f7c6e142c748db40f1", func := "zoneappend/zoneappendlaw12.EpochSteps", spec := "epochSteps", unfollowed := true, recurses := true, apart := false, narrowed := true }
def EpochStepsUptoSaid : Prop := epochStepsUptoRow.holds Try.pinned (OpenSpec.upto epochStepsSpec)

/-- 'zoneappendlaw12.EpochGrace', WHERE WHAT IT READS IS OF BULK AT MOST 1048576: true; the input reads as it did. -/
def epochGraceUptoRow : OpenClaim := { program := "ytijajfldpaadnaa", sum := "1df2349c2e09311716eec391fde86f05e8a5c14ac55a67f7c6e142c748db40f1", func := "zoneappend/zoneappendlaw12.EpochGrace", spec := "epochGrace", unfollowed := true, recurses := true, apart := false, narrowed := true }
def EpochGraceUptoSaid : Prop := epochGraceUptoRow.holds Try.pinned (OpenSpec.upto epochGraceSpec)

/-- 'zoneappendlaw12.EpochEnds', WHERE WHAT IT READS IS OF BULK AT MOST 1048576: true; the input reads as it did. -/
def epochEndsUptoRow : OpenClaim := { program := "ytijajfldpaadnaa", sum := "1df2349c2e09311716eec391fde86f05e8a5c14ac55a67f7c6e142c748db40f1", func := "zoneappend/zoneappendlaw12.EpochEnds", spec := "epochEnds", unfollowed := true, recurses := true, apart := false, narrowed := true }
def EpochEndsUptoSaid : Prop := epochEndsUptoRow.holds Try.pinned (OpenSpec.upto epochEndsSpec)

/-- 'zoneappendlaw13.PoolRaw', WHERE WHAT IT READS IS OF BULK AT MOST 1048576: true; the input reads as it did. -/
def poolRawUptoRow : OpenClaim := { program := "ytijajfldpaadnaa", sum := "1df2349c2e09311716eec391fde86f05e8a5c14ac55a67f7c6e142c748db40f1", func := "zoneappend/zoneappendlaw13.PoolRaw", spec := "poolRaw", inPlace := ["slices.overlaps[int]"], apart := false, narrowed := true }
def PoolRawUptoSaid : Prop := poolRawUptoRow.holds Try.pinned (OpenSpec.upto poolRawSpec)

/-- 'zoneappendlaw13.PoolSteps', WHERE WHAT IT READS IS OF BULK AT MOST 1048576: true; the input reads as it did. -/
def poolStepsUptoRow : OpenClaim := { program := "ytijajfldpaadnaa", sum := "1df2349c2e09311716eec391fde86f05e8a5c14ac55a67f7c6e142c748db40f1", func := "zoneappend/zoneappendlaw13.PoolSteps", spec := "poolSteps", inPlace := ["slices.overlaps[int]"], apart := false, narrowed := true }
def PoolStepsUptoSaid : Prop := poolStepsUptoRow.holds Try.pinned (OpenSpec.upto poolStepsSpec)

/-- 'zoneappendlaw13.PoolReserve', WHERE WHAT IT READS IS OF BULK AT MOST 1048576: true; the input reads as it did. -/
def poolReserveUptoRow : OpenClaim := { program := "ytijajfldpaadnaa", sum := "1df2349c2e09311716eec391fde86f05e8a5c14ac55a67f7c6e142c748db40f1", func := "zoneappend/zoneappendlaw13.PoolReserve", spec := "poolReserve", inPlace := ["slices.overlaps[int]"], apart := false, narrowed := true }
def PoolReserveUptoSaid : Prop := poolReserveUptoRow.holds Try.pinned (OpenSpec.upto poolReserveSpec)

end Rows
end Go.Proofs.Ytijajfldpaadnaa
