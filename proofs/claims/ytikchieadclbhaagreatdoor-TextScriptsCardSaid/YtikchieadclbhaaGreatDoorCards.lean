/-
  DERIVED. GIVEN WITH THE SEED: THE CARDS: each row of YtikchieadclbhaaGreatDoorRows.lean that lists a variable, with what it lists TIED to the program's text (the seventh form; the later family's looks); each row that meets fmt, with fmt's text TOLD by the authors' own Lean function (tested against real Go, not proved from fmt's source: count such statements apart). THE CARD IS WHAT COUNTS. Prove the row's statement (the work); the ties are given (YtikchieadclbhaaGreatDoorTie.lean); close each card by the builder's one call (the guide's Derived/Test/ToyasCard.lean, 'card_holds'). Laid BY PROGRAM, IN A SANDBOX (cutbox-door.mjs). By AI agents, Wed Nov 11 2026. No macro, syntax, notation, axiom, sorry.
-/
import Derived.Test.YtikchieadclbhaaGreatDoorRows
import GoSem.ClaimSeven
namespace Go.Proofs.YtikchieadclbhaaGreatDoor
namespace Rows

/-- THE TIED CARD OF 'zoneappendlaw37.TextScripts'. -/
def textScriptsCard : Claim7 := { stood := { row := textScriptsRow, standIns := [], harness := (true, "5ed3c190071d2fc3b5588c03639a734ad0d501b47dc98744a89044c9b7acbfb9"), looks := true }, kinds := [], alts := [], laidByText := true, laidKinds := [.data, .data, .data, .data, .sentinel, .sentinel, .pinned], laidTests := true, laidLooks := .later }
def TextScriptsCardSaid : Prop := Claim7.holds Tryz.pinned (.plain (OpenSpec.ofChange textScriptsSpec)) textScriptsCard

/-- THE SECOND FORM's CARD OF 'zoneappendlaw37.TextScripts'. -/
def textScriptsUptoCard : Claim7 := { stood := { row := textScriptsUptoRow, standIns := [], harness := (true, "5ed3c190071d2fc3b5588c03639a734ad0d501b47dc98744a89044c9b7acbfb9"), looks := true }, kinds := [], alts := [], laidByText := true, laidKinds := [.data, .data, .data, .data, .sentinel, .sentinel, .pinned], laidTests := true, laidLooks := .later }
def TextScriptsUptoCardSaid : Prop := Claim7.holds Tryz.pinned (.plain (OpenSpec.upto textScriptsSpec)) textScriptsUptoCard
end Rows
end Go.Proofs.YtikchieadclbhaaGreatDoor
