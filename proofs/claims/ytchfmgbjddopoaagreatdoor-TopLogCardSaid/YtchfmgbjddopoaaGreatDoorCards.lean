/-
  DERIVED. GIVEN WITH THE SEED: THE CARDS: each row of YtchfmgbjddopoaaGreatDoorRows.lean that lists a variable, with what it lists TIED to the program's text (the seventh form; the later family's looks); each row that meets fmt, with fmt's text TOLD by the authors' own Lean function (tested against real Go, not proved from fmt's source: count such statements apart). THE CARD IS WHAT COUNTS. Prove the row's statement (the work); the ties are given (YtchfmgbjddopoaaGreatDoorTie.lean); close each card by the builder's one call (the guide's Derived/Test/ToyasCard.lean, 'card_holds'). Laid BY PROGRAM, IN A SANDBOX (cutbox-door.mjs). By AI agents, Wed Nov 11 2026. No macro, syntax, notation, axiom, sorry.
-/
import Derived.Test.YtchfmgbjddopoaaGreatDoorRows
import GoSem.ClaimSeven
namespace Go.Proofs.YtchfmgbjddopoaaGreatDoor
namespace Rows

/-- THE TIED CARD OF 'hourglasstop.TopLog'. -/
def topLogCard : Claim7 := { stood := { row := topLogRow, standIns := [], harness := (true, "104e2b99347302f6073ac85ae9585f97a4acc0e74159eaaa2e6929d90092faa9"), looks := true }, kinds := [], alts := [], laidByText := true, laidKinds := [.data, .data, .data, .data, .sentinel, .sentinel, .pinned], laidTests := true, laidLooks := .later }
def TopLogCardSaid : Prop := Claim7.holds Tryz.pinned (.plain (OpenSpec.ofChange topLogSpec)) topLogCard

/-- THE SECOND FORM's CARD OF 'hourglasstop.TopLog'. -/
def topLogUptoCard : Claim7 := { stood := { row := topLogUptoRow, standIns := [], harness := (true, "104e2b99347302f6073ac85ae9585f97a4acc0e74159eaaa2e6929d90092faa9"), looks := true }, kinds := [], alts := [], laidByText := true, laidKinds := [.data, .data, .data, .data, .sentinel, .sentinel, .pinned], laidTests := true, laidLooks := .later }
def TopLogUptoCardSaid : Prop := Claim7.holds Tryz.pinned (.plain (OpenSpec.upto topLogSpec)) topLogUptoCard
end Rows
end Go.Proofs.YtchfmgbjddopoaaGreatDoor
