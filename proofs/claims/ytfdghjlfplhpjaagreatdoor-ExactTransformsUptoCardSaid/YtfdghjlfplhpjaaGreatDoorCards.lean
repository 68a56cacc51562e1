/-
  DERIVED. GIVEN WITH THE SEED: THE CARDS: each row of YtfdghjlfplhpjaaGreatDoorRows.lean that lists a variable, with what it lists TIED to the program's text (the seventh form; the later family's looks); each row that meets fmt, with fmt's text TOLD by the authors' own Lean function (tested against real Go, not proved from fmt's source: count such statements apart). THE CARD IS WHAT COUNTS. Prove the row's statement (the work); the ties are given (YtfdghjlfplhpjaaGreatDoorTie.lean); close each card by the builder's one call (the guide's Derived/Test/ToyasCard.lean, 'card_holds'). Laid BY PROGRAM, IN A SANDBOX (cutbox-door.mjs). By AI agents, Wed Nov 11 2026. No macro, syntax, notation, axiom, sorry.
-/
import Derived.Test.YtfdghjlfplhpjaaGreatDoorRows
import GoSem.ClaimSeven
namespace Go.Proofs.YtfdghjlfplhpjaaGreatDoor
namespace Rows

/-- THE TIED CARD OF 'timbrelaw26.ExactTransforms'. -/
def exactTransformsCard : Claim7 := { stood := { row := exactTransformsRow, standIns := [], harness := (true, "4bae381b2c1a58db39a8d9d1d570511c5cb886047b82e05a96577d518d52cd1b"), looks := true }, kinds := [], alts := [], laidByText := true, laidKinds := [.data, .data, .sentinel, .sentinel, .sentinel, .sentinel, .sentinel, .sentinel, .sentinel, .sentinel, .sentinel, .sentinel, .sentinel, .sentinel, .sentinel, .sentinel, .sentinel, .sentinel, .sentinel, .sentinel, .sentinel, .data, .data, .data, .data, .data], laidTests := true, laidLooks := .later }
def ExactTransformsCardSaid : Prop := Claim7.holds Tryz.pinned (.plain (OpenSpec.ofChange exactTransformsSpec)) exactTransformsCard

/-- THE SECOND FORM's CARD OF 'timbrelaw26.ExactTransforms'. -/
def exactTransformsUptoCard : Claim7 := { stood := { row := exactTransformsUptoRow, standIns := [], harness := (true, "4bae381b2c1a58db39a8d9d1d570511c5cb886047b82e05a96577d518d52cd1b"), looks := true }, kinds := [], alts := [], laidByText := true, laidKinds := [.data, .data, .sentinel, .sentinel, .sentinel, .sentinel, .sentinel, .sentinel, .sentinel, .sentinel, .sentinel, .sentinel, .sentinel, .sentinel, .sentinel, .sentinel, .sentinel, .sentinel, .sentinel, .sentinel, .sentinel, .data, .data, .data, .data, .data], laidTests := true, laidLooks := .later }
def ExactTransformsUptoCardSaid : Prop := Claim7.holds Tryz.pinned (.plain (OpenSpec.upto exactTransformsSpec)) exactTransformsUptoCard
end Rows
end Go.Proofs.YtfdghjlfplhpjaaGreatDoor
