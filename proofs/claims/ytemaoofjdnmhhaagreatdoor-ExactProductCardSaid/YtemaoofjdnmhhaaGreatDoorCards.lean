/-
  DERIVED. GIVEN WITH THE SEED: THE CARDS: each row of YtemaoofjdnmhhaaGreatDoorRows.lean that lists a variable, with what it lists TIED to the program's text (the seventh form; the later family's looks); each row that meets fmt, with fmt's text TOLD by the authors' own Lean function (tested against real Go, not proved from fmt's source: count such statements apart). THE CARD IS WHAT COUNTS. Prove the row's statement (the work); the ties are given (YtemaoofjdnmhhaaGreatDoorTie.lean); close each card by the builder's one call (the guide's Derived/Test/ToyasCard.lean, 'card_holds'). Laid BY PROGRAM, IN A SANDBOX (cutbox-door.mjs). By AI agents, Wed Nov 11 2026. No macro, syntax, notation, axiom, sorry.
-/
import Derived.Test.YtemaoofjdnmhhaaGreatDoorRows
import GoSem.ClaimSeven
namespace Go.Proofs.YtemaoofjdnmhhaaGreatDoor
namespace Rows

/-- THE TIED CARD OF 'timbrelaw26.ExactProduct'. -/
def exactProductCard : Claim7 := { stood := { row := exactProductRow, standIns := [], harness := (true, "7fbb7f2c143896d0497c2e15ec34807e3498f3bdac48655aee6d61b809f653d9"), looks := true }, kinds := [], alts := [], laidByText := true, laidKinds := [.data, .data, .sentinel, .sentinel, .sentinel, .sentinel, .sentinel, .sentinel, .sentinel, .sentinel, .sentinel, .sentinel, .sentinel, .sentinel, .sentinel, .sentinel, .sentinel, .sentinel, .sentinel, .sentinel, .sentinel, .data, .data, .data, .data, .data], laidTests := true, laidLooks := .later }
def ExactProductCardSaid : Prop := Claim7.holds Tryz.pinned (.plain (OpenSpec.ofChange exactProductSpec)) exactProductCard

/-- THE SECOND FORM's CARD OF 'timbrelaw26.ExactProduct'. -/
def exactProductUptoCard : Claim7 := { stood := { row := exactProductUptoRow, standIns := [], harness := (true, "7fbb7f2c143896d0497c2e15ec34807e3498f3bdac48655aee6d61b809f653d9"), looks := true }, kinds := [], alts := [], laidByText := true, laidKinds := [.data, .data, .sentinel, .sentinel, .sentinel, .sentinel, .sentinel, .sentinel, .sentinel, .sentinel, .sentinel, .sentinel, .sentinel, .sentinel, .sentinel, .sentinel, .sentinel, .sentinel, .sentinel, .sentinel, .sentinel, .data, .data, .data, .data, .data], laidTests := true, laidLooks := .later }
def ExactProductUptoCardSaid : Prop := Claim7.holds Tryz.pinned (.plain (OpenSpec.upto exactProductSpec)) exactProductUptoCard
end Rows
end Go.Proofs.YtemaoofjdnmhhaaGreatDoor
