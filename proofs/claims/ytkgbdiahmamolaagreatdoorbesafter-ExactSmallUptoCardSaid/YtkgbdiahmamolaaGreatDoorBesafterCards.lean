/-
  DERIVED. GIVEN WITH THE SEED: THE CARDS: each row of YtkgbdiahmamolaaGreatDoorBesafterRows.lean that lists a variable, with what it lists TIED to the program's text (the seventh form; the later family's looks); each row that meets fmt, with fmt's text TOLD by the authors' own Lean function (tested against real Go, not proved from fmt's source: count such statements apart). THE CARD IS WHAT COUNTS. Prove the row's statement (the work); the ties are given (YtkgbdiahmamolaaGreatDoorBesafterTie.lean); close each card by the builder's one call (the guide's Derived/Test/ToyasCard.lean, 'card_holds'). Laid BY PROGRAM, IN A SANDBOX (cutbox-door.mjs). By AI agents, Wed Nov 11 2026. No macro, syntax, notation, axiom, sorry.
-/
import Derived.Test.YtkgbdiahmamolaaGreatDoorBesafterRows
import GoSem.ClaimSeven
namespace Go.Proofs.YtkgbdiahmamolaaGreatDoorBesafter
namespace Rows

/-- THE TIED CARD OF 'timbrelaw26.ExactSmall'. -/
def exactSmallCard : Claim7 := { stood := { row := exactSmallRow, standIns := [], harness := (true, "ff3c380696d52a065597c1e9add8b4aa3a204a0cf42d8ca97f5bd9477913674d"), looks := true }, kinds := [], alts := [], laidByText := true, laidKinds := [.data, .data, .sentinel, .sentinel, .sentinel, .sentinel, .sentinel, .sentinel, .sentinel, .sentinel, .sentinel, .sentinel, .sentinel, .sentinel, .sentinel, .sentinel, .sentinel, .sentinel, .sentinel, .sentinel, .sentinel, .data, .data, .data, .data, .data], laidTests := true, laidLooks := .later }
def ExactSmallCardSaid : Prop := Claim7.holds Tryz.pinned (.plain (OpenSpec.ofChange exactSmallSpec)) exactSmallCard

/-- THE SECOND FORM's CARD OF 'timbrelaw26.ExactSmall'. -/
def exactSmallUptoCard : Claim7 := { stood := { row := exactSmallUptoRow, standIns := [], harness := (true, "ff3c380696d52a065597c1e9add8b4aa3a204a0cf42d8ca97f5bd9477913674d"), looks := true }, kinds := [], alts := [], laidByText := true, laidKinds := [.data, .data, .sentinel, .sentinel, .sentinel, .sentinel, .sentinel, .sentinel, .sentinel, .sentinel, .sentinel, .sentinel, .sentinel, .sentinel, .sentinel, .sentinel, .sentinel, .sentinel, .sentinel, .sentinel, .sentinel, .data, .data, .data, .data, .data], laidTests := true, laidLooks := .later }
def ExactSmallUptoCardSaid : Prop := Claim7.holds Tryz.pinned (.plain (OpenSpec.upto exactSmallSpec)) exactSmallUptoCard
end Rows
end Go.Proofs.YtkgbdiahmamolaaGreatDoorBesafter
