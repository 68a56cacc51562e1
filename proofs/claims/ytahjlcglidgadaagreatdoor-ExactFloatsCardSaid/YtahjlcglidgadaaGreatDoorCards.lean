/-
  DERIVED. GIVEN WITH THE SEED: THE CARDS: each row of YtahjlcglidgadaaGreatDoorRows.lean that lists a variable, with what it lists TIED to the program's text (the seventh form; the later family's looks); each row that meets fmt, with fmt's text TOLD by the authors' own Lean function (tested against real Go, not proved from fmt's source: count such statements apart). THE CARD IS WHAT COUNTS. Prove the row's statement (the work); the ties are given (YtahjlcglidgadaaGreatDoorTie.lean); close each card by the builder's one call (the guide's Derived/Test/ToyasCard.lean, 'card_holds'). Laid BY PROGRAM, IN A SANDBOX (cutbox-door.mjs). By AI agents, Wed Nov 11 2026. No macro, syntax, notation, axiom, sorry.
-/
import Derived.Test.YtahjlcglidgadaaGreatDoorRows
import GoSem.ClaimSeven
namespace Go.Proofs.YtahjlcglidgadaaGreatDoor
namespace Rows

/-- THE TIED CARD OF 'timbrelaw26.ExactFloats'. -/
def exactFloatsCard : Claim7 := { stood := { row := exactFloatsRow, standIns := [], harness := (true, "323aeab30b712c7867528c6f973b95c1df06ed5f30d131cddc78b995ad4724f5"), looks := true }, kinds := [], alts := [], laidByText := true, laidKinds := [.data, .data, .sentinel, .sentinel, .sentinel, .sentinel, .data, .data, .data, .data, .data], laidTests := true, laidLooks := .later }
def ExactFloatsCardSaid : Prop := Claim7.holds Tryz.pinned (.plain (OpenSpec.ofChange exactFloatsSpec)) exactFloatsCard

/-- THE SECOND FORM's CARD OF 'timbrelaw26.ExactFloats'. -/
def exactFloatsUptoCard : Claim7 := { stood := { row := exactFloatsUptoRow, standIns := [], harness := (true, "323aeab30b712c7867528c6f973b95c1df06ed5f30d131cddc78b995ad4724f5"), looks := true }, kinds := [], alts := [], laidByText := true, laidKinds := [.data, .data, .sentinel, .sentinel, .sentinel, .sentinel, .data, .data, .data, .data, .data], laidTests := true, laidLooks := .later }
def ExactFloatsUptoCardSaid : Prop := Claim7.holds Tryz.pinned (.plain (OpenSpec.upto exactFloatsSpec)) exactFloatsUptoCard
end Rows
end Go.Proofs.YtahjlcglidgadaaGreatDoor
