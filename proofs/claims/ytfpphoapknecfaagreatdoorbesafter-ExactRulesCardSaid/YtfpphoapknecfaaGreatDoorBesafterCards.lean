/-
  DERIVED. GIVEN WITH THE SEED: THE CARDS: each row of YtfpphoapknecfaaGreatDoorBesafterRows.lean that lists a variable, with what it lists TIED to the program's text (the seventh form; the later family's looks); each row that meets fmt, with fmt's text TOLD by the authors' own Lean function (tested against real Go, not proved from fmt's source: count such statements apart). THE CARD IS WHAT COUNTS. Prove the row's statement (the work); the ties are given (YtfpphoapknecfaaGreatDoorBesafterTie.lean); close each card by the builder's one call (the guide's Derived/Test/ToyasCard.lean, 'card_holds'). Laid BY PROGRAM, IN A SANDBOX (cutbox-door.mjs). By AI agents, Wed Nov 11 2026. No macro, syntax, notation, axiom, sorry.
-/
import Derived.Test.YtfpphoapknecfaaGreatDoorBesafterRows
import GoSem.ClaimSeven
namespace Go.Proofs.YtfpphoapknecfaaGreatDoorBesafter
namespace Rows

/-- THE TIED CARD OF 'timbrelaw26.ExactRules'. -/
def exactRulesCard : Claim7 := { stood := { row := exactRulesRow, standIns := [], harness := (true, "74cad647b4694adee1717e34b42bea653825150fc15ba31cef55651383f649a5"), looks := true }, kinds := [], alts := [], laidByText := true, laidKinds := [.data, .data, .sentinel, .sentinel, .sentinel, .sentinel, .sentinel, .sentinel, .sentinel, .sentinel, .sentinel, .sentinel, .sentinel, .sentinel, .sentinel, .sentinel, .sentinel, .sentinel, .sentinel, .sentinel, .sentinel, .data, .data, .data, .data, .data], laidTests := true, laidLooks := .later }
def ExactRulesCardSaid : Prop := Claim7.holds Tryz.pinned (.plain (OpenSpec.ofChange exactRulesSpec)) exactRulesCard

/-- THE SECOND FORM's CARD OF 'timbrelaw26.ExactRules'. -/
def exactRulesUptoCard : Claim7 := { stood := { row := exactRulesUptoRow, standIns := [], harness := (true, "74cad647b4694adee1717e34b42bea653825150fc15ba31cef55651383f649a5"), looks := true }, kinds := [], alts := [], laidByText := true, laidKinds := [.data, .data, .sentinel, .sentinel, .sentinel, .sentinel, .sentinel, .sentinel, .sentinel, .sentinel, .sentinel, .sentinel, .sentinel, .sentinel, .sentinel, .sentinel, .sentinel, .sentinel, .sentinel, .sentinel, .sentinel, .data, .data, .data, .data, .data], laidTests := true, laidLooks := .later }
def ExactRulesUptoCardSaid : Prop := Claim7.holds Tryz.pinned (.plain (OpenSpec.upto exactRulesSpec)) exactRulesUptoCard
end Rows
end Go.Proofs.YtfpphoapknecfaaGreatDoorBesafter
