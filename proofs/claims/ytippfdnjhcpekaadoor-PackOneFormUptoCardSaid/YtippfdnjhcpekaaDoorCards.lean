/-
  DERIVED. GIVEN WITH THE SEED: THE CARDS: each row of YtippfdnjhcpekaaDoorRows.lean that lists a variable, with what it lists TIED to the program's text (the seventh form; the later family's looks); each row that meets fmt, with fmt's text TOLD by the authors' own Lean function (tested against real Go, not proved from fmt's source: count such statements apart). THE CARD IS WHAT COUNTS. Prove the row's statement (the work); the ties are given (YtippfdnjhcpekaaDoorTie.lean); close each card by the builder's one call (the guide's Derived/Test/ToyasCard.lean, 'card_holds'). Laid BY PROGRAM, IN A SANDBOX (cutbox-door.mjs). By AI agents, Wed Nov 11 2026. No macro, syntax, notation, axiom, sorry.
-/
import Derived.Test.YtippfdnjhcpekaaDoorRows
import GoSem.ClaimSeven
namespace Go.Proofs.YtippfdnjhcpekaaDoor
namespace Rows

/-- THE TIED CARD OF 'timbrelaw04.PackWrites'. -/
def packWritesCard : Claim7 := { stood := { row := packWritesRow, standIns := [], harness := (true, "0c10bb058779ad79481d87608c609b0cd038f30d4495cb0230d0547c1b2f04a3"), looks := true }, kinds := [], alts := [], laidByText := true, laidKinds := [.sentinel, .sentinel, .sentinel, .sentinel, .sentinel, .sentinel, .sentinel, .sentinel, .sentinel, .sentinel, .sentinel, .sentinel, .sentinel, .sentinel, .sentinel, .sentinel, .sentinel, .sentinel, .sentinel], laidTests := true, laidLooks := .later }
def PackWritesCardSaid : Prop := Claim7.holds Tryd.pinned (.plain (OpenSpec.ofChange packWritesSpec)) packWritesCard

/-- THE TIED CARD OF 'timbrelaw04.PackOwns'. -/
def packOwnsCard : Claim7 := { stood := { row := packOwnsRow, standIns := [], harness := (true, "0c10bb058779ad79481d87608c609b0cd038f30d4495cb0230d0547c1b2f04a3"), looks := true }, kinds := [], alts := [], laidByText := true, laidKinds := [.sentinel, .sentinel, .sentinel, .sentinel, .sentinel, .sentinel, .sentinel, .sentinel, .sentinel, .sentinel, .sentinel, .sentinel, .sentinel, .sentinel, .sentinel, .sentinel, .sentinel, .sentinel, .sentinel], laidTests := true, laidLooks := .later }
def PackOwnsCardSaid : Prop := Claim7.holds Tryd.pinned (.plain (OpenSpec.ofChange packOwnsSpec)) packOwnsCard

/-- THE TIED CARD OF 'timbrelaw04.PackReads'. -/
def packReadsCard : Claim7 := { stood := { row := packReadsRow, standIns := [], harness := (true, "0c10bb058779ad79481d87608c609b0cd038f30d4495cb0230d0547c1b2f04a3"), looks := true }, kinds := [], alts := [], laidByText := true, laidKinds := [.sentinel, .sentinel, .sentinel, .sentinel, .sentinel, .sentinel, .sentinel, .sentinel, .sentinel, .sentinel, .sentinel, .sentinel, .sentinel, .sentinel, .sentinel, .sentinel, .sentinel, .sentinel, .sentinel], laidTests := true, laidLooks := .later }
def PackReadsCardSaid : Prop := Claim7.holds Tryd.pinned (.plain (OpenSpec.ofChange packReadsSpec)) packReadsCard

/-- THE TIED CARD OF 'timbrelaw04.PackOneForm'. -/
def packOneFormCard : Claim7 := { stood := { row := packOneFormRow, standIns := [], harness := (true, "0c10bb058779ad79481d87608c609b0cd038f30d4495cb0230d0547c1b2f04a3"), looks := true }, kinds := [], alts := [], laidByText := true, laidKinds := [.sentinel, .sentinel, .sentinel, .sentinel, .sentinel], laidTests := true, laidLooks := .later }
def PackOneFormCardSaid : Prop := Claim7.holds Tryd.pinned (.plain (OpenSpec.ofChange packOneFormSpec)) packOneFormCard

/-- THE TIED CARD OF 'timbrelaw04.PackThere'. -/
def packThereCard : Claim7 := { stood := { row := packThereRow, standIns := [], harness := (true, "0c10bb058779ad79481d87608c609b0cd038f30d4495cb0230d0547c1b2f04a3"), looks := true }, kinds := [], alts := [], laidByText := true, laidKinds := [.sentinel, .sentinel, .sentinel, .sentinel, .sentinel, .sentinel, .sentinel, .sentinel, .sentinel, .sentinel, .sentinel, .sentinel, .sentinel, .sentinel, .sentinel, .sentinel, .sentinel, .sentinel, .sentinel], laidTests := true, laidLooks := .later }
def PackThereCardSaid : Prop := Claim7.holds Tryd.pinned (.plain (OpenSpec.ofChange packThereSpec)) packThereCard

/-- THE SECOND FORM's CARD OF 'timbrelaw04.PackWrites'. -/
def packWritesUptoCard : Claim7 := { stood := { row := packWritesUptoRow, standIns := [], harness := (true, "0c10bb058779ad79481d87608c609b0cd038f30d4495cb0230d0547c1b2f04a3"), looks := true }, kinds := [], alts := [], laidByText := true, laidKinds := [.sentinel, .sentinel, .sentinel, .sentinel, .sentinel, .sentinel, .sentinel, .sentinel, .sentinel, .sentinel, .sentinel, .sentinel, .sentinel, .sentinel, .sentinel, .sentinel, .sentinel, .sentinel, .sentinel], laidTests := true, laidLooks := .later }
def PackWritesUptoCardSaid : Prop := Claim7.holds Tryd.pinned (.plain (OpenSpec.upto packWritesSpec)) packWritesUptoCard

/-- THE SECOND FORM's CARD OF 'timbrelaw04.PackOwns'. -/
def packOwnsUptoCard : Claim7 := { stood := { row := packOwnsUptoRow, standIns := [], harness := (true, "0c10bb058779ad79481d87608c609b0cd038f30d4495cb0230d0547c1b2f04a3"), looks := true }, kinds := [], alts := [], laidByText := true, laidKinds := [.sentinel, .sentinel, .sentinel, .sentinel, .sentinel, .sentinel, .sentinel, .sentinel, .sentinel, .sentinel, .sentinel, .sentinel, .sentinel, .sentinel, .sentinel, .sentinel, .sentinel, .sentinel, .sentinel], laidTests := true, laidLooks := .later }
def PackOwnsUptoCardSaid : Prop := Claim7.holds Tryd.pinned (.plain (OpenSpec.upto packOwnsSpec)) packOwnsUptoCard

/-- THE SECOND FORM's CARD OF 'timbrelaw04.PackReads'. -/
def packReadsUptoCard : Claim7 := { stood := { row := packReadsUptoRow, standIns := [], harness := (true, "0c10bb058779ad79481d87608c609b0cd038f30d4495cb0230d0547c1b2f04a3"), looks := true }, kinds := [], alts := [], laidByText := true, laidKinds := [.sentinel, .sentinel, .sentinel, .sentinel, .sentinel, .sentinel, .sentinel, .sentinel, .sentinel, .sentinel, .sentinel, .sentinel, .sentinel, .sentinel, .sentinel, .sentinel, .sentinel, .sentinel, .sentinel], laidTests := true, laidLooks := .later }
def PackReadsUptoCardSaid : Prop := Claim7.holds Tryd.pinned (.plain (OpenSpec.upto packReadsSpec)) packReadsUptoCard

/-- THE SECOND FORM's CARD OF 'timbrelaw04.PackOneForm'. -/
def packOneFormUptoCard : Claim7 := { stood := { row := packOneFormUptoRow, standIns := [], harness := (true, "0c10bb058779ad79481d87608c609b0cd038f30d4495cb0230d0547c1b2f04a3"), looks := true }, kinds := [], alts := [], laidByText := true, laidKinds := [.sentinel, .sentinel, .sentinel, .sentinel, .sentinel], laidTests := true, laidLooks := .later }
def PackOneFormUptoCardSaid : Prop := Claim7.holds Tryd.pinned (.plain (OpenSpec.upto packOneFormSpec)) packOneFormUptoCard

/-- THE SECOND FORM's CARD OF 'timbrelaw04.PackThere'. -/
def packThereUptoCard : Claim7 := { stood := { row := packThereUptoRow, standIns := [], harness := (true, "0c10bb058779ad79481d87608c609b0cd038f30d4495cb0230d0547c1b2f04a3"), looks := true }, kinds := [], alts := [], laidByText := true, laidKinds := [.sentinel, .sentinel, .sentinel, .sentinel, .sentinel, .sentinel, .sentinel, .sentinel, .sentinel, .sentinel, .sentinel, .sentinel, .sentinel, .sentinel, .sentinel, .sentinel, .sentinel, .sentinel, .sentinel], laidTests := true, laidLooks := .later }
def PackThereUptoCardSaid : Prop := Claim7.holds Tryd.pinned (.plain (OpenSpec.upto packThereSpec)) packThereUptoCard
end Rows
end Go.Proofs.YtippfdnjhcpekaaDoor
