/-
  DERIVED. GIVEN WITH THE SEED: THE CARDS: each row of YtgkmmbdlclecnaaDoorRows.lean that lists a variable, with what it lists TIED to the program's text (the seventh form; the later family's looks); each row that meets fmt, with fmt's text TOLD by the authors' own Lean function (tested against real Go, not proved from fmt's source: count such statements apart). THE CARD IS WHAT COUNTS. Prove the row's statement (the work); the ties are given (YtgkmmbdlclecnaaDoorTie.lean); close each card by the builder's one call (the guide's Derived/Test/ToyasCard.lean, 'card_holds'). Laid BY PROGRAM, IN A SANDBOX (cutbox-door.mjs). By AI agents, Wed Nov 11 2026. No macro, syntax, notation, axiom, sorry.
-/
import Derived.Test.YtgkmmbdlclecnaaDoorRows
import GoSem.ClaimSeven
namespace Go.Proofs.YtgkmmbdlclecnaaDoor
namespace Rows

/-- THE TIED CARD OF 'timbrelaw16.ListingTexts'. -/
def listingTextsCard : Claim7 := { stood := { row := listingTextsRow, standIns := [], harness := (true, "0bcc0ca1565952d306df43f170e78496dc45808117791b021e2df222fdc841f7"), looks := true }, kinds := [], alts := [], laidByText := true, laidKinds := [.data, .data, .data, .sentinel, .sentinel, .sentinel, .sentinel, .sentinel, .sentinel, .sentinel, .sentinel, .sentinel, .sentinel, .sentinel, .sentinel, .sentinel, .sentinel, .sentinel, .sentinel, .sentinel, .sentinel, .sentinel, .data], laidTests := true, laidLooks := .later }
def ListingTextsCardSaid : Prop := Claim7.holds Tryd.pinned (.plain (OpenSpec.ofChange listingTextsSpec)) listingTextsCard

/-- THE TIED CARD OF 'timbrelaw16.ListingReads'. -/
def listingReadsCard : Claim7 := { stood := { row := listingReadsRow, standIns := [], harness := (true, "0bcc0ca1565952d306df43f170e78496dc45808117791b021e2df222fdc841f7"), looks := true }, kinds := [], alts := [], laidByText := true, laidKinds := [.data, .data, .data, .data, .sentinel, .sentinel, .sentinel, .sentinel, .sentinel, .sentinel, .sentinel, .sentinel, .sentinel, .sentinel, .sentinel, .sentinel, .sentinel, .sentinel, .sentinel, .sentinel, .sentinel, .sentinel, .sentinel, .sentinel, .sentinel, .data, .pinned], laidTests := true, laidLooks := .later }
def ListingReadsCardSaid : Prop := Claim7.holds Tryd.pinned (.plain (OpenSpec.ofChange listingReadsSpec)) listingReadsCard

/-- THE TIED CARD OF 'timbrelaw16.ListingBack'. -/
def listingBackCard : Claim7 := { stood := { row := listingBackRow, standIns := [], harness := (true, "0bcc0ca1565952d306df43f170e78496dc45808117791b021e2df222fdc841f7"), looks := true }, kinds := [], alts := [], laidByText := true, laidKinds := [.data, .data, .data, .data, .sentinel, .sentinel, .sentinel, .sentinel, .data, .pinned], laidTests := true, laidLooks := .later }
def ListingBackCardSaid : Prop := Claim7.holds Tryd.pinned (.plain (OpenSpec.ofChange listingBackSpec)) listingBackCard

/-- THE TIED CARD OF 'timbrelaw16.ListingCuts'. -/
def listingCutsCard : Claim7 := { stood := { row := listingCutsRow, standIns := [], harness := (true, "0bcc0ca1565952d306df43f170e78496dc45808117791b021e2df222fdc841f7"), looks := true }, kinds := [], alts := [], laidByText := true, laidKinds := [.data, .data, .data, .data, .sentinel, .sentinel, .sentinel, .sentinel, .data, .pinned], laidTests := true, laidLooks := .later }
def ListingCutsCardSaid : Prop := Claim7.holds Tryd.pinned (.plain (OpenSpec.ofChange listingCutsSpec)) listingCutsCard

/-- THE SECOND FORM's CARD OF 'timbrelaw16.ListingTexts'. -/
def listingTextsUptoCard : Claim7 := { stood := { row := listingTextsUptoRow, standIns := [], harness := (true, "0bcc0ca1565952d306df43f170e78496dc45808117791b021e2df222fdc841f7"), looks := true }, kinds := [], alts := [], laidByText := true, laidKinds := [.data, .data, .data, .sentinel, .sentinel, .sentinel, .sentinel, .sentinel, .sentinel, .sentinel, .sentinel, .sentinel, .sentinel, .sentinel, .sentinel, .sentinel, .sentinel, .sentinel, .sentinel, .sentinel, .sentinel, .sentinel, .data], laidTests := true, laidLooks := .later }
def ListingTextsUptoCardSaid : Prop := Claim7.holds Tryd.pinned (.plain (OpenSpec.upto listingTextsSpec)) listingTextsUptoCard

/-- THE SECOND FORM's CARD OF 'timbrelaw16.ListingReads'. -/
def listingReadsUptoCard : Claim7 := { stood := { row := listingReadsUptoRow, standIns := [], harness := (true, "0bcc0ca1565952d306df43f170e78496dc45808117791b021e2df222fdc841f7"), looks := true }, kinds := [], alts := [], laidByText := true, laidKinds := [.data, .data, .data, .data, .sentinel, .sentinel, .sentinel, .sentinel, .sentinel, .sentinel, .sentinel, .sentinel, .sentinel, .sentinel, .sentinel, .sentinel, .sentinel, .sentinel, .sentinel, .sentinel, .sentinel, .sentinel, .sentinel, .sentinel, .sentinel, .data, .pinned], laidTests := true, laidLooks := .later }
def ListingReadsUptoCardSaid : Prop := Claim7.holds Tryd.pinned (.plain (OpenSpec.upto listingReadsSpec)) listingReadsUptoCard

/-- THE SECOND FORM's CARD OF 'timbrelaw16.ListingBack'. -/
def listingBackUptoCard : Claim7 := { stood := { row := listingBackUptoRow, standIns := [], harness := (true, "0bcc0ca1565952d306df43f170e78496dc45808117791b021e2df222fdc841f7"), looks := true }, kinds := [], alts := [], laidByText := true, laidKinds := [.data, .data, .data, .data, .sentinel, .sentinel, .sentinel, .sentinel, .data, .pinned], laidTests := true, laidLooks := .later }
def ListingBackUptoCardSaid : Prop := Claim7.holds Tryd.pinned (.plain (OpenSpec.upto listingBackSpec)) listingBackUptoCard

/-- THE SECOND FORM's CARD OF 'timbrelaw16.ListingCuts'. -/
def listingCutsUptoCard : Claim7 := { stood := { row := listingCutsUptoRow, standIns := [], harness := (true, "0bcc0ca1565952d306df43f170e78496dc45808117791b021e2df222fdc841f7"), looks := true }, kinds := [], alts := [], laidByText := true, laidKinds := [.data, .data, .data, .data, .sentinel, .sentinel, .sentinel, .sentinel, .data, .pinned], laidTests := true, laidLooks := .later }
def ListingCutsUptoCardSaid : Prop := Claim7.holds Tryd.pinned (.plain (OpenSpec.upto listingCutsSpec)) listingCutsUptoCard
end Rows
end Go.Proofs.YtgkmmbdlclecnaaDoor
