/-
  DERIVED. GIVEN WITH THE SEED: THE CARDS: each row of YtmppcnbkfjeabaaDoorRows.lean that lists a variable, with what it lists TIED to the program's text (the seventh form; the later family's looks); each row that meets fmt, with fmt's text TOLD by the authors' own Lean function (tested against real Go, not proved from fmt's source: count such statements apart). THE CARD IS WHAT COUNTS. Prove the row's statement (the work); the ties are given (YtmppcnbkfjeabaaDoorTie.lean); close each card by the builder's one call (the guide's Derived/Test/ToyasCard.lean, 'card_holds'). Laid BY PROGRAM, IN A SANDBOX (cutbox-door.mjs). By AI agents, Wed Nov 11 2026. No macro, syntax, notation, axiom, sorry.
-/
import Derived.Test.YtmppcnbkfjeabaaDoorRows
import GoSem.ClaimSeven
namespace Go.Proofs.YtmppcnbkfjeabaaDoor
namespace Rows

/-- THE TIED CARD OF 'timbrelaw08.TablesRoots'. -/
def tablesRootsCard : Claim7 := { stood := { row := tablesRootsRow, standIns := [], harness := (true, "29d737c4a80f23e15cd34cd3360e52561c03996ce45858144ad1cd4aac42bfeb"), looks := true }, kinds := [], alts := [], laidByText := true, laidKinds := [.sentinel, .sentinel, .sentinel, .sentinel, .sentinel, .sentinel, .sentinel, .sentinel, .sentinel, .sentinel, .sentinel, .sentinel, .sentinel, .sentinel, .sentinel, .sentinel, .sentinel, .sentinel, .sentinel], laidTests := true, laidLooks := .later }
def TablesRootsCardSaid : Prop := Claim7.holds Tryd.pinned (.plain (OpenSpec.ofChange tablesRootsSpec)) tablesRootsCard

/-- THE TIED CARD OF 'timbrelaw08.TablesCounts'. -/
def tablesCountsCard : Claim7 := { stood := { row := tablesCountsRow, standIns := [], harness := (true, "29d737c4a80f23e15cd34cd3360e52561c03996ce45858144ad1cd4aac42bfeb"), looks := true }, kinds := [], alts := [], laidByText := true, laidKinds := [.sentinel, .sentinel, .sentinel, .sentinel, .sentinel, .sentinel, .sentinel, .sentinel, .sentinel, .sentinel, .sentinel, .sentinel, .sentinel, .sentinel, .sentinel, .sentinel, .sentinel, .sentinel, .sentinel], laidTests := true, laidLooks := .later }
def TablesCountsCardSaid : Prop := Claim7.holds Tryd.pinned (.plain (OpenSpec.ofChange tablesCountsSpec)) tablesCountsCard

/-- THE TIED CARD OF 'timbrelaw08.TablesPlays'. -/
def tablesPlaysCard : Claim7 := { stood := { row := tablesPlaysRow, standIns := [], harness := (true, "29d737c4a80f23e15cd34cd3360e52561c03996ce45858144ad1cd4aac42bfeb"), looks := true }, kinds := [], alts := [], laidByText := true, laidKinds := [.sentinel, .sentinel, .sentinel, .sentinel, .sentinel, .sentinel, .sentinel, .sentinel, .sentinel, .sentinel, .sentinel, .sentinel, .sentinel, .sentinel, .sentinel, .sentinel, .sentinel, .sentinel, .sentinel], laidTests := true, laidLooks := .later }
def TablesPlaysCardSaid : Prop := Claim7.holds Tryd.pinned (.plain (OpenSpec.ofChange tablesPlaysSpec)) tablesPlaysCard

/-- THE TIED CARD OF 'timbrelaw08.TablesMemory'. -/
def tablesMemoryCard : Claim7 := { stood := { row := tablesMemoryRow, standIns := [], harness := (true, "29d737c4a80f23e15cd34cd3360e52561c03996ce45858144ad1cd4aac42bfeb"), looks := true }, kinds := [], alts := [], laidByText := true, laidKinds := [.sentinel, .sentinel, .sentinel, .sentinel, .sentinel, .sentinel, .sentinel, .sentinel, .sentinel, .sentinel, .sentinel, .sentinel, .sentinel, .sentinel, .sentinel, .sentinel, .sentinel, .sentinel, .sentinel], laidTests := true, laidLooks := .later }
def TablesMemoryCardSaid : Prop := Claim7.holds Tryd.pinned (.plain (OpenSpec.ofChange tablesMemorySpec)) tablesMemoryCard

/-- THE SECOND FORM's CARD OF 'timbrelaw08.TablesRoots'. -/
def tablesRootsUptoCard : Claim7 := { stood := { row := tablesRootsUptoRow, standIns := [], harness := (true, "29d737c4a80f23e15cd34cd3360e52561c03996ce45858144ad1cd4aac42bfeb"), looks := true }, kinds := [], alts := [], laidByText := true, laidKinds := [.sentinel, .sentinel, .sentinel, .sentinel, .sentinel, .sentinel, .sentinel, .sentinel, .sentinel, .sentinel, .sentinel, .sentinel, .sentinel, .sentinel, .sentinel, .sentinel, .sentinel, .sentinel, .sentinel], laidTests := true, laidLooks := .later }
def TablesRootsUptoCardSaid : Prop := Claim7.holds Tryd.pinned (.plain (OpenSpec.upto tablesRootsSpec)) tablesRootsUptoCard

/-- THE SECOND FORM's CARD OF 'timbrelaw08.TablesCounts'. -/
def tablesCountsUptoCard : Claim7 := { stood := { row := tablesCountsUptoRow, standIns := [], harness := (true, "29d737c4a80f23e15cd34cd3360e52561c03996ce45858144ad1cd4aac42bfeb"), looks := true }, kinds := [], alts := [], laidByText := true, laidKinds := [.sentinel, .sentinel, .sentinel, .sentinel, .sentinel, .sentinel, .sentinel, .sentinel, .sentinel, .sentinel, .sentinel, .sentinel, .sentinel, .sentinel, .sentinel, .sentinel, .sentinel, .sentinel, .sentinel], laidTests := true, laidLooks := .later }
def TablesCountsUptoCardSaid : Prop := Claim7.holds Tryd.pinned (.plain (OpenSpec.upto tablesCountsSpec)) tablesCountsUptoCard

/-- THE SECOND FORM's CARD OF 'timbrelaw08.TablesPlays'. -/
def tablesPlaysUptoCard : Claim7 := { stood := { row := tablesPlaysUptoRow, standIns := [], harness := (true, "29d737c4a80f23e15cd34cd3360e52561c03996ce45858144ad1cd4aac42bfeb"), looks := true }, kinds := [], alts := [], laidByText := true, laidKinds := [.sentinel, .sentinel, .sentinel, .sentinel, .sentinel, .sentinel, .sentinel, .sentinel, .sentinel, .sentinel, .sentinel, .sentinel, .sentinel, .sentinel, .sentinel, .sentinel, .sentinel, .sentinel, .sentinel], laidTests := true, laidLooks := .later }
def TablesPlaysUptoCardSaid : Prop := Claim7.holds Tryd.pinned (.plain (OpenSpec.upto tablesPlaysSpec)) tablesPlaysUptoCard

/-- THE SECOND FORM's CARD OF 'timbrelaw08.TablesMemory'. -/
def tablesMemoryUptoCard : Claim7 := { stood := { row := tablesMemoryUptoRow, standIns := [], harness := (true, "29d737c4a80f23e15cd34cd3360e52561c03996ce45858144ad1cd4aac42bfeb"), looks := true }, kinds := [], alts := [], laidByText := true, laidKinds := [.sentinel, .sentinel, .sentinel, .sentinel, .sentinel, .sentinel, .sentinel, .sentinel, .sentinel, .sentinel, .sentinel, .sentinel, .sentinel, .sentinel, .sentinel, .sentinel, .sentinel, .sentinel, .sentinel], laidTests := true, laidLooks := .later }
def TablesMemoryUptoCardSaid : Prop := Claim7.holds Tryd.pinned (.plain (OpenSpec.upto tablesMemorySpec)) tablesMemoryUptoCard
end Rows
end Go.Proofs.YtmppcnbkfjeabaaDoor
