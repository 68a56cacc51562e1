/-
  DERIVED. GIVEN WITH THE SEED: THE CARDS: each row of YtinbeaaloailnaaDoorRows.lean that lists a variable, with what it lists TIED to the program's text (the seventh form; the later family's looks); each row that meets fmt, with fmt's text TOLD by the authors' own Lean function (tested against real Go, not proved from fmt's source: count such statements apart). THE CARD IS WHAT COUNTS. Prove the row's statement (the work); the ties are given (YtinbeaaloailnaaDoorTie.lean); close each card by the builder's one call (the guide's Derived/Test/ToyasCard.lean, 'card_holds'). Laid BY PROGRAM, IN A SANDBOX (cutbox-door.mjs). By AI agents, Wed Nov 11 2026. No macro, syntax, notation, axiom, sorry.
-/
import Derived.Test.YtinbeaaloailnaaDoorRows
import GoSem.ClaimSeven
namespace Go.Proofs.YtinbeaaloailnaaDoor
namespace Rows

/-- THE TIED CARD OF 'timbrelaw12.OrderParses'. -/
def orderParsesCard : Claim7 := { stood := { row := orderParsesRow, standIns := [], harness := (true, "adca8408a363d4656ed16fd7d30a8de6eb6461e6d9926015558c44e704b82c22"), looks := true }, kinds := [], alts := [], laidByText := true, laidKinds := [.data, .data, .data, .sentinel, .sentinel, .sentinel, .sentinel, .sentinel, .sentinel, .sentinel, .sentinel, .sentinel, .sentinel, .sentinel, .sentinel, .sentinel, .sentinel, .sentinel, .sentinel, .sentinel, .sentinel, .sentinel], laidTests := true, laidLooks := .later }
def OrderParsesCardSaid : Prop := Claim7.holds Tryd.pinned (.plain (OpenSpec.ofChange orderParsesSpec)) orderParsesCard

/-- THE TIED CARD OF 'timbrelaw12.OrderPlaces'. -/
def orderPlacesCard : Claim7 := { stood := { row := orderPlacesRow, standIns := [], harness := (true, "adca8408a363d4656ed16fd7d30a8de6eb6461e6d9926015558c44e704b82c22"), looks := true }, kinds := [], alts := [], laidByText := true, laidKinds := [.data, .data, .data, .sentinel, .sentinel, .sentinel], laidTests := true, laidLooks := .later }
def OrderPlacesCardSaid : Prop := Claim7.holds Tryd.pinned (.plain (OpenSpec.ofChange orderPlacesSpec)) orderPlacesCard

/-- THE TIED CARD OF 'timbrelaw12.OrderBack'. -/
def orderBackCard : Claim7 := { stood := { row := orderBackRow, standIns := [], harness := (true, "adca8408a363d4656ed16fd7d30a8de6eb6461e6d9926015558c44e704b82c22"), looks := true }, kinds := [], alts := [], laidByText := true, laidKinds := [.data, .data, .data, .sentinel, .sentinel, .sentinel], laidTests := true, laidLooks := .later }
def OrderBackCardSaid : Prop := Claim7.holds Tryd.pinned (.plain (OpenSpec.ofChange orderBackSpec)) orderBackCard

/-- THE TIED CARD OF 'timbrelaw12.OrderOwns'. -/
def orderOwnsCard : Claim7 := { stood := { row := orderOwnsRow, standIns := [], harness := (true, "adca8408a363d4656ed16fd7d30a8de6eb6461e6d9926015558c44e704b82c22"), looks := true }, kinds := [], alts := [], laidByText := true, laidKinds := [.data, .data, .data, .sentinel, .sentinel, .sentinel], laidTests := true, laidLooks := .later }
def OrderOwnsCardSaid : Prop := Claim7.holds Tryd.pinned (.plain (OpenSpec.ofChange orderOwnsSpec)) orderOwnsCard

/-- THE TIED CARD OF 'timbrelaw12.OrderAsks'. -/
def orderAsksCard : Claim7 := { stood := { row := orderAsksRow, standIns := [], harness := (true, "adca8408a363d4656ed16fd7d30a8de6eb6461e6d9926015558c44e704b82c22"), looks := true }, kinds := [], alts := [], laidByText := true, laidKinds := [.data, .data, .data, .sentinel, .sentinel, .sentinel, .sentinel, .sentinel, .sentinel, .sentinel, .sentinel, .sentinel, .sentinel, .sentinel, .sentinel, .sentinel, .sentinel, .sentinel, .sentinel, .sentinel, .sentinel, .sentinel], laidTests := true, laidLooks := .later }
def OrderAsksCardSaid : Prop := Claim7.holds Tryd.pinned (.plain (OpenSpec.ofChange orderAsksSpec)) orderAsksCard

/-- THE TIED CARD OF 'timbrelaw12.OrderTrees'. -/
def orderTreesCard : Claim7 := { stood := { row := orderTreesRow, standIns := [], harness := (true, "adca8408a363d4656ed16fd7d30a8de6eb6461e6d9926015558c44e704b82c22"), looks := true }, kinds := [], alts := [], laidByText := true, laidKinds := [.data, .data, .data, .sentinel, .sentinel, .sentinel], laidTests := true, laidLooks := .later }
def OrderTreesCardSaid : Prop := Claim7.holds Tryd.pinned (.plain (OpenSpec.ofChange orderTreesSpec)) orderTreesCard

/-- THE SECOND FORM's CARD OF 'timbrelaw12.OrderParses'. -/
def orderParsesUptoCard : Claim7 := { stood := { row := orderParsesUptoRow, standIns := [], harness := (true, "adca8408a363d4656ed16fd7d30a8de6eb6461e6d9926015558c44e704b82c22"), looks := true }, kinds := [], alts := [], laidByText := true, laidKinds := [.data, .data, .data, .sentinel, .sentinel, .sentinel, .sentinel, .sentinel, .sentinel, .sentinel, .sentinel, .sentinel, .sentinel, .sentinel, .sentinel, .sentinel, .sentinel, .sentinel, .sentinel, .sentinel, .sentinel, .sentinel], laidTests := true, laidLooks := .later }
def OrderParsesUptoCardSaid : Prop := Claim7.holds Tryd.pinned (.plain (OpenSpec.upto orderParsesSpec)) orderParsesUptoCard

/-- THE SECOND FORM's CARD OF 'timbrelaw12.OrderPlaces'. -/
def orderPlacesUptoCard : Claim7 := { stood := { row := orderPlacesUptoRow, standIns := [], harness := (true, "adca8408a363d4656ed16fd7d30a8de6eb6461e6d9926015558c44e704b82c22"), looks := true }, kinds := [], alts := [], laidByText := true, laidKinds := [.data, .data, .data, .sentinel, .sentinel, .sentinel], laidTests := true, laidLooks := .later }
def OrderPlacesUptoCardSaid : Prop := Claim7.holds Tryd.pinned (.plain (OpenSpec.upto orderPlacesSpec)) orderPlacesUptoCard

/-- THE SECOND FORM's CARD OF 'timbrelaw12.OrderBack'. -/
def orderBackUptoCard : Claim7 := { stood := { row := orderBackUptoRow, standIns := [], harness := (true, "adca8408a363d4656ed16fd7d30a8de6eb6461e6d9926015558c44e704b82c22"), looks := true }, kinds := [], alts := [], laidByText := true, laidKinds := [.data, .data, .data, .sentinel, .sentinel, .sentinel], laidTests := true, laidLooks := .later }
def OrderBackUptoCardSaid : Prop := Claim7.holds Tryd.pinned (.plain (OpenSpec.upto orderBackSpec)) orderBackUptoCard

/-- THE SECOND FORM's CARD OF 'timbrelaw12.OrderOwns'. -/
def orderOwnsUptoCard : Claim7 := { stood := { row := orderOwnsUptoRow, standIns := [], harness := (true, "adca8408a363d4656ed16fd7d30a8de6eb6461e6d9926015558c44e704b82c22"), looks := true }, kinds := [], alts := [], laidByText := true, laidKinds := [.data, .data, .data, .sentinel, .sentinel, .sentinel], laidTests := true, laidLooks := .later }
def OrderOwnsUptoCardSaid : Prop := Claim7.holds Tryd.pinned (.plain (OpenSpec.upto orderOwnsSpec)) orderOwnsUptoCard

/-- THE SECOND FORM's CARD OF 'timbrelaw12.OrderAsks'. -/
def orderAsksUptoCard : Claim7 := { stood := { row := orderAsksUptoRow, standIns := [], harness := (true, "adca8408a363d4656ed16fd7d30a8de6eb6461e6d9926015558c44e704b82c22"), looks := true }, kinds := [], alts := [], laidByText := true, laidKinds := [.data, .data, .data, .sentinel, .sentinel, .sentinel, .sentinel, .sentinel, .sentinel, .sentinel, .sentinel, .sentinel, .sentinel, .sentinel, .sentinel, .sentinel, .sentinel, .sentinel, .sentinel, .sentinel, .sentinel, .sentinel], laidTests := true, laidLooks := .later }
def OrderAsksUptoCardSaid : Prop := Claim7.holds Tryd.pinned (.plain (OpenSpec.upto orderAsksSpec)) orderAsksUptoCard

/-- THE SECOND FORM's CARD OF 'timbrelaw12.OrderTrees'. -/
def orderTreesUptoCard : Claim7 := { stood := { row := orderTreesUptoRow, standIns := [], harness := (true, "adca8408a363d4656ed16fd7d30a8de6eb6461e6d9926015558c44e704b82c22"), looks := true }, kinds := [], alts := [], laidByText := true, laidKinds := [.data, .data, .data, .sentinel, .sentinel, .sentinel], laidTests := true, laidLooks := .later }
def OrderTreesUptoCardSaid : Prop := Claim7.holds Tryd.pinned (.plain (OpenSpec.upto orderTreesSpec)) orderTreesUptoCard
end Rows
end Go.Proofs.YtinbeaaloailnaaDoor
