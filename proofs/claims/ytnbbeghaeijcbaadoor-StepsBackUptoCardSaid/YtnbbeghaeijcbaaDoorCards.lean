/-
  DERIVED. GIVEN WITH THE SEED: THE CARDS: each row of YtnbbeghaeijcbaaDoorRows.lean that lists a variable, with what it lists TIED to the program's text (the seventh form; the later family's looks); each row that meets fmt, with fmt's text TOLD by the authors' own Lean function (tested against real Go, not proved from fmt's source: count such statements apart). THE CARD IS WHAT COUNTS. Prove the row's statement (the work); the ties are given (YtnbbeghaeijcbaaDoorTie.lean); close each card by the builder's one call (the guide's Derived/Test/ToyasCard.lean, 'card_holds'). Laid BY PROGRAM, IN A SANDBOX (cutbox-door.mjs). By AI agents, Wed Nov 11 2026. No macro, syntax, notation, axiom, sorry.
-/
import Derived.Test.YtnbbeghaeijcbaaDoorRows
import GoSem.ClaimSeven
namespace Go.Proofs.YtnbbeghaeijcbaaDoor
namespace Rows

/-- THE TIED CARD OF 'timbrelaw15.StepsForms'. -/
def stepsFormsCard : Claim7 := { stood := { row := stepsFormsRow, standIns := [], harness := (true, "648a122324db09d4c6d373f07ad61e668e8361e669db18f242e44d0317526028"), looks := true }, kinds := [], alts := [], laidByText := true, laidKinds := [.sentinel, .sentinel, .sentinel, .sentinel, .sentinel, .sentinel, .sentinel, .sentinel, .sentinel, .sentinel, .sentinel, .sentinel, .sentinel, .sentinel, .sentinel, .sentinel, .sentinel, .sentinel, .sentinel, .data], laidTests := true, laidLooks := .later }
def StepsFormsCardSaid : Prop := Claim7.holds Tryd.pinned (.plain (OpenSpec.ofChange stepsFormsSpec)) stepsFormsCard

/-- THE TIED CARD OF 'timbrelaw15.StepsEncodes'. -/
def stepsEncodesCard : Claim7 := { stood := { row := stepsEncodesRow, standIns := [], harness := (true, "648a122324db09d4c6d373f07ad61e668e8361e669db18f242e44d0317526028"), looks := true }, kinds := [], alts := [], laidByText := true, laidKinds := [.sentinel, .sentinel, .sentinel, .sentinel, .sentinel, .sentinel, .sentinel, .sentinel, .sentinel, .sentinel, .sentinel, .sentinel, .sentinel, .sentinel, .sentinel, .sentinel, .sentinel, .sentinel, .sentinel, .data], laidTests := true, laidLooks := .later }
def StepsEncodesCardSaid : Prop := Claim7.holds Tryd.pinned (.plain (OpenSpec.ofChange stepsEncodesSpec)) stepsEncodesCard

/-- THE TIED CARD OF 'timbrelaw15.StepsDecodes'. -/
def stepsDecodesCard : Claim7 := { stood := { row := stepsDecodesRow, standIns := [], harness := (true, "648a122324db09d4c6d373f07ad61e668e8361e669db18f242e44d0317526028"), looks := true }, kinds := [], alts := [], laidByText := true, laidKinds := [.sentinel, .sentinel, .sentinel, .sentinel, .sentinel, .sentinel, .sentinel, .sentinel, .sentinel, .sentinel, .sentinel, .sentinel, .sentinel, .sentinel, .sentinel, .sentinel, .sentinel, .sentinel, .sentinel, .data], laidTests := true, laidLooks := .later }
def StepsDecodesCardSaid : Prop := Claim7.holds Tryd.pinned (.plain (OpenSpec.ofChange stepsDecodesSpec)) stepsDecodesCard

/-- THE TIED CARD OF 'timbrelaw15.StepsBack'. -/
def stepsBackCard : Claim7 := { stood := { row := stepsBackRow, standIns := [], harness := (true, "648a122324db09d4c6d373f07ad61e668e8361e669db18f242e44d0317526028"), looks := true }, kinds := [], alts := [], laidByText := true, laidKinds := [.sentinel, .sentinel, .sentinel, .sentinel, .sentinel, .sentinel, .sentinel, .sentinel, .sentinel, .sentinel, .sentinel, .sentinel, .sentinel, .sentinel, .sentinel, .sentinel, .sentinel, .sentinel, .sentinel, .data], laidTests := true, laidLooks := .later }
def StepsBackCardSaid : Prop := Claim7.holds Tryd.pinned (.plain (OpenSpec.ofChange stepsBackSpec)) stepsBackCard

/-- THE TIED CARD OF 'timbrelaw15.StepsFields'. -/
def stepsFieldsCard : Claim7 := { stood := { row := stepsFieldsRow, standIns := [], harness := (true, "648a122324db09d4c6d373f07ad61e668e8361e669db18f242e44d0317526028"), looks := true }, kinds := [], alts := [], laidByText := true, laidKinds := [.sentinel, .sentinel, .sentinel, .sentinel, .sentinel, .data], laidTests := true, laidLooks := .later }
def StepsFieldsCardSaid : Prop := Claim7.holds Tryd.pinned (.plain (OpenSpec.ofChange stepsFieldsSpec)) stepsFieldsCard

/-- THE TIED CARD OF 'timbrelaw15.StepsSame'. -/
def stepsSameCard : Claim7 := { stood := { row := stepsSameRow, standIns := [], harness := (true, "648a122324db09d4c6d373f07ad61e668e8361e669db18f242e44d0317526028"), looks := true }, kinds := [], alts := [], laidByText := true, laidKinds := [.sentinel, .sentinel, .sentinel, .sentinel, .sentinel, .data], laidTests := true, laidLooks := .later }
def StepsSameCardSaid : Prop := Claim7.holds Tryd.pinned (.plain (OpenSpec.ofChange stepsSameSpec)) stepsSameCard

/-- THE TIED CARD OF 'timbrelaw15.StepsNames'. -/
def stepsNamesCard : Claim7 := { stood := { row := stepsNamesRow, standIns := [], harness := (true, "648a122324db09d4c6d373f07ad61e668e8361e669db18f242e44d0317526028"), looks := true }, kinds := [], alts := [], laidByText := true, laidKinds := [.sentinel, .sentinel, .sentinel, .sentinel, .sentinel, .data], laidTests := true, laidLooks := .later }
def StepsNamesCardSaid : Prop := Claim7.holds Tryd.pinned (.plain (OpenSpec.ofChange stepsNamesSpec)) stepsNamesCard

/-- THE SECOND FORM's CARD OF 'timbrelaw15.StepsForms'. -/
def stepsFormsUptoCard : Claim7 := { stood := { row := stepsFormsUptoRow, standIns := [], harness := (true, "648a122324db09d4c6d373f07ad61e668e8361e669db18f242e44d0317526028"), looks := true }, kinds := [], alts := [], laidByText := true, laidKinds := [.sentinel, .sentinel, .sentinel, .sentinel, .sentinel, .sentinel, .sentinel, .sentinel, .sentinel, .sentinel, .sentinel, .sentinel, .sentinel, .sentinel, .sentinel, .sentinel, .sentinel, .sentinel, .sentinel, .data], laidTests := true, laidLooks := .later }
def StepsFormsUptoCardSaid : Prop := Claim7.holds Tryd.pinned (.plain (OpenSpec.upto stepsFormsSpec)) stepsFormsUptoCard

/-- THE SECOND FORM's CARD OF 'timbrelaw15.StepsEncodes'. -/
def stepsEncodesUptoCard : Claim7 := { stood := { row := stepsEncodesUptoRow, standIns := [], harness := (true, "648a122324db09d4c6d373f07ad61e668e8361e669db18f242e44d0317526028"), looks := true }, kinds := [], alts := [], laidByText := true, laidKinds := [.sentinel, .sentinel, .sentinel, .sentinel, .sentinel, .sentinel, .sentinel, .sentinel, .sentinel, .sentinel, .sentinel, .sentinel, .sentinel, .sentinel, .sentinel, .sentinel, .sentinel, .sentinel, .sentinel, .data], laidTests := true, laidLooks := .later }
def StepsEncodesUptoCardSaid : Prop := Claim7.holds Tryd.pinned (.plain (OpenSpec.upto stepsEncodesSpec)) stepsEncodesUptoCard

/-- THE SECOND FORM's CARD OF 'timbrelaw15.StepsDecodes'. -/
def stepsDecodesUptoCard : Claim7 := { stood := { row := stepsDecodesUptoRow, standIns := [], harness := (true, "648a122324db09d4c6d373f07ad61e668e8361e669db18f242e44d0317526028"), looks := true }, kinds := [], alts := [], laidByText := true, laidKinds := [.sentinel, .sentinel, .sentinel, .sentinel, .sentinel, .sentinel, .sentinel, .sentinel, .sentinel, .sentinel, .sentinel, .sentinel, .sentinel, .sentinel, .sentinel, .sentinel, .sentinel, .sentinel, .sentinel, .data], laidTests := true, laidLooks := .later }
def StepsDecodesUptoCardSaid : Prop := Claim7.holds Tryd.pinned (.plain (OpenSpec.upto stepsDecodesSpec)) stepsDecodesUptoCard

/-- THE SECOND FORM's CARD OF 'timbrelaw15.StepsBack'. -/
def stepsBackUptoCard : Claim7 := { stood := { row := stepsBackUptoRow, standIns := [], harness := (true, "648a122324db09d4c6d373f07ad61e668e8361e669db18f242e44d0317526028"), looks := true }, kinds := [], alts := [], laidByText := true, laidKinds := [.sentinel, .sentinel, .sentinel, .sentinel, .sentinel, .sentinel, .sentinel, .sentinel, .sentinel, .sentinel, .sentinel, .sentinel, .sentinel, .sentinel, .sentinel, .sentinel, .sentinel, .sentinel, .sentinel, .data], laidTests := true, laidLooks := .later }
def StepsBackUptoCardSaid : Prop := Claim7.holds Tryd.pinned (.plain (OpenSpec.upto stepsBackSpec)) stepsBackUptoCard

/-- THE SECOND FORM's CARD OF 'timbrelaw15.StepsFields'. -/
def stepsFieldsUptoCard : Claim7 := { stood := { row := stepsFieldsUptoRow, standIns := [], harness := (true, "648a122324db09d4c6d373f07ad61e668e8361e669db18f242e44d0317526028"), looks := true }, kinds := [], alts := [], laidByText := true, laidKinds := [.sentinel, .sentinel, .sentinel, .sentinel, .sentinel, .data], laidTests := true, laidLooks := .later }
def StepsFieldsUptoCardSaid : Prop := Claim7.holds Tryd.pinned (.plain (OpenSpec.upto stepsFieldsSpec)) stepsFieldsUptoCard

/-- THE SECOND FORM's CARD OF 'timbrelaw15.StepsSame'. -/
def stepsSameUptoCard : Claim7 := { stood := { row := stepsSameUptoRow, standIns := [], harness := (true, "648a122324db09d4c6d373f07ad61e668e8361e669db18f242e44d0317526028"), looks := true }, kinds := [], alts := [], laidByText := true, laidKinds := [.sentinel, .sentinel, .sentinel, .sentinel, .sentinel, .data], laidTests := true, laidLooks := .later }
def StepsSameUptoCardSaid : Prop := Claim7.holds Tryd.pinned (.plain (OpenSpec.upto stepsSameSpec)) stepsSameUptoCard

/-- THE SECOND FORM's CARD OF 'timbrelaw15.StepsNames'. -/
def stepsNamesUptoCard : Claim7 := { stood := { row := stepsNamesUptoRow, standIns := [], harness := (true, "648a122324db09d4c6d373f07ad61e668e8361e669db18f242e44d0317526028"), looks := true }, kinds := [], alts := [], laidByText := true, laidKinds := [.sentinel, .sentinel, .sentinel, .sentinel, .sentinel, .data], laidTests := true, laidLooks := .later }
def StepsNamesUptoCardSaid : Prop := Claim7.holds Tryd.pinned (.plain (OpenSpec.upto stepsNamesSpec)) stepsNamesUptoCard
end Rows
end Go.Proofs.YtnbbeghaeijcbaaDoor
