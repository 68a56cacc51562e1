/-
  DERIVED. GIVEN WITH THE SEED: THE CARDS: each row of YtafhajgebhicdaaDoorRows.lean that lists a variable, with what it lists TIED to the program's text (the seventh form; the later family's looks); each row that meets fmt, with fmt's text TOLD by the authors' own Lean function (tested against real Go, not proved from fmt's source: count such statements apart). THE CARD IS WHAT COUNTS. Prove the row's statement (the work); the ties are given (YtafhajgebhicdaaDoorTie.lean); close each card by the builder's one call (the guide's Derived/Test/ToyasCard.lean, 'card_holds'). Laid BY PROGRAM, IN A SANDBOX (cutbox-door.mjs). By AI agents, Wed Nov 11 2026. No macro, syntax, notation, axiom, sorry.
-/
import Derived.Test.YtafhajgebhicdaaDoorRows
import GoSem.ClaimSeven
namespace Go.Proofs.YtafhajgebhicdaaDoor
namespace Rows

/-- THE TIED CARD OF 'timbrelaw18.CheckPrograms'. -/
def checkProgramsCard : Claim7 := { stood := { row := checkProgramsRow, standIns := [], harness := (true, "120dd864f30b307efc263fa831369bd4c98c43ff956f58eedfffac51f3dbd3bb"), looks := true }, kinds := [], alts := [], laidByText := true, laidKinds := [.sentinel, .sentinel, .sentinel, .sentinel, .sentinel, .sentinel, .sentinel, .sentinel, .sentinel, .sentinel, .sentinel, .sentinel, .sentinel, .sentinel, .sentinel, .sentinel, .sentinel, .sentinel, .sentinel, .data], laidTests := true, laidLooks := .later }
def CheckProgramsCardSaid : Prop := Claim7.holds Tryd.pinned (.plain (OpenSpec.ofChange checkProgramsSpec)) checkProgramsCard

/-- THE TIED CARD OF 'timbrelaw18.CheckActs'. -/
def checkActsCard : Claim7 := { stood := { row := checkActsRow, standIns := [], harness := (true, "120dd864f30b307efc263fa831369bd4c98c43ff956f58eedfffac51f3dbd3bb"), looks := true }, kinds := [], alts := [], laidByText := true, laidKinds := [.sentinel, .sentinel, .sentinel, .sentinel, .sentinel, .sentinel, .sentinel, .sentinel, .sentinel, .sentinel, .sentinel, .sentinel, .sentinel, .sentinel, .sentinel, .sentinel, .sentinel, .sentinel, .sentinel, .data], laidTests := true, laidLooks := .later }
def CheckActsCardSaid : Prop := Claim7.holds Tryd.pinned (.plain (OpenSpec.ofChange checkActsSpec)) checkActsCard

/-- THE TIED CARD OF 'timbrelaw18.CheckTouched'. -/
def checkTouchedCard : Claim7 := { stood := { row := checkTouchedRow, standIns := [], harness := (true, "120dd864f30b307efc263fa831369bd4c98c43ff956f58eedfffac51f3dbd3bb"), looks := true }, kinds := [], alts := [], laidByText := true, laidKinds := [.sentinel, .sentinel, .sentinel, .sentinel, .sentinel, .sentinel, .sentinel, .sentinel, .sentinel, .sentinel, .sentinel, .sentinel, .sentinel, .sentinel, .sentinel, .sentinel, .sentinel, .sentinel, .sentinel, .data], laidTests := true, laidLooks := .later }
def CheckTouchedCardSaid : Prop := Claim7.holds Tryd.pinned (.plain (OpenSpec.ofChange checkTouchedSpec)) checkTouchedCard

/-- THE TIED CARD OF 'timbrelaw18.CheckBeginnings'. -/
def checkBeginningsCard : Claim7 := { stood := { row := checkBeginningsRow, standIns := [], harness := (true, "120dd864f30b307efc263fa831369bd4c98c43ff956f58eedfffac51f3dbd3bb"), looks := true }, kinds := [], alts := [], laidByText := true, laidKinds := [.sentinel, .sentinel, .sentinel, .sentinel, .sentinel, .sentinel, .sentinel, .sentinel, .sentinel, .sentinel, .sentinel, .sentinel, .sentinel, .sentinel, .sentinel, .sentinel, .sentinel, .sentinel, .sentinel, .data], laidTests := true, laidLooks := .later }
def CheckBeginningsCardSaid : Prop := Claim7.holds Tryd.pinned (.plain (OpenSpec.ofChange checkBeginningsSpec)) checkBeginningsCard

/-- THE TIED CARD OF 'timbrelaw18.CheckApart'. -/
def checkApartCard : Claim7 := { stood := { row := checkApartRow, standIns := [], harness := (true, "120dd864f30b307efc263fa831369bd4c98c43ff956f58eedfffac51f3dbd3bb"), looks := true }, kinds := [], alts := [], laidByText := true, laidKinds := [.sentinel, .sentinel, .sentinel, .sentinel, .sentinel, .sentinel, .sentinel, .sentinel, .sentinel, .sentinel, .sentinel, .sentinel, .sentinel, .sentinel, .sentinel, .sentinel, .sentinel, .sentinel, .sentinel, .data], laidTests := true, laidLooks := .later }
def CheckApartCardSaid : Prop := Claim7.holds Tryd.pinned (.plain (OpenSpec.ofChange checkApartSpec)) checkApartCard

/-- THE SECOND FORM's CARD OF 'timbrelaw18.CheckPrograms'. -/
def checkProgramsUptoCard : Claim7 := { stood := { row := checkProgramsUptoRow, standIns := [], harness := (true, "120dd864f30b307efc263fa831369bd4c98c43ff956f58eedfffac51f3dbd3bb"), looks := true }, kinds := [], alts := [], laidByText := true, laidKinds := [.sentinel, .sentinel, .sentinel, .sentinel, .sentinel, .sentinel, .sentinel, .sentinel, .sentinel, .sentinel, .sentinel, .sentinel, .sentinel, .sentinel, .sentinel, .sentinel, .sentinel, .sentinel, .sentinel, .data], laidTests := true, laidLooks := .later }
def CheckProgramsUptoCardSaid : Prop := Claim7.holds Tryd.pinned (.plain (OpenSpec.upto checkProgramsSpec)) checkProgramsUptoCard

/-- THE SECOND FORM's CARD OF 'timbrelaw18.CheckActs'. -/
def checkActsUptoCard : Claim7 := { stood := { row := checkActsUptoRow, standIns := [], harness := (true, "120dd864f30b307efc263fa831369bd4c98c43ff956f58eedfffac51f3dbd3bb"), looks := true }, kinds := [], alts := [], laidByText := true, laidKinds := [.sentinel, .sentinel, .sentinel, .sentinel, .sentinel, .sentinel, .sentinel, .sentinel, .sentinel, .sentinel, .sentinel, .sentinel, .sentinel, .sentinel, .sentinel, .sentinel, .sentinel, .sentinel, .sentinel, .data], laidTests := true, laidLooks := .later }
def CheckActsUptoCardSaid : Prop := Claim7.holds Tryd.pinned (.plain (OpenSpec.upto checkActsSpec)) checkActsUptoCard

/-- THE SECOND FORM's CARD OF 'timbrelaw18.CheckTouched'. -/
def checkTouchedUptoCard : Claim7 := { stood := { row := checkTouchedUptoRow, standIns := [], harness := (true, "120dd864f30b307efc263fa831369bd4c98c43ff956f58eedfffac51f3dbd3bb"), looks := true }, kinds := [], alts := [], laidByText := true, laidKinds := [.sentinel, .sentinel, .sentinel, .sentinel, .sentinel, .sentinel, .sentinel, .sentinel, .sentinel, .sentinel, .sentinel, .sentinel, .sentinel, .sentinel, .sentinel, .sentinel, .sentinel, .sentinel, .sentinel, .data], laidTests := true, laidLooks := .later }
def CheckTouchedUptoCardSaid : Prop := Claim7.holds Tryd.pinned (.plain (OpenSpec.upto checkTouchedSpec)) checkTouchedUptoCard

/-- THE SECOND FORM's CARD OF 'timbrelaw18.CheckBeginnings'. -/
def checkBeginningsUptoCard : Claim7 := { stood := { row := checkBeginningsUptoRow, standIns := [], harness := (true, "120dd864f30b307efc263fa831369bd4c98c43ff956f58eedfffac51f3dbd3bb"), looks := true }, kinds := [], alts := [], laidByText := true, laidKinds := [.sentinel, .sentinel, .sentinel, .sentinel, .sentinel, .sentinel, .sentinel, .sentinel, .sentinel, .sentinel, .sentinel, .sentinel, .sentinel, .sentinel, .sentinel, .sentinel, .sentinel, .sentinel, .sentinel, .data], laidTests := true, laidLooks := .later }
def CheckBeginningsUptoCardSaid : Prop := Claim7.holds Tryd.pinned (.plain (OpenSpec.upto checkBeginningsSpec)) checkBeginningsUptoCard

/-- THE SECOND FORM's CARD OF 'timbrelaw18.CheckApart'. -/
def checkApartUptoCard : Claim7 := { stood := { row := checkApartUptoRow, standIns := [], harness := (true, "120dd864f30b307efc263fa831369bd4c98c43ff956f58eedfffac51f3dbd3bb"), looks := true }, kinds := [], alts := [], laidByText := true, laidKinds := [.sentinel, .sentinel, .sentinel, .sentinel, .sentinel, .sentinel, .sentinel, .sentinel, .sentinel, .sentinel, .sentinel, .sentinel, .sentinel, .sentinel, .sentinel, .sentinel, .sentinel, .sentinel, .sentinel, .data], laidTests := true, laidLooks := .later }
def CheckApartUptoCardSaid : Prop := Claim7.holds Tryd.pinned (.plain (OpenSpec.upto checkApartSpec)) checkApartUptoCard
end Rows
end Go.Proofs.YtafhajgebhicdaaDoor
