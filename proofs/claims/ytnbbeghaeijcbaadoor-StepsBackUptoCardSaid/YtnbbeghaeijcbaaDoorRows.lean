/-
  NARROWER THAN 'FOR EVERY INPUT', by the rows' own cells (each row's printed sentence says how): StepsForms: laid · StepsEncodes: laid · StepsDecodes: laid · StepsBack: laid · StepsFields: laid · StepsSame: laid · StepsNames: laid.
  DERIVED. THE GIVEN ROWS OF THIS SEAT. 7 by the template 'for every input the law returns true; each argument reads behind the call as it read before'; 0 by the template 'total and deterministic' (their statements: YtnbbeghaeijcbaaDoorTotals.lean).
  GIVEN WITH THE SEED: the statements are not yours to turn. If you find one false, say at which input.
  Laid BY PROGRAM, IN A SANDBOX (cutbox-rows.mjs): the forced cells as the released guide's own fill.sh prints them over the translation bb6fe5e0e6b21772… (all of the seat's roots in one cut). By AI agents, Wed Nov 11 2026. No macro, syntax, notation, axiom, sorry.
-/
import Derived.Test.YtnbbeghaeijcbaaDoorChecked
import GoSem.Claim
import GoSem.ClaimJoined
import GoSem.ClaimMapViews
import Derived.JoinedTies
import Derived.KernelRfl
namespace Go.Proofs.YtnbbeghaeijcbaaDoor
/- THE CELL 'sum', in the pinned program and in every row, IS THE sha256 OF THE DUMP (.gsa) THAT YtnbbeghaeijcbaaDoorProg.lean LOADS. Nothing in Lean hashes anything: it is a label: what it is worth is what the hold of that sum in a sandbox is worth. -/
noncomputable def Tryd.pinned : Pinned := { name := "ytnbbeghaeijcbaadoor", sum := "bb6fe5e0e6b217720d446d30b5e3fb3bda01fd62f1b234070a1a18225621ad69", checked := Tryd.checked }
namespace Rows
def none {H : Type} : Left H := { results := [], args := [] }

/- WHAT THE LISTED PACKAGE-LEVEL VARIABLES READ AS WHEN THE CALL BEGINS. Each datum BY PROGRAM (the guide's laid-datum.mjs) off the statement by which the dump's own 'gosem.cut.vars' lays the variable. In a bare row this is a premise. The card (YtnbbeghaeijcbaaDoorCards.lean) ties it to the program's text. -/
def laid_timbre_api_ErrShort {H : Type} : DataW H := .iface "*errors.errorString" (.ptr (.agg [.lit (.string [116, 105, 109, 98, 114, 101, 58, 32, 116, 111, 111, 32, 115, 104, 111, 114, 116])]))
def laid_timbre_api_ErrVarint {H : Type} : DataW H := .iface "*errors.errorString" (.ptr (.agg [.lit (.string [116, 105, 109, 98, 114, 101, 58, 32, 118, 97, 114, 105, 110, 116])]))
def laid_timbre_api_ErrLimit {H : Type} : DataW H := .iface "*errors.errorString" (.ptr (.agg [.lit (.string [116, 105, 109, 98, 114, 101, 58, 32, 108, 105, 109, 105, 116])]))
def laid_timbre_api_ErrTail {H : Type} : DataW H := .iface "*errors.errorString" (.ptr (.agg [.lit (.string [116, 105, 109, 98, 114, 101, 58, 32, 116, 97, 105, 108])]))
def laid_timbre_api_ErrRange {H : Type} : DataW H := .iface "*errors.errorString" (.ptr (.agg [.lit (.string [116, 105, 109, 98, 114, 101, 58, 32, 114, 97, 110, 103, 101])]))
def laid_timbre_api_ErrText {H : Type} : DataW H := .iface "*errors.errorString" (.ptr (.agg [.lit (.string [116, 105, 109, 98, 114, 101, 58, 32, 116, 101, 120, 116])]))
def laid_timbre_api_ErrLength {H : Type} : DataW H := .iface "*errors.errorString" (.ptr (.agg [.lit (.string [116, 105, 109, 98, 114, 101, 58, 32, 108, 101, 110, 103, 116, 104])]))
def laid_timbre_api_ErrOrder {H : Type} : DataW H := .iface "*errors.errorString" (.ptr (.agg [.lit (.string [116, 105, 109, 98, 114, 101, 58, 32, 111, 114, 100, 101, 114])]))
def laid_timbre_api_ErrProgram {H : Type} : DataW H := .iface "*errors.errorString" (.ptr (.agg [.lit (.string [116, 105, 109, 98, 114, 101, 58, 32, 112, 114, 111, 103, 114, 97, 109])]))
def laid_timbre_api_ErrState {H : Type} : DataW H := .iface "*errors.errorString" (.ptr (.agg [.lit (.string [116, 105, 109, 98, 114, 101, 58, 32, 115, 116, 97, 116, 101])]))
def laid_timbre_api_ErrRoot {H : Type} : DataW H := .iface "*errors.errorString" (.ptr (.agg [.lit (.string [116, 105, 109, 98, 114, 101, 58, 32, 114, 111, 111, 116])]))
def laid_timbre_api_ErrPerm {H : Type} : DataW H := .iface "*errors.errorString" (.ptr (.agg [.lit (.string [116, 105, 109, 98, 114, 101, 58, 32, 112, 101, 114, 109, 117, 116, 97, 116, 105, 111, 110])]))
def laid_timbre_api_ErrNumber {H : Type} : DataW H := .iface "*errors.errorString" (.ptr (.agg [.lit (.string [116, 105, 109, 98, 114, 101, 58, 32, 110, 117, 109, 98, 101, 114])]))
def laid_timbre_api_ErrWorkers {H : Type} : DataW H := .iface "*errors.errorString" (.ptr (.agg [.lit (.string [116, 105, 109, 98, 114, 101, 58, 32, 119, 111, 114, 107, 101, 114, 115])]))
def laid_timbre_api_ErrDone {H : Type} : DataW H := .iface "*errors.errorString" (.ptr (.agg [.lit (.string [116, 105, 109, 98, 114, 101, 58, 32, 100, 111, 110, 101])]))
def laid_timbre_api_ErrUnknown {H : Type} : DataW H := .iface "*errors.errorString" (.ptr (.agg [.lit (.string [116, 105, 109, 98, 114, 101, 58, 32, 117, 110, 107, 110, 111, 119, 110])]))
def laid_timbre_api_ErrMode {H : Type} : DataW H := .iface "*errors.errorString" (.ptr (.agg [.lit (.string [116, 105, 109, 98, 114, 101, 58, 32, 109, 111, 100, 101])]))
def laid_timbre_api_ErrCommand {H : Type} : DataW H := .iface "*errors.errorString" (.ptr (.agg [.lit (.string [116, 105, 109, 98, 114, 101, 58, 32, 99, 111, 109, 109, 97, 110, 100])]))
def laid_timbre_api_ErrExact {H : Type} : DataW H := .iface "*errors.errorString" (.ptr (.agg [.lit (.string [116, 105, 109, 98, 114, 101, 58, 32, 101, 120, 97, 99, 116])]))
def laid_timbre_steps_table {H : Type} : DataW H := .agg [.agg [.lit (.string []), .lit (.bool false), .lit (.bool false), .lit (.int .i64 0), .lit (.bool false)], .agg [.lit (.string [103, 97, 116, 104, 101, 114]), .lit (.bool true), .lit (.bool true), .lit (.int .i64 0), .lit (.bool false)], .agg [.lit (.string [115, 99, 97, 116, 116, 101, 114]), .lit (.bool true), .lit (.bool true), .lit (.int .i64 0), .lit (.bool false)], .agg [.lit (.string [122, 101, 114, 111]), .lit (.bool false), .lit (.bool false), .lit (.int .i64 0), .lit (.bool false)], .agg [.lit (.string [116, 119, 105, 115, 116]), .lit (.bool false), .lit (.bool false), .lit (.int .i64 16384), .lit (.bool true)], .agg [.lit (.string [102, 108, 121]), .lit (.bool false), .lit (.bool true), .lit (.int .i64 5), .lit (.bool false)], .agg [.lit (.string [100, 105, 114, 101, 99, 116]), .lit (.bool true), .lit (.bool true), .lit (.int .i64 64), .lit (.bool false)], .agg [.lit (.string [99, 104, 105, 114, 112]), .lit (.bool false), .lit (.bool false), .lit (.int .i64 16384), .lit (.bool false)], .agg [.lit (.string [102, 105, 108, 108]), .lit (.bool false), .lit (.bool false), .lit (.int .i64 16384), .lit (.bool false)], .agg [.lit (.string [116, 105, 109, 101, 115]), .lit (.bool true), .lit (.bool false), .lit (.int .i64 0), .lit (.bool false)], .agg [.lit (.string [99, 111, 110, 106]), .lit (.bool false), .lit (.bool false), .lit (.int .i64 0), .lit (.bool false)], .agg [.lit (.string [111, 118, 101, 114]), .lit (.bool false), .lit (.bool false), .lit (.int .i64 16384), .lit (.bool false)]]

/-- 'timbrelaw15.StepsForms': WHATEVER THE INPUT: true; the input reads as it did. -/
def stepsFormsSpec : ChangeSpec := { name := "stepsForms", fn := fun _ => fun
  | [d] => { results := [.lit (.bool true)], args := [d] }
  | _ => none }
def stepsFormsRow : OpenClaim := { program := "ytnbbeghaeijcbaadoor", sum := "bb6fe5e0e6b217720d446d30b5e3fb3bda01fd62f1b234070a1a18225621ad69", func := "timbre/timbrelaw15.StepsForms", spec := "stepsForms", unfollowed := true, recurses := true, named := ["timbre/api.ErrProgram", "timbre/steps.table", "timbre/api.ErrLimit", "timbre/api.ErrShort", "timbre/api.ErrVarint", "timbre/api.ErrTail", "timbre/api.ErrRange", "timbre/api.ErrText", "timbre/api.ErrLength", "timbre/api.ErrOrder", "timbre/api.ErrState", "timbre/api.ErrRoot", "timbre/api.ErrPerm", "timbre/api.ErrNumber", "timbre/api.ErrWorkers", "timbre/api.ErrDone", "timbre/api.ErrUnknown", "timbre/api.ErrMode", "timbre/api.ErrCommand", "timbre/api.ErrExact"], apart := false, laid := [("timbre/api.ErrShort", laid_timbre_api_ErrShort), ("timbre/api.ErrVarint", laid_timbre_api_ErrVarint), ("timbre/api.ErrLimit", laid_timbre_api_ErrLimit), ("timbre/api.ErrTail", laid_timbre_api_ErrTail), ("timbre/api.ErrRange", laid_timbre_api_ErrRange), ("timbre/api.ErrText", laid_timbre_api_ErrText), ("timbre/api.ErrLength", laid_timbre_api_ErrLength), ("timbre/api.ErrOrder", laid_timbre_api_ErrOrder), ("timbre/api.ErrProgram", laid_timbre_api_ErrProgram), ("timbre/api.ErrState", laid_timbre_api_ErrState), ("timbre/api.ErrRoot", laid_timbre_api_ErrRoot), ("timbre/api.ErrPerm", laid_timbre_api_ErrPerm), ("timbre/api.ErrNumber", laid_timbre_api_ErrNumber), ("timbre/api.ErrWorkers", laid_timbre_api_ErrWorkers), ("timbre/api.ErrDone", laid_timbre_api_ErrDone), ("timbre/api.ErrUnknown", laid_timbre_api_ErrUnknown), ("timbre/api.ErrMode", laid_timbre_api_ErrMode), ("timbre/api.ErrCommand", laid_timbre_api_ErrCommand), ("timbre/api.ErrExact", laid_timbre_api_ErrExact), ("timbre/steps.table", laid_timbre_steps_table)] }
def StepsFormsSaid : Prop := stepsFormsRow.holds Tryd.pinned (OpenSpec.ofChange stepsFormsSpec)

/-- ITS FALSE NEIGHBOUR: 'it returns false'. Refute it at one input. -/
def stepsFormsWrong : ChangeSpec := { name := "stepsForms", fn := fun _ => fun
  | [d] => { results := [.lit (.bool false)], args := [d] }
  | _ => none }
def StepsFormsWrongFalsely : Prop := stepsFormsRow.holds Tryd.pinned (OpenSpec.ofChange stepsFormsWrong)

/-- 'timbrelaw15.StepsEncodes': WHATEVER THE INPUT: true; the input reads as it did. -/
def stepsEncodesSpec : ChangeSpec := { name := "stepsEncodes", fn := fun _ => fun
  | [d] => { results := [.lit (.bool true)], args := [d] }
  | _ => none }
def stepsEncodesRow : OpenClaim := { program := "ytnbbeghaeijcbaadoor", sum := "bb6fe5e0e6b217720d446d30b5e3fb3bda01fd62f1b234070a1a18225621ad69", func := "timbre/timbrelaw15.StepsEncodes", spec := "stepsEncodes", unfollowed := true, recurses := true, named := ["timbre/api.ErrProgram", "timbre/steps.table", "timbre/api.ErrLimit", "timbre/api.ErrShort", "timbre/api.ErrVarint", "timbre/api.ErrTail", "timbre/api.ErrRange", "timbre/api.ErrText", "timbre/api.ErrLength", "timbre/api.ErrOrder", "timbre/api.ErrState", "timbre/api.ErrRoot", "timbre/api.ErrPerm", "timbre/api.ErrNumber", "timbre/api.ErrWorkers", "timbre/api.ErrDone", "timbre/api.ErrUnknown", "timbre/api.ErrMode", "timbre/api.ErrCommand", "timbre/api.ErrExact"], apart := false, laid := [("timbre/api.ErrShort", laid_timbre_api_ErrShort), ("timbre/api.ErrVarint", laid_timbre_api_ErrVarint), ("timbre/api.ErrLimit", laid_timbre_api_ErrLimit), ("timbre/api.ErrTail", laid_timbre_api_ErrTail), ("timbre/api.ErrRange", laid_timbre_api_ErrRange), ("timbre/api.ErrText", laid_timbre_api_ErrText), ("timbre/api.ErrLength", laid_timbre_api_ErrLength), ("timbre/api.ErrOrder", laid_timbre_api_ErrOrder), ("timbre/api.ErrProgram", laid_timbre_api_ErrProgram), ("timbre/api.ErrState", laid_timbre_api_ErrState), ("timbre/api.ErrRoot", laid_timbre_api_ErrRoot), ("timbre/api.ErrPerm", laid_timbre_api_ErrPerm), ("timbre/api.ErrNumber", laid_timbre_api_ErrNumber), ("timbre/api.ErrWorkers", laid_timbre_api_ErrWorkers), ("timbre/api.ErrDone", laid_timbre_api_ErrDone), ("timbre/api.ErrUnknown", laid_timbre_api_ErrUnknown), ("timbre/api.ErrMode", laid_timbre_api_ErrMode), ("timbre/api.ErrCommand", laid_timbre_api_ErrCommand), ("timbre/api.ErrExact", laid_timbre_api_ErrExact), ("timbre/steps.table", laid_timbre_steps_table)] }
def StepsEncodesSaid : Prop := stepsEncodesRow.holds Tryd.pinned (OpenSpec.ofChange stepsEncodesSpec)

/-- ITS FALSE NEIGHBOUR: 'it returns false'. Refute it at one input. -/
def stepsEncodesWrong : ChangeSpec := { name := "stepsEncodes", fn := fun _ => fun
  | [d] => { results := [.lit (.bool false)], args := [d] }
  | _ => none }
def StepsEncodesWrongFalsely : Prop := stepsEncodesRow.holds Tryd.pinned (OpenSpec.ofChange stepsEncodesWrong)

/-- 'timbrelaw15.StepsDecodes': WHATEVER THE INPUT: true; the input reads as it did. -/
def stepsDecodesSpec : ChangeSpec := { name := "stepsDecodes", fn := fun _ => fun
  | [d] => { results := [.lit (.bool true)], args := [d] }
  | _ => none }
def stepsDecodesRow : OpenClaim := { program := "ytnbbeghaeijcbaadoor", sum := "bb6fe5e0e6b217720d446d30b5e3fb3bda01fd62f1b234070a1a18225621ad69", func := "timbre/timbrelaw15.StepsDecodes", spec := "stepsDecodes", unfollowed := true, recurses := true, named := ["timbre/api.ErrProgram", "timbre/steps.table", "timbre/api.ErrLimit", "timbre/api.ErrShort", "timbre/api.ErrVarint", "timbre/api.ErrTail", "timbre/api.ErrRange", "timbre/api.ErrText", "timbre/api.ErrLength", "timbre/api.ErrOrder", "timbre/api.ErrState", "timbre/api.ErrRoot", "timbre/api.ErrPerm", "timbre/api.ErrNumber", "timbre/api.ErrWorkers", "timbre/api.ErrDone", "timbre/api.ErrUnknown", "timbre/api.ErrMode", "timbre/api.ErrCommand", "timbre/api.ErrExact"], apart := false, laid := [("timbre/api.ErrShort", laid_timbre_api_ErrShort), ("timbre/api.ErrVarint", laid_timbre_api_ErrVarint), ("timbre/api.ErrLimit", laid_timbre_api_ErrLimit), ("timbre/api.ErrTail", laid_timbre_api_ErrTail), ("timbre/api.ErrRange", laid_timbre_api_ErrRange), ("timbre/api.ErrText", laid_timbre_api_ErrText), ("timbre/api.ErrLength", laid_timbre_api_ErrLength), ("timbre/api.ErrOrder", laid_timbre_api_ErrOrder), ("timbre/api.ErrProgram", laid_timbre_api_ErrProgram), ("timbre/api.ErrState", laid_timbre_api_ErrState), ("timbre/api.ErrRoot", laid_timbre_api_ErrRoot), ("timbre/api.ErrPerm", laid_timbre_api_ErrPerm), ("timbre/api.ErrNumber", laid_timbre_api_ErrNumber), ("timbre/api.ErrWorkers", laid_timbre_api_ErrWorkers), ("timbre/api.ErrDone", laid_timbre_api_ErrDone), ("timbre/api.ErrUnknown", laid_timbre_api_ErrUnknown), ("timbre/api.ErrMode", laid_timbre_api_ErrMode), ("timbre/api.ErrCommand", laid_timbre_api_ErrCommand), ("timbre/api.ErrExact", laid_timbre_api_ErrExact), ("timbre/steps.table", laid_timbre_steps_table)] }
def StepsDecodesSaid : Prop := stepsDecodesRow.holds Tryd.pinned (OpenSpec.ofChange stepsDecodesSpec)

/-- ITS FALSE NEIGHBOUR: 'it returns false'. Refute it at one input. -/
def stepsDecodesWrong : ChangeSpec := { name := "stepsDecodes", fn := fun _ => fun
  | [d] => { results := [.lit (.bool false)], args := [d] }
  | _ => none }
def StepsDecodesWrongFalsely : Prop := stepsDecodesRow.holds Tryd.pinned (OpenSpec.ofChange stepsDecodesWrong)

/-- 'timbrelaw15.StepsBack': WHATEVER THE INPUT: true; the input reads as it did. -/
def stepsBackSpec : ChangeSpec := { name := "stepsBack", fn := fun _ => fun
  | [d1, d2, d3] => { results := [.lit (.bool true)], args := [d1, d2, d3] }
  | _ => none }
def stepsBackRow : OpenClaim := { program := "ytnbbeghaeijcbaadoor", sum := "bb6fe5e0e6b217720d446d30b5e3fb3bda01fd62f1b234070a1a18225621ad69", func := "timbre/timbrelaw15.StepsBack", spec := "stepsBack", unfollowed := true, recurses := true, named := ["timbre/api.ErrProgram", "timbre/steps.table", "timbre/api.ErrLimit", "timbre/api.ErrShort", "timbre/api.ErrVarint", "timbre/api.ErrTail", "timbre/api.ErrRange", "timbre/api.ErrText", "timbre/api.ErrLength", "timbre/api.ErrOrder", "timbre/api.ErrState", "timbre/api.ErrRoot", "timbre/api.ErrPerm", "timbre/api.ErrNumber", "timbre/api.ErrWorkers", "timbre/api.ErrDone", "timbre/api.ErrUnknown", "timbre/api.ErrMode", "timbre/api.ErrCommand", "timbre/api.ErrExact"], apart := false, laid := [("timbre/api.ErrShort", laid_timbre_api_ErrShort), ("timbre/api.ErrVarint", laid_timbre_api_ErrVarint), ("timbre/api.ErrLimit", laid_timbre_api_ErrLimit), ("timbre/api.ErrTail", laid_timbre_api_ErrTail), ("timbre/api.ErrRange", laid_timbre_api_ErrRange), ("timbre/api.ErrText", laid_timbre_api_ErrText), ("timbre/api.ErrLength", laid_timbre_api_ErrLength), ("timbre/api.ErrOrder", laid_timbre_api_ErrOrder), ("timbre/api.ErrProgram", laid_timbre_api_ErrProgram), ("timbre/api.ErrState", laid_timbre_api_ErrState), ("timbre/api.ErrRoot", laid_timbre_api_ErrRoot), ("timbre/api.ErrPerm", laid_timbre_api_ErrPerm), ("timbre/api.ErrNumber", laid_timbre_api_ErrNumber), ("timbre/api.ErrWorkers", laid_timbre_api_ErrWorkers), ("timbre/api.ErrDone", laid_timbre_api_ErrDone), ("timbre/api.ErrUnknown", laid_timbre_api_ErrUnknown), ("timbre/api.ErrMode", laid_timbre_api_ErrMode), ("timbre/api.ErrCommand", laid_timbre_api_ErrCommand), ("timbre/api.ErrExact", laid_timbre_api_ErrExact), ("timbre/steps.table", laid_timbre_steps_table)] }
def StepsBackSaid : Prop := stepsBackRow.holds Tryd.pinned (OpenSpec.ofChange stepsBackSpec)

/-- ITS FALSE NEIGHBOUR: 'it returns false'. Refute it at one input. -/
def stepsBackWrong : ChangeSpec := { name := "stepsBack", fn := fun _ => fun
  | [d1, d2, d3] => { results := [.lit (.bool false)], args := [d1, d2, d3] }
  | _ => none }
def StepsBackWrongFalsely : Prop := stepsBackRow.holds Tryd.pinned (OpenSpec.ofChange stepsBackWrong)

/-- 'timbrelaw15.StepsFields': WHATEVER THE INPUT: true; the input reads as it did. -/
def stepsFieldsSpec : ChangeSpec := { name := "stepsFields", fn := fun _ => fun
  | [d1, d2] => { results := [.lit (.bool true)], args := [d1, d2] }
  | _ => none }
def stepsFieldsRow : OpenClaim := { program := "ytnbbeghaeijcbaadoor", sum := "bb6fe5e0e6b217720d446d30b5e3fb3bda01fd62f1b234070a1a18225621ad69", func := "timbre/timbrelaw15.StepsFields", spec := "stepsFields", unfollowed := true, recurses := true, named := ["timbre/api.ErrProgram", "timbre/steps.table", "timbre/api.ErrLimit", "timbre/api.ErrShort", "timbre/api.ErrVarint", "timbre/api.ErrTail"], apart := false, laid := [("timbre/api.ErrShort", laid_timbre_api_ErrShort), ("timbre/api.ErrVarint", laid_timbre_api_ErrVarint), ("timbre/api.ErrLimit", laid_timbre_api_ErrLimit), ("timbre/api.ErrTail", laid_timbre_api_ErrTail), ("timbre/api.ErrProgram", laid_timbre_api_ErrProgram), ("timbre/steps.table", laid_timbre_steps_table)] }
def StepsFieldsSaid : Prop := stepsFieldsRow.holds Tryd.pinned (OpenSpec.ofChange stepsFieldsSpec)

/-- ITS FALSE NEIGHBOUR: 'it returns false'. Refute it at one input. -/
def stepsFieldsWrong : ChangeSpec := { name := "stepsFields", fn := fun _ => fun
  | [d1, d2] => { results := [.lit (.bool false)], args := [d1, d2] }
  | _ => none }
def StepsFieldsWrongFalsely : Prop := stepsFieldsRow.holds Tryd.pinned (OpenSpec.ofChange stepsFieldsWrong)

/-- 'timbrelaw15.StepsSame': WHATEVER THE INPUT: true; the input reads as it did. -/
def stepsSameSpec : ChangeSpec := { name := "stepsSame", fn := fun _ => fun
  | [d1, d2] => { results := [.lit (.bool true)], args := [d1, d2] }
  | _ => none }
def stepsSameRow : OpenClaim := { program := "ytnbbeghaeijcbaadoor", sum := "bb6fe5e0e6b217720d446d30b5e3fb3bda01fd62f1b234070a1a18225621ad69", func := "timbre/timbrelaw15.StepsSame", spec := "stepsSame", unfollowed := true, recurses := true, named := ["timbre/api.ErrProgram", "timbre/steps.table", "timbre/api.ErrLimit", "timbre/api.ErrShort", "timbre/api.ErrVarint", "timbre/api.ErrTail"], apart := false, laid := [("timbre/api.ErrShort", laid_timbre_api_ErrShort), ("timbre/api.ErrVarint", laid_timbre_api_ErrVarint), ("timbre/api.ErrLimit", laid_timbre_api_ErrLimit), ("timbre/api.ErrTail", laid_timbre_api_ErrTail), ("timbre/api.ErrProgram", laid_timbre_api_ErrProgram), ("timbre/steps.table", laid_timbre_steps_table)] }
def StepsSameSaid : Prop := stepsSameRow.holds Tryd.pinned (OpenSpec.ofChange stepsSameSpec)

/-- ITS FALSE NEIGHBOUR: 'it returns false'. Refute it at one input. -/
def stepsSameWrong : ChangeSpec := { name := "stepsSame", fn := fun _ => fun
  | [d1, d2] => { results := [.lit (.bool false)], args := [d1, d2] }
  | _ => none }
def StepsSameWrongFalsely : Prop := stepsSameRow.holds Tryd.pinned (OpenSpec.ofChange stepsSameWrong)

/-- 'timbrelaw15.StepsNames': WHATEVER THE INPUT: true; the input reads as it did. -/
def stepsNamesSpec : ChangeSpec := { name := "stepsNames", fn := fun _ => fun
  | [d1, d2] => { results := [.lit (.bool true)], args := [d1, d2] }
  | _ => none }
def stepsNamesRow : OpenClaim := { program := "ytnbbeghaeijcbaadoor", sum := "bb6fe5e0e6b217720d446d30b5e3fb3bda01fd62f1b234070a1a18225621ad69", func := "timbre/timbrelaw15.StepsNames", spec := "stepsNames", unfollowed := true, recurses := true, named := ["timbre/api.ErrProgram", "timbre/steps.table", "timbre/api.ErrLimit", "timbre/api.ErrShort", "timbre/api.ErrVarint", "timbre/api.ErrTail"], apart := false, laid := [("timbre/api.ErrShort", laid_timbre_api_ErrShort), ("timbre/api.ErrVarint", laid_timbre_api_ErrVarint), ("timbre/api.ErrLimit", laid_timbre_api_ErrLimit), ("timbre/api.ErrTail", laid_timbre_api_ErrTail), ("timbre/api.ErrProgram", laid_timbre_api_ErrProgram), ("timbre/steps.table", laid_timbre_steps_table)] }
def StepsNamesSaid : Prop := stepsNamesRow.holds Tryd.pinned (OpenSpec.ofChange stepsNamesSpec)

/-- ITS FALSE NEIGHBOUR: 'it returns false'. Refute it at one input. -/
def stepsNamesWrong : ChangeSpec := { name := "stepsNames", fn := fun _ => fun
  | [d1, d2] => { results := [.lit (.bool false)], args := [d1, d2] }
  | _ => none }
def StepsNamesWrongFalsely : Prop := stepsNamesRow.holds Tryd.pinned (OpenSpec.ofChange stepsNamesWrong)

/- THE SECOND FORM. 'bulk': how many values and letters a reading holds, each counted each time it is reached (what is shared counts as often as it is met; a slice's spare places count too). A statement '..UptoSaid' is the law's where the arguments, and the package variables that the reading takes, are together of bulk at most 1048576: NARROWER than '..Said'. Prove '..Said' where nothing that the law and all that it calls make is longer than what came in: it says more and counts as full. Else prove '..UptoSaid'. A law counts once. -/
mutual
def uptoBulk {H : Type} : DataW H → Nat
  | .lit (.string bytes) => bytes.length + 1
  | .lit _ => 1
  | .nil => 1
  | .ptr d => uptoBulk d + 1
  | .slice elems spare => uptoBulkAll elems + uptoBulkAll spare + 1
  | .agg parts => uptoBulkAll parts + 1
  | .iface _ d => uptoBulk d + 1
  | .map entries => uptoBulkEntries entries + 1
  | .held _ => 1
def uptoBulkAll {H : Type} : List (DataW H) → Nat
  | [] => 0
  | d :: r => uptoBulk d + uptoBulkAll r
def uptoBulkEntries {H : Type} : List (Lit × DataW H) → Nat
  | [] => 0
  | x :: r => uptoBulkEntry x + uptoBulkEntries r
def uptoBulkEntry {H : Type} : Lit × DataW H → Nat
  | (.string bytes, d) => bytes.length + uptoBulk d + 1
  | (_, d) => uptoBulk d + 1
 end
def uptoSmall : (H : Type) → List (DataW H) → Bool := fun _ ds => decide (uptoBulkAll ds ≤ 1048576)
def OpenSpec.upto (s : _root_.Go.ChangeSpec) : _root_.Go.OpenSpec := { _root_.Go.OpenSpec.ofChange s with cond := some uptoSmall }

/-- 'timbrelaw15.StepsForms', WHERE WHAT IT READS IS OF BULK AT MOST 1048576: true; the input reads as it did. -/
def stepsFormsUptoRow : OpenClaim := { program := "ytnbbeghaeijcbaadoor", sum := "bb6fe5e0e6b217720d446d30b5e3fb3bda01fd62f1b234070a1a18225621ad69", func := "timbre/timbrelaw15.StepsForms", spec := "stepsForms", unfollowed := true, recurses := true, named := ["timbre/api.ErrProgram", "timbre/steps.table", "timbre/api.ErrLimit", "timbre/api.ErrShort", "timbre/api.ErrVarint", "timbre/api.ErrTail", "timbre/api.ErrRange", "timbre/api.ErrText", "timbre/api.ErrLength", "timbre/api.ErrOrder", "timbre/api.ErrState", "timbre/api.ErrRoot", "timbre/api.ErrPerm", "timbre/api.ErrNumber", "timbre/api.ErrWorkers", "timbre/api.ErrDone", "timbre/api.ErrUnknown", "timbre/api.ErrMode", "timbre/api.ErrCommand", "timbre/api.ErrExact"], apart := false, laid := [("timbre/api.ErrShort", laid_timbre_api_ErrShort), ("timbre/api.ErrVarint", laid_timbre_api_ErrVarint), ("timbre/api.ErrLimit", laid_timbre_api_ErrLimit), ("timbre/api.ErrTail", laid_timbre_api_ErrTail), ("timbre/api.ErrRange", laid_timbre_api_ErrRange), ("timbre/api.ErrText", laid_timbre_api_ErrText), ("timbre/api.ErrLength", laid_timbre_api_ErrLength), ("timbre/api.ErrOrder", laid_timbre_api_ErrOrder), ("timbre/api.ErrProgram", laid_timbre_api_ErrProgram), ("timbre/api.ErrState", laid_timbre_api_ErrState), ("timbre/api.ErrRoot", laid_timbre_api_ErrRoot), ("timbre/api.ErrPerm", laid_timbre_api_ErrPerm), ("timbre/api.ErrNumber", laid_timbre_api_ErrNumber), ("timbre/api.ErrWorkers", laid_timbre_api_ErrWorkers), ("timbre/api.ErrDone", laid_timbre_api_ErrDone), ("timbre/api.ErrUnknown", laid_timbre_api_ErrUnknown), ("timbre/api.ErrMode", laid_timbre_api_ErrMode), ("timbre/api.ErrCommand", laid_timbre_api_ErrCommand), ("timbre/api.ErrExact", laid_timbre_api_ErrExact), ("timbre/steps.table", laid_timbre_steps_table)], narrowed := true }
def StepsFormsUptoSaid : Prop := stepsFormsUptoRow.holds Tryd.pinned (OpenSpec.upto stepsFormsSpec)

/-- 'timbrelaw15.StepsEncodes', WHERE WHAT IT READS IS OF BULK AT MOST 1048576: true; the input reads as it did. -/
def stepsEncodesUptoRow : OpenClaim := { program := "ytnbbeghaeijcbaadoor", sum := "bb6fe5e0e6b217720d446d30b5e3fb3bda01fd62f1b234070a1a18225621ad69", func := "timbre/timbrelaw15.StepsEncodes", spec := "stepsEncodes", unfollowed := true, recurses := true, named := ["timbre/api.ErrProgram", "timbre/steps.table", "timbre/api.ErrLimit", "timbre/api.ErrShort", "timbre/api.ErrVarint", "timbre/api.ErrTail", "timbre/api.ErrRange", "timbre/api.ErrText", "timbre/api.ErrLength", "timbre/api.ErrOrder", "timbre/api.ErrState", "timbre/api.ErrRoot", "timbre/api.ErrPerm", "timbre/api.ErrNumber", "timbre/api.ErrWorkers", "timbre/api.ErrDone", "timbre/api.ErrUnknown", "timbre/api.ErrMode", "timbre/api.ErrCommand", "timbre/api.ErrExact"], apart := false, laid := [("timbre/api.ErrShort", laid_timbre_api_ErrShort), ("timbre/api.ErrVarint", laid_timbre_api_ErrVarint), ("timbre/api.ErrLimit", laid_timbre_api_ErrLimit), ("timbre/api.ErrTail", laid_timbre_api_ErrTail), ("timbre/api.ErrRange", laid_timbre_api_ErrRange), ("timbre/api.ErrText", laid_timbre_api_ErrText), ("timbre/api.ErrLength", laid_timbre_api_ErrLength), ("timbre/api.ErrOrder", laid_timbre_api_ErrOrder), ("timbre/api.ErrProgram", laid_timbre_api_ErrProgram), ("timbre/api.ErrState", laid_timbre_api_ErrState), ("timbre/api.ErrRoot", laid_timbre_api_ErrRoot), ("timbre/api.ErrPerm", laid_timbre_api_ErrPerm), ("timbre/api.ErrNumber", laid_timbre_api_ErrNumber), ("timbre/api.ErrWorkers", laid_timbre_api_ErrWorkers), ("timbre/api.ErrDone", laid_timbre_api_ErrDone), ("timbre/api.ErrUnknown", laid_timbre_api_ErrUnknown), ("timbre/api.ErrMode", laid_timbre_api_ErrMode), ("timbre/api.ErrCommand", laid_timbre_api_ErrCommand), ("timbre/api.ErrExact", laid_timbre_api_ErrExact), ("timbre/steps.table", laid_timbre_steps_table)], narrowed := true }
def StepsEncodesUptoSaid : Prop := stepsEncodesUptoRow.holds Tryd.pinned (OpenSpec.upto stepsEncodesSpec)

/-- 'timbrelaw15.StepsDecodes', WHERE WHAT IT READS IS OF BULK AT MOST 1048576: true; the input reads as it did. -/
def stepsDecodesUptoRow : OpenClaim := { program := "ytnbbeghaeijcbaadoor", sum := "bb6fe5e0e6b217720d446d30b5e3fb3bda01fd62f1b234070a1a18225621ad69", func := "timbre/timbrelaw15.StepsDecodes", spec := "stepsDecodes", unfollowed := true, recurses := true, named := ["timbre/api.ErrProgram", "timbre/steps.table", "timbre/api.ErrLimit", "timbre/api.ErrShort", "timbre/api.ErrVarint", "timbre/api.ErrTail", "timbre/api.ErrRange", "timbre/api.ErrText", "timbre/api.ErrLength", "timbre/api.ErrOrder", "timbre/api.ErrState", "timbre/api.ErrRoot", "timbre/api.ErrPerm", "timbre/api.ErrNumber", "timbre/api.ErrWorkers", "timbre/api.ErrDone", "timbre/api.ErrUnknown", "timbre/api.ErrMode", "timbre/api.ErrCommand", "timbre/api.ErrExact"], apart := false, laid := [("timbre/api.ErrShort", laid_timbre_api_ErrShort), ("timbre/api.ErrVarint", laid_timbre_api_ErrVarint), ("timbre/api.ErrLimit", laid_timbre_api_ErrLimit), ("timbre/api.ErrTail", laid_timbre_api_ErrTail), ("timbre/api.ErrRange", laid_timbre_api_ErrRange), ("timbre/api.ErrText", laid_timbre_api_ErrText), ("timbre/api.ErrLength", laid_timbre_api_ErrLength), ("timbre/api.ErrOrder", laid_timbre_api_ErrOrder), ("timbre/api.ErrProgram", laid_timbre_api_ErrProgram), ("timbre/api.ErrState", laid_timbre_api_ErrState), ("timbre/api.ErrRoot", laid_timbre_api_ErrRoot), ("timbre/api.ErrPerm", laid_timbre_api_ErrPerm), ("timbre/api.ErrNumber", laid_timbre_api_ErrNumber), ("timbre/api.ErrWorkers", laid_timbre_api_ErrWorkers), ("timbre/api.ErrDone", laid_timbre_api_ErrDone), ("timbre/api.ErrUnknown", laid_timbre_api_ErrUnknown), ("timbre/api.ErrMode", laid_timbre_api_ErrMode), ("timbre/api.ErrCommand", laid_timbre_api_ErrCommand), ("timbre/api.ErrExact", laid_timbre_api_ErrExact), ("timbre/steps.table", laid_timbre_steps_table)], narrowed := true }
def StepsDecodesUptoSaid : Prop := stepsDecodesUptoRow.holds Tryd.pinned (OpenSpec.upto stepsDecodesSpec)

/-- 'timbrelaw15.StepsBack', WHERE WHAT IT READS IS OF BULK AT MOST 1048576: true; the input reads as it did. -/
def stepsBackUptoRow : OpenClaim := { program := "ytnbbeghaeijcbaadoor", sum := "bb6fe5e0e6b217720d446d30b5e3fb3bda01fd62f1b234070a1a18225621ad69", func := "timbre/timbrelaw15.StepsBack", spec := "stepsBack", unfollowed := true, recurses := true, named := ["timbre/api.ErrProgram", "timbre/steps.table", "timbre/api.ErrLimit", "timbre/api.ErrShort", "timbre/api.ErrVarint", "timbre/api.ErrTail", "timbre/api.ErrRange", "timbre/api.ErrText", "timbre/api.ErrLength", "timbre/api.ErrOrder", "timbre/api.ErrState", "timbre/api.ErrRoot", "timbre/api.ErrPerm", "timbre/api.ErrNumber", "timbre/api.ErrWorkers", "timbre/api.ErrDone", "timbre/api.ErrUnknown", "timbre/api.ErrMode", "timbre/api.ErrCommand", "timbre/api.ErrExact"], apart := false, laid := [("timbre/api.ErrShort", laid_timbre_api_ErrShort), ("timbre/api.ErrVarint", laid_timbre_api_ErrVarint), ("timbre/api.ErrLimit", laid_timbre_api_ErrLimit), ("timbre/api.ErrTail", laid_timbre_api_ErrTail), ("timbre/api.ErrRange", laid_timbre_api_ErrRange), ("timbre/api.ErrText", laid_timbre_api_ErrText), ("timbre/api.ErrLength", laid_timbre_api_ErrLength), ("timbre/api.ErrOrder", laid_timbre_api_ErrOrder), ("timbre/api.ErrProgram", laid_timbre_api_ErrProgram), ("timbre/api.ErrState", laid_timbre_api_ErrState), ("timbre/api.ErrRoot", laid_timbre_api_ErrRoot), ("timbre/api.ErrPerm", laid_timbre_api_ErrPerm), ("timbre/api.ErrNumber", laid_timbre_api_ErrNumber), ("timbre/api.ErrWorkers", laid_timbre_api_ErrWorkers), ("timbre/api.ErrDone", laid_timbre_api_ErrDone), ("timbre/api.ErrUnknown", laid_timbre_api_ErrUnknown), ("timbre/api.ErrMode", laid_timbre_api_ErrMode), ("timbre/api.ErrCommand", laid_timbre_api_ErrCommand), ("timbre/api.ErrExact", laid_timbre_api_ErrExact), ("timbre/steps.table", laid_timbre_steps_table)], narrowed := true }
def StepsBackUptoSaid : Prop := stepsBackUptoRow.holds Tryd.pinned (OpenSpec.upto stepsBackSpec)

/-- 'timbrelaw15.StepsFields', WHERE WHAT IT READS IS OF BULK AT MOST 1048576: true; the input reads as it did. -/
def stepsFieldsUptoRow : OpenClaim := { program := "ytnbbeghaeijcbaadoor", sum := "bb6fe5e0e6b217720d446d30b5e3fb3bda01fd62f1b234070a1a18225621ad69", func := "timbre/timbrelaw15.StepsFields", spec := "stepsFields", unfollowed := true, recurses := true, named := ["timbre/api.ErrProgram", "timbre/steps.table", "timbre/api.ErrLimit", "timbre/api.ErrShort", "timbre/api.ErrVarint", "timbre/api.ErrTail"], apart := false, laid := [("timbre/api.ErrShort", laid_timbre_api_ErrShort), ("timbre/api.ErrVarint", laid_timbre_api_ErrVarint), ("timbre/api.ErrLimit", laid_timbre_api_ErrLimit), ("timbre/api.ErrTail", laid_timbre_api_ErrTail), ("timbre/api.ErrProgram", laid_timbre_api_ErrProgram), ("timbre/steps.table", laid_timbre_steps_table)], narrowed := true }
def StepsFieldsUptoSaid : Prop := stepsFieldsUptoRow.holds Tryd.pinned (OpenSpec.upto stepsFieldsSpec)

/-- 'timbrelaw15.StepsSame', WHERE WHAT IT READS IS OF BULK AT MOST 1048576: true; the input reads as it did. -/
def stepsSameUptoRow : OpenClaim := { program := "ytnbbeghaeijcbaadoor", sum := "bb6fe5e0e6b217720d446d30b5e3fb3bda01fd62f1b234070a1a18225621ad69", func := "timbre/timbrelaw15.StepsSame", spec := "stepsSame", unfollowed := true, recurses := true, named := ["timbre/api.ErrProgram", "timbre/steps.table", "timbre/api.ErrLimit", "timbre/api.ErrShort", "timbre/api.ErrVarint", "timbre/api.ErrTail"], apart := false, laid := [("timbre/api.ErrShort", laid_timbre_api_ErrShort), ("timbre/api.ErrVarint", laid_timbre_api_ErrVarint), ("timbre/api.ErrLimit", laid_timbre_api_ErrLimit), ("timbre/api.ErrTail", laid_timbre_api_ErrTail), ("timbre/api.ErrProgram", laid_timbre_api_ErrProgram), ("timbre/steps.table", laid_timbre_steps_table)], narrowed := true }
def StepsSameUptoSaid : Prop := stepsSameUptoRow.holds Tryd.pinned (OpenSpec.upto stepsSameSpec)

/-- 'timbrelaw15.StepsNames', WHERE WHAT IT READS IS OF BULK AT MOST 1048576: true; the input reads as it did. -/
def stepsNamesUptoRow : OpenClaim := { program := "ytnbbeghaeijcbaadoor", sum := "bb6fe5e0e6b217720d446d30b5e3fb3bda01fd62f1b234070a1a18225621ad69", func := "timbre/timbrelaw15.StepsNames", spec := "stepsNames", unfollowed := true, recurses := true, named := ["timbre/api.ErrProgram", "timbre/steps.table", "timbre/api.ErrLimit", "timbre/api.ErrShort", "timbre/api.ErrVarint", "timbre/api.ErrTail"], apart := false, laid := [("timbre/api.ErrShort", laid_timbre_api_ErrShort), ("timbre/api.ErrVarint", laid_timbre_api_ErrVarint), ("timbre/api.ErrLimit", laid_timbre_api_ErrLimit), ("timbre/api.ErrTail", laid_timbre_api_ErrTail), ("timbre/api.ErrProgram", laid_timbre_api_ErrProgram), ("timbre/steps.table", laid_timbre_steps_table)], narrowed := true }
def StepsNamesUptoSaid : Prop := stepsNamesUptoRow.holds Tryd.pinned (OpenSpec.upto stepsNamesSpec)

end Rows
end Go.Proofs.YtnbbeghaeijcbaaDoor
