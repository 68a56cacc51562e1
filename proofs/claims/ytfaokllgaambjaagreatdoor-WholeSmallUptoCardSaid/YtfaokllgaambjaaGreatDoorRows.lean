/-
  NARROWER THAN 'FOR EVERY INPUT', by the rows' own cells (each row's printed sentence says how): WholeSmall: laid.
  DERIVED. THE GIVEN ROWS OF THIS SEAT. 1 by the template 'for every input the law returns true; each argument reads behind the call as it read before'; 0 by the template 'total and deterministic' (their statements: YtfaokllgaambjaaGreatDoorTotals.lean).
  GIVEN WITH THE SEED: the statements are not yours to turn. If you find one false, say at which input.
  Laid BY PROGRAM, IN A SANDBOX (cutbox-rows.mjs): the forced cells as the released guide's own fill.sh prints them over the translation 84edae464fae4e83… (all of the seat's roots in one cut). By AI agents, Wed Nov 11 2026. No macro, syntax, notation, axiom, sorry.
-/
import Derived.Test.YtfaokllgaambjaaGreatDoorChecked
import GoSem.Claim
import GoSem.ClaimJoined
import GoSem.ClaimMapViews
import Derived.JoinedTies
import Derived.KernelRfl
namespace Go.Proofs.YtfaokllgaambjaaGreatDoor
/- THE CELL 'sum', in the pinned program and in every row, IS THE sha256 OF THE DUMP (.gsa) THAT YtfaokllgaambjaaGreatDoorProg.lean LOADS. Nothing in Lean hashes anything: it is a label: what it is worth is what the hold of that sum in a sandbox is worth. -/
noncomputable def Tryz.pinned : Pinned := { name := "ytfaokllgaambjaagreatdoor", sum := "84edae464fae4e8312f573f9dd1c94c346c26d82cb806bea5e28d14c0cd96cf4", checked := Tryz.checked }
namespace Rows
def none {H : Type} : Left H := { results := [], args := [] }

/- WHAT THE LISTED PACKAGE-LEVEL VARIABLES READ AS WHEN THE CALL BEGINS. Each datum BY PROGRAM (the guide's laid-datum.mjs) off the statement by which the dump's own 'gosem.cut.vars' lays the variable. In a bare row this is a premise. The card (YtfaokllgaambjaaGreatDoorCards.lean) ties it to the program's text. -/
def laid_math_bits_deBruijn32tab {H : Type} : DataW H := .agg [.lit (.int .u8 0), .lit (.int .u8 1), .lit (.int .u8 28), .lit (.int .u8 2), .lit (.int .u8 29), .lit (.int .u8 14), .lit (.int .u8 24), .lit (.int .u8 3), .lit (.int .u8 30), .lit (.int .u8 22), .lit (.int .u8 20), .lit (.int .u8 15), .lit (.int .u8 25), .lit (.int .u8 17), .lit (.int .u8 4), .lit (.int .u8 8), .lit (.int .u8 31), .lit (.int .u8 27), .lit (.int .u8 13), .lit (.int .u8 23), .lit (.int .u8 21), .lit (.int .u8 19), .lit (.int .u8 16), .lit (.int .u8 7), .lit (.int .u8 26), .lit (.int .u8 12), .lit (.int .u8 18), .lit (.int .u8 6), .lit (.int .u8 11), .lit (.int .u8 5), .lit (.int .u8 10), .lit (.int .u8 9)]
def laid_math_bits_deBruijn64tab {H : Type} : DataW H := .agg [.lit (.int .u8 0), .lit (.int .u8 1), .lit (.int .u8 56), .lit (.int .u8 2), .lit (.int .u8 57), .lit (.int .u8 49), .lit (.int .u8 28), .lit (.int .u8 3), .lit (.int .u8 61), .lit (.int .u8 58), .lit (.int .u8 42), .lit (.int .u8 50), .lit (.int .u8 38), .lit (.int .u8 29), .lit (.int .u8 17), .lit (.int .u8 4), .lit (.int .u8 62), .lit (.int .u8 47), .lit (.int .u8 59), .lit (.int .u8 36), .lit (.int .u8 45), .lit (.int .u8 43), .lit (.int .u8 51), .lit (.int .u8 22), .lit (.int .u8 53), .lit (.int .u8 39), .lit (.int .u8 33), .lit (.int .u8 30), .lit (.int .u8 24), .lit (.int .u8 18), .lit (.int .u8 12), .lit (.int .u8 5), .lit (.int .u8 63), .lit (.int .u8 55), .lit (.int .u8 48), .lit (.int .u8 27), .lit (.int .u8 60), .lit (.int .u8 41), .lit (.int .u8 37), .lit (.int .u8 16), .lit (.int .u8 46), .lit (.int .u8 35), .lit (.int .u8 44), .lit (.int .u8 21), .lit (.int .u8 52), .lit (.int .u8 32), .lit (.int .u8 23), .lit (.int .u8 11), .lit (.int .u8 54), .lit (.int .u8 26), .lit (.int .u8 40), .lit (.int .u8 15), .lit (.int .u8 34), .lit (.int .u8 20), .lit (.int .u8 31), .lit (.int .u8 10), .lit (.int .u8 25), .lit (.int .u8 14), .lit (.int .u8 19), .lit (.int .u8 9), .lit (.int .u8 13), .lit (.int .u8 8), .lit (.int .u8 7), .lit (.int .u8 6)]
def laid_internal_strconv_uint64pow10 {H : Type} : DataW H := .agg [.lit (.int .u64 1), .lit (.int .u64 10), .lit (.int .u64 100), .lit (.int .u64 1000), .lit (.int .u64 10000), .lit (.int .u64 100000), .lit (.int .u64 1000000), .lit (.int .u64 10000000), .lit (.int .u64 100000000), .lit (.int .u64 1000000000), .lit (.int .u64 10000000000), .lit (.int .u64 100000000000), .lit (.int .u64 1000000000000), .lit (.int .u64 10000000000000), .lit (.int .u64 100000000000000), .lit (.int .u64 1000000000000000), .lit (.int .u64 10000000000000000), .lit (.int .u64 100000000000000000), .lit (.int .u64 1000000000000000000), .lit (.int .u64 10000000000000000000)]
def laid_timbre_api_ErrLimit {H : Type} : DataW H := .iface "*errors.errorString" (.ptr (.agg [.lit (.string [116, 105, 109, 98, 114, 101, 58, 32, 108, 105, 109, 105, 116])]))
def laid_timbre_api_ErrRange {H : Type} : DataW H := .iface "*errors.errorString" (.ptr (.agg [.lit (.string [116, 105, 109, 98, 114, 101, 58, 32, 114, 97, 110, 103, 101])]))
def laid_timbre_api_ErrText {H : Type} : DataW H := .iface "*errors.errorString" (.ptr (.agg [.lit (.string [116, 105, 109, 98, 114, 101, 58, 32, 116, 101, 120, 116])]))
def laid_timbre_api_ErrLength {H : Type} : DataW H := .iface "*errors.errorString" (.ptr (.agg [.lit (.string [116, 105, 109, 98, 114, 101, 58, 32, 108, 101, 110, 103, 116, 104])]))
def laid_timbre_api_ErrOrder {H : Type} : DataW H := .iface "*errors.errorString" (.ptr (.agg [.lit (.string [116, 105, 109, 98, 114, 101, 58, 32, 111, 114, 100, 101, 114])]))
def laid_timbre_api_ErrProgram {H : Type} : DataW H := .iface "*errors.errorString" (.ptr (.agg [.lit (.string [116, 105, 109, 98, 114, 101, 58, 32, 112, 114, 111, 103, 114, 97, 109])]))
def laid_timbre_api_ErrState {H : Type} : DataW H := .iface "*errors.errorString" (.ptr (.agg [.lit (.string [116, 105, 109, 98, 114, 101, 58, 32, 115, 116, 97, 116, 101])]))
def laid_timbre_api_ErrDone {H : Type} : DataW H := .iface "*errors.errorString" (.ptr (.agg [.lit (.string [116, 105, 109, 98, 114, 101, 58, 32, 100, 111, 110, 101])]))
def laid_timbre_api_ErrMode {H : Type} : DataW H := .iface "*errors.errorString" (.ptr (.agg [.lit (.string [116, 105, 109, 98, 114, 101, 58, 32, 109, 111, 100, 101])]))
def laid_timbre_api_ErrExact {H : Type} : DataW H := .iface "*errors.errorString" (.ptr (.agg [.lit (.string [116, 105, 109, 98, 114, 101, 58, 32, 101, 120, 97, 99, 116])]))
def laid_timbre_steps_table {H : Type} : DataW H := .agg [.agg [.lit (.string []), .lit (.bool false), .lit (.bool false), .lit (.int .i64 0), .lit (.bool false)], .agg [.lit (.string [103, 97, 116, 104, 101, 114]), .lit (.bool true), .lit (.bool true), .lit (.int .i64 0), .lit (.bool false)], .agg [.lit (.string [115, 99, 97, 116, 116, 101, 114]), .lit (.bool true), .lit (.bool true), .lit (.int .i64 0), .lit (.bool false)], .agg [.lit (.string [122, 101, 114, 111]), .lit (.bool false), .lit (.bool false), .lit (.int .i64 0), .lit (.bool false)], .agg [.lit (.string [116, 119, 105, 115, 116]), .lit (.bool false), .lit (.bool false), .lit (.int .i64 16384), .lit (.bool true)], .agg [.lit (.string [102, 108, 121]), .lit (.bool false), .lit (.bool true), .lit (.int .i64 5), .lit (.bool false)], .agg [.lit (.string [100, 105, 114, 101, 99, 116]), .lit (.bool true), .lit (.bool true), .lit (.int .i64 64), .lit (.bool false)], .agg [.lit (.string [99, 104, 105, 114, 112]), .lit (.bool false), .lit (.bool false), .lit (.int .i64 16384), .lit (.bool false)], .agg [.lit (.string [102, 105, 108, 108]), .lit (.bool false), .lit (.bool false), .lit (.int .i64 16384), .lit (.bool false)], .agg [.lit (.string [116, 105, 109, 101, 115]), .lit (.bool true), .lit (.bool false), .lit (.int .i64 0), .lit (.bool false)], .agg [.lit (.string [99, 111, 110, 106]), .lit (.bool false), .lit (.bool false), .lit (.int .i64 0), .lit (.bool false)], .agg [.lit (.string [111, 118, 101, 114]), .lit (.bool false), .lit (.bool false), .lit (.int .i64 16384), .lit (.bool false)]]

/-- 'timbretop.WholeSmall': WHATEVER THE INPUT: true; the input reads as it did. -/
def wholeSmallSpec : ChangeSpec := { name := "wholeSmall", fn := fun _ => fun
  | [d1, d2, d3] => { results := [.lit (.bool true)], args := [d1, d2, d3] }
  | _ => none }
def wholeSmallRow : OpenClaim := { program := "ytfaokllgaambjaagreatdoor", sum := "84edae464fae4e8312f573f9dd1c94c346c26d82cb806bea5e28d14c0cd96cf4", func := "timbre/timbretop.WholeSmall", spec := "wholeSmall", inPlace := ["internal/bytealg.IndexByteString", "internal/bytealg.IndexString", "math.Float64frombits", "math.Float64bits", "math/big.addVV", "math/bits.Add64", "math/big.subVV", "math/bits.Sub64"], unfollowed := true, recurses := true, named := ["timbre/api.ErrText", "internal/bytealg.MaxLen", "timbre/api.ErrLimit", "timbre/api.ErrOrder", "timbre/api.ErrMode", "internal/strconv.uint64pow10", "math/bits.deBruijn32tab", "math/bits.deBruijn64tab", "timbre/api.ErrProgram", "timbre/steps.table", "timbre/api.ErrLength", "timbre/api.ErrRange", "timbre/api.ErrDone", "timbre/api.ErrState", "timbre/api.ErrExact"], apart := false, laid := [("math/bits.deBruijn32tab", laid_math_bits_deBruijn32tab), ("math/bits.deBruijn64tab", laid_math_bits_deBruijn64tab), ("internal/strconv.uint64pow10", laid_internal_strconv_uint64pow10), ("timbre/api.ErrLimit", laid_timbre_api_ErrLimit), ("timbre/api.ErrRange", laid_timbre_api_ErrRange), ("timbre/api.ErrText", laid_timbre_api_ErrText), ("timbre/api.ErrLength", laid_timbre_api_ErrLength), ("timbre/api.ErrOrder", laid_timbre_api_ErrOrder), ("timbre/api.ErrProgram", laid_timbre_api_ErrProgram), ("timbre/api.ErrState", laid_timbre_api_ErrState), ("timbre/api.ErrDone", laid_timbre_api_ErrDone), ("timbre/api.ErrMode", laid_timbre_api_ErrMode), ("timbre/api.ErrExact", laid_timbre_api_ErrExact), ("timbre/steps.table", laid_timbre_steps_table)] }
def WholeSmallSaid : Prop := wholeSmallRow.holds Tryz.pinned (OpenSpec.ofChange wholeSmallSpec)

/-- ITS FALSE NEIGHBOUR: 'it returns false'. Refute it at one input. -/
def wholeSmallWrong : ChangeSpec := { name := "wholeSmall", fn := fun _ => fun
  | [d1, d2, d3] => { results := [.lit (.bool false)], args := [d1, d2, d3] }
  | _ => none }
def WholeSmallWrongFalsely : Prop := wholeSmallRow.holds Tryz.pinned (OpenSpec.ofChange wholeSmallWrong)

/- THE SECOND FORM. 'bulk': how many values and letters a reading holds, each counted each time it is reached (what is shared counts as often as it is met; a slice's spare places count too). A statement '..UptoSaid' is the law's where the arguments, and the package variables that the reading takes, are together of bulk at most 1048576: NARROWER than '..Said'. Prove '..Said' where nothing that the law and all that it calls make is longer than what came in: it says more and counts as full. Else prove '..UptoSaid'. A law counts once. -/
mutual
def uptoBulk {H : Type} : DataW H → Nat
  | .lit (.string bytes) => bytes.length + 1
  | .lit _ => 1
  | .nil => 1
  | .ptr d => uptoBulk d + 1
  | .slice elems spare => uptoBulkAll elems + uptoBulkAll spare + 1
  | .agg parts => uptoBulkAll parts + 1
  | .iface _ d => uptoBulk d + 1
  | .map entries => uptoBulkEntries entries + 1
  | .held _ => 1
def uptoBulkAll {H : Type} : List (DataW H) → Nat
  | [] => 0
  | d :: r => uptoBulk d + uptoBulkAll r
def uptoBulkEntries {H : Type} : List (Lit × DataW H) → Nat
  | [] => 0
  | x :: r => uptoBulkEntry x + uptoBulkEntries r
def uptoBulkEntry {H : Type} : Lit × DataW H → Nat
  | (.string bytes, d) => bytes.length + uptoBulk d + 1
  | (_, d) => uptoBulk d + 1
 end
def uptoSmall : (H : Type) → List (DataW H) → Bool := fun _ ds => decide (uptoBulkAll ds ≤ 1048576)
def OpenSpec.upto (s : _root_.Go.ChangeSpec) : _root_.Go.OpenSpec := { _root_.Go.OpenSpec.ofChange s with cond := some uptoSmall }

/-- 'timbretop.WholeSmall', WHERE WHAT IT READS IS OF BULK AT MOST 1048576: true; the input reads as it did. -/
def wholeSmallUptoRow : OpenClaim := { program := "ytfaokllgaambjaagreatdoor", sum := "84edae464fae4e8312f573f9dd1c94c346c26d82cb806bea5e28d14c0cd96cf4", func := "timbre/timbretop.WholeSmall", spec := "wholeSmall", inPlace := ["internal/bytealg.IndexByteString", "internal/bytealg.IndexString", "math.Float64frombits", "math.Float64bits", "math/big.addVV", "math/bits.Add64", "math/big.subVV", "math/bits.Sub64"], unfollowed := true, recurses := true, named := ["timbre/api.ErrText", "internal/bytealg.MaxLen", "timbre/api.ErrLimit", "timbre/api.ErrOrder", "timbre/api.ErrMode", "internal/strconv.uint64pow10", "math/bits.deBruijn32tab", "math/bits.deBruijn64tab", "timbre/api.ErrProgram", "timbre/steps.table", "timbre/api.ErrLength", "timbre/api.ErrRange", "timbre/api.ErrDone", "timbre/api.ErrState", "timbre/api.ErrExact"], apart := false, laid := [("math/bits.deBruijn32tab", laid_math_bits_deBruijn32tab), ("math/bits.deBruijn64tab", laid_math_bits_deBruijn64tab), ("internal/strconv.uint64pow10", laid_internal_strconv_uint64pow10), ("timbre/api.ErrLimit", laid_timbre_api_ErrLimit), ("timbre/api.ErrRange", laid_timbre_api_ErrRange), ("timbre/api.ErrText", laid_timbre_api_ErrText), ("timbre/api.ErrLength", laid_timbre_api_ErrLength), ("timbre/api.ErrOrder", laid_timbre_api_ErrOrder), ("timbre/api.ErrProgram", laid_timbre_api_ErrProgram), ("timbre/api.ErrState", laid_timbre_api_ErrState), ("timbre/api.ErrDone", laid_timbre_api_ErrDone), ("timbre/api.ErrMode", laid_timbre_api_ErrMode), ("timbre/api.ErrExact", laid_timbre_api_ErrExact), ("timbre/steps.table", laid_timbre_steps_table)], narrowed := true }
def WholeSmallUptoSaid : Prop := wholeSmallUptoRow.holds Tryz.pinned (OpenSpec.upto wholeSmallSpec)

end Rows
end Go.Proofs.YtfaokllgaambjaaGreatDoor
