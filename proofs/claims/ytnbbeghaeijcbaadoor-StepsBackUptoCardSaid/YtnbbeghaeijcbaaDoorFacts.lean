/- Closed facts of the program: types, fields, functions. -/
import Derived.Test.YtnbbeghaeijcbaaDoorEng8
import Derived.Test.YtnbbeghaeijcbaaDoorProg
import Derived.KernelRfl
namespace Go.Proofs.YtnbbeghaeijcbaaDoor
open Go Go.Eng
set_option maxRecDepth 100000
set_option linter.unusedVariables false
set_option linter.unusedSimpArgs false
theorem hmix : Tryd.prog.follows .mixedOrders = true := by kernel_rfl
theorem ag25 : aggOf Tryd.prog 25 = some 7 := by kernel_rfl
theorem ag33 : aggOf Tryd.prog 33 = some 5 := by kernel_rfl
theorem ag62 : aggOf Tryd.prog 62 = some 5 := by kernel_rfl
theorem ag66 : aggOf Tryd.prog 66 = some 19 := by kernel_rfl
theorem ag94 : aggOf Tryd.prog 94 = some 5 := by kernel_rfl
theorem ar66 : arrayOf Tryd.prog 66 = some (19, 29, 1) := by kernel_rfl
theorem ar95 : arrayOf Tryd.prog 95 = some (12, 94, 5) := by kernel_rfl
theorem cl10 : callable Tryd.prog 10 = true := by kernel_rfl
theorem cl11 : callable Tryd.prog 11 = true := by kernel_rfl
theorem cl12 : callable Tryd.prog 12 = true := by kernel_rfl
theorem cl13 : callable Tryd.prog 13 = true := by kernel_rfl
theorem cl14 : callable Tryd.prog 14 = true := by kernel_rfl
theorem cl15 : callable Tryd.prog 15 = true := by kernel_rfl
theorem cl16 : callable Tryd.prog 16 = true := by kernel_rfl
theorem cl17 : callable Tryd.prog 17 = true := by kernel_rfl
theorem cl18 : callable Tryd.prog 18 = true := by kernel_rfl
theorem cl19 : callable Tryd.prog 19 = true := by kernel_rfl
theorem cl20 : callable Tryd.prog 20 = true := by kernel_rfl
theorem cl21 : callable Tryd.prog 21 = true := by kernel_rfl
theorem cl22 : callable Tryd.prog 22 = true := by kernel_rfl
theorem cl23 : callable Tryd.prog 23 = true := by kernel_rfl
theorem cl24 : callable Tryd.prog 24 = true := by kernel_rfl
theorem cl25 : callable Tryd.prog 25 = true := by kernel_rfl
theorem cl26 : callable Tryd.prog 26 = true := by kernel_rfl
theorem cl27 : callable Tryd.prog 27 = true := by kernel_rfl
theorem cl28 : callable Tryd.prog 28 = true := by kernel_rfl
theorem cl29 : callable Tryd.prog 29 = true := by kernel_rfl
theorem cl30 : callable Tryd.prog 30 = true := by kernel_rfl
theorem cl31 : callable Tryd.prog 31 = true := by kernel_rfl
theorem cl32 : callable Tryd.prog 32 = true := by kernel_rfl
theorem cl33 : callable Tryd.prog 33 = true := by kernel_rfl
theorem cl34 : callable Tryd.prog 34 = true := by kernel_rfl
theorem cl35 : callable Tryd.prog 35 = true := by kernel_rfl
theorem cl36 : callable Tryd.prog 36 = true := by kernel_rfl
theorem cl37 : callable Tryd.prog 37 = true := by kernel_rfl
theorem cl38 : callable Tryd.prog 38 = true := by kernel_rfl
theorem cl39 : callable Tryd.prog 39 = true := by kernel_rfl
theorem cl40 : callable Tryd.prog 40 = true := by kernel_rfl
theorem cl41 : callable Tryd.prog 41 = true := by kernel_rfl
theorem cl42 : callable Tryd.prog 42 = true := by kernel_rfl
theorem cl43 : callable Tryd.prog 43 = true := by kernel_rfl
theorem cl44 : callable Tryd.prog 44 = true := by kernel_rfl
theorem cl45 : callable Tryd.prog 45 = true := by kernel_rfl
theorem cl46 : callable Tryd.prog 46 = true := by kernel_rfl
theorem cl47 : callable Tryd.prog 47 = true := by kernel_rfl
theorem cl48 : callable Tryd.prog 48 = true := by kernel_rfl
theorem cl49 : callable Tryd.prog 49 = true := by kernel_rfl
theorem cl50 : callable Tryd.prog 50 = true := by kernel_rfl
theorem cl51 : callable Tryd.prog 51 = true := by kernel_rfl
theorem cl52 : callable Tryd.prog 52 = true := by kernel_rfl
theorem cl53 : callable Tryd.prog 53 = true := by kernel_rfl
theorem cl54 : callable Tryd.prog 54 = true := by kernel_rfl
theorem fl25 : flatB Tryd.prog 25 = true := by kernel_rfl
theorem fo100_0 : fieldOff Tryd.prog 100 0 = some 0 := by kernel_rfl
theorem fo100_1 : fieldOff Tryd.prog 100 1 = some 1 := by kernel_rfl
theorem fo25_0 : fieldOff Tryd.prog 25 0 = some 0 := by kernel_rfl
theorem fo25_1 : fieldOff Tryd.prog 25 1 = some 1 := by kernel_rfl
theorem fo25_2 : fieldOff Tryd.prog 25 2 = some 2 := by kernel_rfl
theorem fo25_3 : fieldOff Tryd.prog 25 3 = some 3 := by kernel_rfl
theorem fo25_4 : fieldOff Tryd.prog 25 4 = some 4 := by kernel_rfl
theorem fo25_5 : fieldOff Tryd.prog 25 5 = some 5 := by kernel_rfl
theorem fo25_6 : fieldOff Tryd.prog 25 6 = some 6 := by kernel_rfl
theorem fo33_0 : fieldOff Tryd.prog 33 0 = some 0 := by kernel_rfl
theorem fo33_1 : fieldOff Tryd.prog 33 1 = some 1 := by kernel_rfl
theorem fo33_2 : fieldOff Tryd.prog 33 2 = some 2 := by kernel_rfl
theorem fo33_3 : fieldOff Tryd.prog 33 3 = some 3 := by kernel_rfl
theorem fo33_4 : fieldOff Tryd.prog 33 4 = some 4 := by kernel_rfl
theorem fo62_0 : fieldOff Tryd.prog 62 0 = some 0 := by kernel_rfl
theorem fo62_1 : fieldOff Tryd.prog 62 1 = some 1 := by kernel_rfl
theorem fo62_2 : fieldOff Tryd.prog 62 2 = some 2 := by kernel_rfl
theorem fo62_3 : fieldOff Tryd.prog 62 3 = some 3 := by kernel_rfl
theorem fo62_4 : fieldOff Tryd.prog 62 4 = some 4 := by kernel_rfl
theorem fo87_0 : fieldOff Tryd.prog 87 0 = some 0 := by kernel_rfl
theorem fo87_1 : fieldOff Tryd.prog 87 1 = some 1 := by kernel_rfl
theorem fo94_0 : fieldOff Tryd.prog 94 0 = some 0 := by kernel_rfl
theorem fo94_1 : fieldOff Tryd.prog 94 1 = some 1 := by kernel_rfl
theorem fo94_2 : fieldOff Tryd.prog 94 2 = some 2 := by kernel_rfl
theorem fo94_3 : fieldOff Tryd.prog 94 3 = some 3 := by kernel_rfl
theorem fo94_4 : fieldOff Tryd.prog 94 4 = some 4 := by kernel_rfl
theorem fo98_0 : fieldOff Tryd.prog 98 0 = some 0 := by kernel_rfl
theorem if29 : isIface Tryd.prog 29 = true := by kernel_rfl
theorem ki3 : kindOf Tryd.prog 3 = some .i64 := by kernel_rfl
theorem ki48 : kindOf Tryd.prog 48 = some .u64 := by kernel_rfl
theorem ki5 : kindOf Tryd.prog 5 = some .u8 := by kernel_rfl
theorem ki74 : kindOf Tryd.prog 74 = some .u64 := by kernel_rfl
theorem one22 : oneOf Tryd.prog 22 = true := by kernel_rfl
theorem one29 : oneOf Tryd.prog 29 = true := by kernel_rfl
theorem one3 : oneOf Tryd.prog 3 = true := by kernel_rfl
theorem one36 : oneOf Tryd.prog 36 = true := by kernel_rfl
theorem one4 : oneOf Tryd.prog 4 = true := by kernel_rfl
theorem one5 : oneOf Tryd.prog 5 = true := by kernel_rfl
theorem one50 : oneOf Tryd.prog 50 = true := by kernel_rfl
theorem one80 : oneOf Tryd.prog 80 = true := by kernel_rfl
theorem one9 : oneOf Tryd.prog 9 = true := by kernel_rfl
theorem sl22 : sliceOf Tryd.prog 22 = some (25, 7) := by kernel_rfl
theorem sl36 : sliceOf Tryd.prog 36 = some (5, 1) := by kernel_rfl
theorem sl63 : sliceOf Tryd.prog 63 = some (62, 5) := by kernel_rfl
theorem sl70 : sliceOf Tryd.prog 70 = some (50, 1) := by kernel_rfl
theorem sl77 : sliceOf Tryd.prog 77 = some (3, 1) := by kernel_rfl
theorem sz22 : szOf Tryd.prog 22 = some 1 := by kernel_rfl
theorem sz25 : szOf Tryd.prog 25 = some 7 := by kernel_rfl
theorem sz3 : szOf Tryd.prog 3 = some 1 := by kernel_rfl
theorem sz33 : szOf Tryd.prog 33 = some 5 := by kernel_rfl
theorem sz36 : szOf Tryd.prog 36 = some 1 := by kernel_rfl
theorem sz5 : szOf Tryd.prog 5 = some 1 := by kernel_rfl
theorem sz62 : szOf Tryd.prog 62 = some 5 := by kernel_rfl
theorem sz66 : szOf Tryd.prog 66 = some 19 := by kernel_rfl
theorem sz94 : szOf Tryd.prog 94 = some 5 := by kernel_rfl
theorem ud4 : Tryd.prog.underlying 4 = some .bool := by kernel_rfl
theorem ud5 : Tryd.prog.underlying 5 = some (.int .u8) := by kernel_rfl
theorem ud9 : Tryd.prog.underlying 9 = some .string := by kernel_rfl
theorem zr25 : (Tryd.prog.info? 25).bind (·.zero) = some (.agg #[.int .i64 0, .int .i64 0, .int .i64 0, .int .i64 0, .int .i64 0, .int .i64 0, .int .i64 0]) := by kernel_rfl
theorem zr3 : (Tryd.prog.info? 3).bind (·.zero) = some (.int .i64 0) := by kernel_rfl
theorem zr33 : (Tryd.prog.info? 33).bind (·.zero) = some (.agg #[.int .i64 0, .int .i64 0, .int .i64 0, .int .i64 0, .slice none 0 0]) := by kernel_rfl
theorem zr62 : (Tryd.prog.info? 62).bind (·.zero) = some (.agg #[.string ⟨#[]⟩, .bool false, .bool false, .bool false, .bool false]) := by kernel_rfl
theorem zr66 : (Tryd.prog.info? 66).bind (·.zero) = some (.agg #[.nilIface, .nilIface, .nilIface, .nilIface, .nilIface, .nilIface, .nilIface, .nilIface, .nilIface, .nilIface, .nilIface, .nilIface, .nilIface, .nilIface, .nilIface, .nilIface, .nilIface, .nilIface, .nilIface]) := by kernel_rfl
theorem zr94 : (Tryd.prog.info? 94).bind (·.zero) = some (.agg #[.string ⟨#[]⟩, .bool false, .bool false, .int .i64 0, .bool false]) := by kernel_rfl
end Go.Proofs.YtnbbeghaeijcbaaDoor
