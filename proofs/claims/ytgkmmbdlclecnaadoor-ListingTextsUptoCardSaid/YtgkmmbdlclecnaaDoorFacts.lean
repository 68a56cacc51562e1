/- Closed facts of the program: types, fields, functions. -/
import Derived.Test.YtgkmmbdlclecnaaDoorEng18
import Derived.Test.YtgkmmbdlclecnaaDoorProg
import Derived.KernelRfl
namespace Go.Proofs.YtgkmmbdlclecnaaDoor
open Go Go.Eng
set_option maxRecDepth 100000
set_option linter.unusedVariables false
set_option linter.unusedSimpArgs false
theorem hmix : Tryd.prog.follows .mixedOrders = true := by kernel_rfl
theorem ag24 : aggOf Tryd.prog 24 = some 5 := by kernel_rfl
theorem ag26 : aggOf Tryd.prog 26 = some 7 := by kernel_rfl
theorem ag59 : aggOf Tryd.prog 59 = some 19 := by kernel_rfl
theorem ag66 : aggOf Tryd.prog 66 = some 2 := by kernel_rfl
theorem ag67 : aggOf Tryd.prog 67 = some 12 := by kernel_rfl
theorem ag85 : aggOf Tryd.prog 85 = some 5 := by kernel_rfl
theorem ag90 : aggOf Tryd.prog 90 = some 5 := by kernel_rfl
theorem ar105 : arrayOf Tryd.prog 105 = some (24, 5, 1) := by kernel_rfl
theorem ar59 : arrayOf Tryd.prog 59 = some (19, 29, 1) := by kernel_rfl
theorem ar67 : arrayOf Tryd.prog 67 = some (6, 66, 2) := by kernel_rfl
theorem ar80 : arrayOf Tryd.prog 80 = some (4, 3, 1) := by kernel_rfl
theorem ar91 : arrayOf Tryd.prog 91 = some (12, 90, 5) := by kernel_rfl
theorem cl10 : callable Tryd.prog 10 = true := by kernel_rfl
theorem cl11 : callable Tryd.prog 11 = true := by kernel_rfl
theorem cl12 : callable Tryd.prog 12 = true := by kernel_rfl
theorem cl13 : callable Tryd.prog 13 = true := by kernel_rfl
theorem cl16 : callable Tryd.prog 16 = true := by kernel_rfl
theorem cl17 : callable Tryd.prog 17 = true := by kernel_rfl
theorem cl18 : callable Tryd.prog 18 = true := by kernel_rfl
theorem cl19 : callable Tryd.prog 19 = true := by kernel_rfl
theorem cl20 : callable Tryd.prog 20 = true := by kernel_rfl
theorem cl21 : callable Tryd.prog 21 = true := by kernel_rfl
theorem cl22 : callable Tryd.prog 22 = true := by kernel_rfl
theorem cl23 : callable Tryd.prog 23 = true := by kernel_rfl
theorem cl24 : callable Tryd.prog 24 = true := by kernel_rfl
theorem cl25 : callable Tryd.prog 25 = true := by kernel_rfl
theorem cl26 : callable Tryd.prog 26 = true := by kernel_rfl
theorem cl33 : callable Tryd.prog 33 = true := by kernel_rfl
theorem cl34 : callable Tryd.prog 34 = true := by kernel_rfl
theorem cl35 : callable Tryd.prog 35 = true := by kernel_rfl
theorem cl36 : callable Tryd.prog 36 = true := by kernel_rfl
theorem cl37 : callable Tryd.prog 37 = true := by kernel_rfl
theorem cl38 : callable Tryd.prog 38 = true := by kernel_rfl
theorem cl39 : callable Tryd.prog 39 = true := by kernel_rfl
theorem cl40 : callable Tryd.prog 40 = true := by kernel_rfl
theorem cl41 : callable Tryd.prog 41 = true := by kernel_rfl
theorem cl42 : callable Tryd.prog 42 = true := by kernel_rfl
theorem cl43 : callable Tryd.prog 43 = true := by kernel_rfl
theorem cl44 : callable Tryd.prog 44 = true := by kernel_rfl
theorem cl45 : callable Tryd.prog 45 = true := by kernel_rfl
theorem cl53 : callable Tryd.prog 53 = true := by kernel_rfl
theorem cl54 : callable Tryd.prog 54 = true := by kernel_rfl
theorem cl59 : callable Tryd.prog 59 = true := by kernel_rfl
theorem cl60 : callable Tryd.prog 60 = true := by kernel_rfl
theorem cl61 : callable Tryd.prog 61 = true := by kernel_rfl
theorem cl7 : callable Tryd.prog 7 = true := by kernel_rfl
theorem cl8 : callable Tryd.prog 8 = true := by kernel_rfl
theorem cl9 : callable Tryd.prog 9 = true := by kernel_rfl
theorem co5 : Tryd.prog.cellsOf 5 = 1 := by kernel_rfl
theorem fl26 : flatB Tryd.prog 26 = true := by kernel_rfl
theorem fo24_0 : fieldOff Tryd.prog 24 0 = some 0 := by kernel_rfl
theorem fo24_1 : fieldOff Tryd.prog 24 1 = some 1 := by kernel_rfl
theorem fo24_2 : fieldOff Tryd.prog 24 2 = some 2 := by kernel_rfl
theorem fo24_3 : fieldOff Tryd.prog 24 3 = some 3 := by kernel_rfl
theorem fo24_4 : fieldOff Tryd.prog 24 4 = some 4 := by kernel_rfl
theorem fo26_0 : fieldOff Tryd.prog 26 0 = some 0 := by kernel_rfl
theorem fo26_1 : fieldOff Tryd.prog 26 1 = some 1 := by kernel_rfl
theorem fo26_2 : fieldOff Tryd.prog 26 2 = some 2 := by kernel_rfl
theorem fo26_3 : fieldOff Tryd.prog 26 3 = some 3 := by kernel_rfl
theorem fo26_4 : fieldOff Tryd.prog 26 4 = some 4 := by kernel_rfl
theorem fo26_5 : fieldOff Tryd.prog 26 5 = some 5 := by kernel_rfl
theorem fo26_6 : fieldOff Tryd.prog 26 6 = some 6 := by kernel_rfl
theorem fo50_0 : fieldOff Tryd.prog 50 0 = some 0 := by kernel_rfl
theorem fo50_1 : fieldOff Tryd.prog 50 1 = some 1 := by kernel_rfl
theorem fo66_0 : fieldOff Tryd.prog 66 0 = some 0 := by kernel_rfl
theorem fo66_1 : fieldOff Tryd.prog 66 1 = some 1 := by kernel_rfl
theorem fo85_0 : fieldOff Tryd.prog 85 0 = some 0 := by kernel_rfl
theorem fo85_1 : fieldOff Tryd.prog 85 1 = some 1 := by kernel_rfl
theorem fo85_2 : fieldOff Tryd.prog 85 2 = some 2 := by kernel_rfl
theorem fo85_3 : fieldOff Tryd.prog 85 3 = some 3 := by kernel_rfl
theorem fo85_4 : fieldOff Tryd.prog 85 4 = some 4 := by kernel_rfl
theorem fo90_0 : fieldOff Tryd.prog 90 0 = some 0 := by kernel_rfl
theorem fo90_1 : fieldOff Tryd.prog 90 1 = some 1 := by kernel_rfl
theorem fo90_2 : fieldOff Tryd.prog 90 2 = some 2 := by kernel_rfl
theorem fo90_3 : fieldOff Tryd.prog 90 3 = some 3 := by kernel_rfl
theorem fo90_4 : fieldOff Tryd.prog 90 4 = some 4 := by kernel_rfl
theorem if29 : isIface Tryd.prog 29 = true := by kernel_rfl
theorem ki2 : kindOf Tryd.prog 2 = some .i64 := by kernel_rfl
theorem ki3 : kindOf Tryd.prog 3 = some .i64 := by kernel_rfl
theorem ki5 : kindOf Tryd.prog 5 = some .u8 := by kernel_rfl
theorem ki82 : kindOf Tryd.prog 82 = some .u64 := by kernel_rfl
theorem one22 : oneOf Tryd.prog 22 = true := by kernel_rfl
theorem one29 : oneOf Tryd.prog 29 = true := by kernel_rfl
theorem one3 : oneOf Tryd.prog 3 = true := by kernel_rfl
theorem one4 : oneOf Tryd.prog 4 = true := by kernel_rfl
theorem one47 : oneOf Tryd.prog 47 = true := by kernel_rfl
theorem one48 : oneOf Tryd.prog 48 = true := by kernel_rfl
theorem one5 : oneOf Tryd.prog 5 = true := by kernel_rfl
theorem one64 : oneOf Tryd.prog 64 = true := by kernel_rfl
theorem one9 : oneOf Tryd.prog 9 = true := by kernel_rfl
theorem pn47 : Tryd.prog.underlying 47 = some (.pointer (Tryd.prog.pointee 47)) := by kernel_rfl
theorem sl22 : sliceOf Tryd.prog 22 = some (26, 7) := by kernel_rfl
theorem sl48 : sliceOf Tryd.prog 48 = some (5, 1) := by kernel_rfl
theorem sl55 : sliceOf Tryd.prog 55 = some (3, 1) := by kernel_rfl
theorem sl86 : sliceOf Tryd.prog 86 = some (85, 5) := by kernel_rfl
theorem sz22 : szOf Tryd.prog 22 = some 1 := by kernel_rfl
theorem sz24 : szOf Tryd.prog 24 = some 5 := by kernel_rfl
theorem sz26 : szOf Tryd.prog 26 = some 7 := by kernel_rfl
theorem sz47 : szOf Tryd.prog 47 = some 1 := by kernel_rfl
theorem sz48 : szOf Tryd.prog 48 = some 1 := by kernel_rfl
theorem sz50 : szOf Tryd.prog 50 = some 2 := by kernel_rfl
theorem sz59 : szOf Tryd.prog 59 = some 19 := by kernel_rfl
theorem sz66 : szOf Tryd.prog 66 = some 2 := by kernel_rfl
theorem sz67 : szOf Tryd.prog 67 = some 12 := by kernel_rfl
theorem sz85 : szOf Tryd.prog 85 = some 5 := by kernel_rfl
theorem sz90 : szOf Tryd.prog 90 = some 5 := by kernel_rfl
theorem ud48 : Tryd.prog.underlying 48 = some (.slice 5) := by kernel_rfl
theorem ud5 : Tryd.prog.underlying 5 = some (.int .u8) := by kernel_rfl
theorem ud9 : Tryd.prog.underlying 9 = some .string := by kernel_rfl
theorem ud96 : Tryd.prog.underlying 96 = some .unsafePointer := by kernel_rfl
theorem udp47 : Tryd.prog.underlying 47 = some (.pointer 50) := by kernel_rfl
theorem udp81 : Tryd.prog.underlying 81 = some (.pointer 5) := by kernel_rfl
theorem zr24 : (Tryd.prog.info? 24).bind (·.zero) = some (.agg #[.int .i64 0, .int .i64 0, .int .i64 0, .int .i64 0, .slice none 0 0]) := by kernel_rfl
theorem zr26 : (Tryd.prog.info? 26).bind (·.zero) = some (.agg #[.int .i64 0, .int .i64 0, .int .i64 0, .int .i64 0, .int .i64 0, .int .i64 0, .int .i64 0]) := by kernel_rfl
theorem zr50 : (Tryd.prog.info? 50).bind (·.zero) = some (.agg #[.pointer none, .slice none 0 0]) := by kernel_rfl
theorem zr59 : (Tryd.prog.info? 59).bind (·.zero) = some (.agg #[.nilIface, .nilIface, .nilIface, .nilIface, .nilIface, .nilIface, .nilIface, .nilIface, .nilIface, .nilIface, .nilIface, .nilIface, .nilIface, .nilIface, .nilIface, .nilIface, .nilIface, .nilIface, .nilIface]) := by kernel_rfl
theorem zr66 : (Tryd.prog.info? 66).bind (·.zero) = some (.agg #[.int .u8 0, .nilFunc]) := by kernel_rfl
theorem zr67 : (Tryd.prog.info? 67).bind (·.zero) = some (.agg #[.int .u8 0, .nilFunc, .int .u8 0, .nilFunc, .int .u8 0, .nilFunc, .int .u8 0, .nilFunc, .int .u8 0, .nilFunc, .int .u8 0, .nilFunc]) := by kernel_rfl
theorem zr85 : (Tryd.prog.info? 85).bind (·.zero) = some (.agg #[.string ⟨#[]⟩, .bool false, .bool false, .bool false, .bool false]) := by kernel_rfl
theorem zr90 : (Tryd.prog.info? 90).bind (·.zero) = some (.agg #[.string ⟨#[]⟩, .bool false, .bool false, .int .i64 0, .bool false]) := by kernel_rfl
end Go.Proofs.YtgkmmbdlclecnaaDoor
