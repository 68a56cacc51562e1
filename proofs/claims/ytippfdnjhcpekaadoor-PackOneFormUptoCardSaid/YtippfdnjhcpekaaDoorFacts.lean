/- Closed facts of the program: types, fields, functions. -/
import Derived.Test.YtippfdnjhcpekaaDoorEng15
import Derived.Test.YtippfdnjhcpekaaDoorProg
import Derived.KernelRfl
namespace Go.Proofs.YtippfdnjhcpekaaDoor
open Go Go.Eng
set_option maxRecDepth 100000
set_option linter.unusedVariables false
set_option linter.unusedSimpArgs false
theorem hmix : Tryd.prog.follows .mixedOrders = true := by kernel_rfl
theorem ag128 : aggOf Tryd.prog 128 = some 19 := by kernel_rfl
theorem ag30 : aggOf Tryd.prog 30 = some 6 := by kernel_rfl
theorem ar128 : arrayOf Tryd.prog 128 = some (19, 40, 1) := by kernel_rfl
theorem ar139 : arrayOf Tryd.prog 139 = some (2, 136, 1) := by kernel_rfl
theorem cl10 : callable Tryd.prog 10 = true := by kernel_rfl
theorem cl100 : callable Tryd.prog 100 = true := by kernel_rfl
theorem cl101 : callable Tryd.prog 101 = true := by kernel_rfl
theorem cl102 : callable Tryd.prog 102 = true := by kernel_rfl
theorem cl11 : callable Tryd.prog 11 = true := by kernel_rfl
theorem cl12 : callable Tryd.prog 12 = true := by kernel_rfl
theorem cl13 : callable Tryd.prog 13 = true := by kernel_rfl
theorem cl14 : callable Tryd.prog 14 = true := by kernel_rfl
theorem cl15 : callable Tryd.prog 15 = true := by kernel_rfl
theorem cl16 : callable Tryd.prog 16 = true := by kernel_rfl
theorem cl17 : callable Tryd.prog 17 = true := by kernel_rfl
theorem cl18 : callable Tryd.prog 18 = true := by kernel_rfl
theorem cl19 : callable Tryd.prog 19 = true := by kernel_rfl
theorem cl20 : callable Tryd.prog 20 = true := by kernel_rfl
theorem cl21 : callable Tryd.prog 21 = true := by kernel_rfl
theorem cl22 : callable Tryd.prog 22 = true := by kernel_rfl
theorem cl23 : callable Tryd.prog 23 = true := by kernel_rfl
theorem cl24 : callable Tryd.prog 24 = true := by kernel_rfl
theorem cl25 : callable Tryd.prog 25 = true := by kernel_rfl
theorem cl26 : callable Tryd.prog 26 = true := by kernel_rfl
theorem cl27 : callable Tryd.prog 27 = true := by kernel_rfl
theorem cl28 : callable Tryd.prog 28 = true := by kernel_rfl
theorem cl29 : callable Tryd.prog 29 = true := by kernel_rfl
theorem cl30 : callable Tryd.prog 30 = true := by kernel_rfl
theorem cl31 : callable Tryd.prog 31 = true := by kernel_rfl
theorem cl32 : callable Tryd.prog 32 = true := by kernel_rfl
theorem cl33 : callable Tryd.prog 33 = true := by kernel_rfl
theorem cl34 : callable Tryd.prog 34 = true := by kernel_rfl
theorem cl35 : callable Tryd.prog 35 = true := by kernel_rfl
theorem cl36 : callable Tryd.prog 36 = true := by kernel_rfl
theorem cl37 : callable Tryd.prog 37 = true := by kernel_rfl
theorem cl38 : callable Tryd.prog 38 = true := by kernel_rfl
theorem cl39 : callable Tryd.prog 39 = true := by kernel_rfl
theorem cl40 : callable Tryd.prog 40 = true := by kernel_rfl
theorem cl41 : callable Tryd.prog 41 = true := by kernel_rfl
theorem cl42 : callable Tryd.prog 42 = true := by kernel_rfl
theorem cl43 : callable Tryd.prog 43 = true := by kernel_rfl
theorem cl44 : callable Tryd.prog 44 = true := by kernel_rfl
theorem cl45 : callable Tryd.prog 45 = true := by kernel_rfl
theorem cl46 : callable Tryd.prog 46 = true := by kernel_rfl
theorem cl47 : callable Tryd.prog 47 = true := by kernel_rfl
theorem cl48 : callable Tryd.prog 48 = true := by kernel_rfl
theorem cl49 : callable Tryd.prog 49 = true := by kernel_rfl
theorem cl50 : callable Tryd.prog 50 = true := by kernel_rfl
theorem cl51 : callable Tryd.prog 51 = true := by kernel_rfl
theorem cl52 : callable Tryd.prog 52 = true := by kernel_rfl
theorem cl53 : callable Tryd.prog 53 = true := by kernel_rfl
theorem cl54 : callable Tryd.prog 54 = true := by kernel_rfl
theorem cl55 : callable Tryd.prog 55 = true := by kernel_rfl
theorem cl56 : callable Tryd.prog 56 = true := by kernel_rfl
theorem cl57 : callable Tryd.prog 57 = true := by kernel_rfl
theorem cl58 : callable Tryd.prog 58 = true := by kernel_rfl
theorem cl59 : callable Tryd.prog 59 = true := by kernel_rfl
theorem cl60 : callable Tryd.prog 60 = true := by kernel_rfl
theorem cl61 : callable Tryd.prog 61 = true := by kernel_rfl
theorem cl62 : callable Tryd.prog 62 = true := by kernel_rfl
theorem cl63 : callable Tryd.prog 63 = true := by kernel_rfl
theorem cl64 : callable Tryd.prog 64 = true := by kernel_rfl
theorem cl65 : callable Tryd.prog 65 = true := by kernel_rfl
theorem cl66 : callable Tryd.prog 66 = true := by kernel_rfl
theorem cl67 : callable Tryd.prog 67 = true := by kernel_rfl
theorem cl68 : callable Tryd.prog 68 = true := by kernel_rfl
theorem cl69 : callable Tryd.prog 69 = true := by kernel_rfl
theorem cl70 : callable Tryd.prog 70 = true := by kernel_rfl
theorem cl71 : callable Tryd.prog 71 = true := by kernel_rfl
theorem cl72 : callable Tryd.prog 72 = true := by kernel_rfl
theorem cl74 : callable Tryd.prog 74 = true := by kernel_rfl
theorem cl75 : callable Tryd.prog 75 = true := by kernel_rfl
theorem cl76 : callable Tryd.prog 76 = true := by kernel_rfl
theorem cl77 : callable Tryd.prog 77 = true := by kernel_rfl
theorem cl78 : callable Tryd.prog 78 = true := by kernel_rfl
theorem cl79 : callable Tryd.prog 79 = true := by kernel_rfl
theorem cl8 : callable Tryd.prog 8 = true := by kernel_rfl
theorem cl80 : callable Tryd.prog 80 = true := by kernel_rfl
theorem cl82 : callable Tryd.prog 82 = true := by kernel_rfl
theorem cl83 : callable Tryd.prog 83 = true := by kernel_rfl
theorem cl84 : callable Tryd.prog 84 = true := by kernel_rfl
theorem cl85 : callable Tryd.prog 85 = true := by kernel_rfl
theorem cl86 : callable Tryd.prog 86 = true := by kernel_rfl
theorem cl87 : callable Tryd.prog 87 = true := by kernel_rfl
theorem cl89 : callable Tryd.prog 89 = true := by kernel_rfl
theorem cl9 : callable Tryd.prog 9 = true := by kernel_rfl
theorem cl90 : callable Tryd.prog 90 = true := by kernel_rfl
theorem cl91 : callable Tryd.prog 91 = true := by kernel_rfl
theorem cl92 : callable Tryd.prog 92 = true := by kernel_rfl
theorem cl93 : callable Tryd.prog 93 = true := by kernel_rfl
theorem cl94 : callable Tryd.prog 94 = true := by kernel_rfl
theorem cl95 : callable Tryd.prog 95 = true := by kernel_rfl
theorem cl96 : callable Tryd.prog 96 = true := by kernel_rfl
theorem cl97 : callable Tryd.prog 97 = true := by kernel_rfl
theorem cl98 : callable Tryd.prog 98 = true := by kernel_rfl
theorem ext73 : ExtIs Tryd.prog 73 Extern.MathFloatBits.float64frombits := ⟨_, Tryd.func73, by decide, by decide, by kernel_rfl, by kernel_rfl⟩
theorem ext81 : ExtIs Tryd.prog 81 Extern.MathFloatBits.float32bits := ⟨_, Tryd.func81, by decide, by decide, by kernel_rfl, by kernel_rfl⟩
theorem ext88 : ExtIs Tryd.prog 88 Extern.MathFloatBits.float32frombits := ⟨_, Tryd.func88, by decide, by decide, by kernel_rfl, by kernel_rfl⟩
theorem ext99 : ExtIs Tryd.prog 99 Extern.MathFloatBits.float64bits := ⟨_, Tryd.func99, by decide, by decide, by kernel_rfl, by kernel_rfl⟩
theorem fo102_0 : fieldOff Tryd.prog 102 0 = some 0 := by kernel_rfl
theorem fo102_1 : fieldOff Tryd.prog 102 1 = some 1 := by kernel_rfl
theorem fo30_0 : fieldOff Tryd.prog 30 0 = some 0 := by kernel_rfl
theorem fo30_1 : fieldOff Tryd.prog 30 1 = some 1 := by kernel_rfl
theorem fo30_2 : fieldOff Tryd.prog 30 2 = some 2 := by kernel_rfl
theorem fo30_3 : fieldOff Tryd.prog 30 3 = some 3 := by kernel_rfl
theorem fo30_4 : fieldOff Tryd.prog 30 4 = some 4 := by kernel_rfl
theorem fo30_5 : fieldOff Tryd.prog 30 5 = some 5 := by kernel_rfl
theorem fo49_0 : fieldOff Tryd.prog 49 0 = some 0 := by kernel_rfl
theorem fo49_1 : fieldOff Tryd.prog 49 1 = some 1 := by kernel_rfl
theorem fo86_0 : fieldOff Tryd.prog 86 0 = some 0 := by kernel_rfl
theorem if40 : isIface Tryd.prog 40 = true := by kernel_rfl
theorem ki140 : kindOf Tryd.prog 140 = some .u32 := by kernel_rfl
theorem ki2 : kindOf Tryd.prog 2 = some .i64 := by kernel_rfl
theorem ki27 : kindOf Tryd.prog 27 = some .u64 := by kernel_rfl
theorem ki3 : kindOf Tryd.prog 3 = some .i64 := by kernel_rfl
theorem ki5 : kindOf Tryd.prog 5 = some .u8 := by kernel_rfl
theorem ki82 : kindOf Tryd.prog 82 = some .u64 := by kernel_rfl
theorem one136 : oneOf Tryd.prog 136 = true := by kernel_rfl
theorem one26 : oneOf Tryd.prog 26 = true := by kernel_rfl
theorem one27 : oneOf Tryd.prog 27 = true := by kernel_rfl
theorem one28 : oneOf Tryd.prog 28 = true := by kernel_rfl
theorem one3 : oneOf Tryd.prog 3 = true := by kernel_rfl
theorem one38 : oneOf Tryd.prog 38 = true := by kernel_rfl
theorem one40 : oneOf Tryd.prog 40 = true := by kernel_rfl
theorem one42 : oneOf Tryd.prog 42 = true := by kernel_rfl
theorem one5 : oneOf Tryd.prog 5 = true := by kernel_rfl
theorem one61 : oneOf Tryd.prog 61 = true := by kernel_rfl
theorem one63 : oneOf Tryd.prog 63 = true := by kernel_rfl
theorem one66 : oneOf Tryd.prog 66 = true := by kernel_rfl
theorem one9 : oneOf Tryd.prog 9 = true := by kernel_rfl
theorem pn24 : Tryd.prog.underlying 24 = some (.pointer (Tryd.prog.pointee 24)) := by kernel_rfl
theorem pn42 : Tryd.prog.underlying 42 = some (.pointer (Tryd.prog.pointee 42)) := by kernel_rfl
theorem sl22 : sliceOf Tryd.prog 22 = some (30, 6) := by kernel_rfl
theorem sl26 : sliceOf Tryd.prog 26 = some (5, 1) := by kernel_rfl
theorem sl28 : sliceOf Tryd.prog 28 = some (27, 1) := by kernel_rfl
theorem sl36 : sliceOf Tryd.prog 36 = some (38, 1) := by kernel_rfl
theorem sl54 : sliceOf Tryd.prog 54 = some (3, 1) := by kernel_rfl
theorem sl75 : sliceOf Tryd.prog 75 = some (61, 1) := by kernel_rfl
theorem sz128 : szOf Tryd.prog 128 = some 19 := by kernel_rfl
theorem sz26 : szOf Tryd.prog 26 = some 1 := by kernel_rfl
theorem sz3 : szOf Tryd.prog 3 = some 1 := by kernel_rfl
theorem sz30 : szOf Tryd.prog 30 = some 6 := by kernel_rfl
theorem sz38 : szOf Tryd.prog 38 = some 1 := by kernel_rfl
theorem sz5 : szOf Tryd.prog 5 = some 1 := by kernel_rfl
theorem ud136 : Tryd.prog.underlying 136 = some (.float .f32) := by kernel_rfl
theorem ud4 : Tryd.prog.underlying 4 = some .bool := by kernel_rfl
theorem ud5 : Tryd.prog.underlying 5 = some (.int .u8) := by kernel_rfl
theorem ud61 : Tryd.prog.underlying 61 = some (.float .f64) := by kernel_rfl
theorem ud9 : Tryd.prog.underlying 9 = some .string := by kernel_rfl
theorem zr128 : (Tryd.prog.info? 128).bind (·.zero) = some (.agg #[.nilIface, .nilIface, .nilIface, .nilIface, .nilIface, .nilIface, .nilIface, .nilIface, .nilIface, .nilIface, .nilIface, .nilIface, .nilIface, .nilIface, .nilIface, .nilIface, .nilIface, .nilIface, .nilIface]) := by kernel_rfl
theorem zr30 : (Tryd.prog.info? 30).bind (·.zero) = some (.agg #[.int .i64 0, .int .u64 0, .int .u64 0, .string ⟨#[]⟩, .slice none 0 0, .int .i64 0]) := by kernel_rfl
end Go.Proofs.YtippfdnjhcpekaaDoor
