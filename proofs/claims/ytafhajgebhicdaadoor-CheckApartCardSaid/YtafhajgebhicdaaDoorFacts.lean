/- Closed facts of the program: types, fields, functions. -/
import Derived.Test.YtafhajgebhicdaaDoorEng17
import Derived.Test.YtafhajgebhicdaaDoorProg
import Derived.KernelRfl
namespace Go.Proofs.YtafhajgebhicdaaDoor
open Go Go.Eng
set_option maxRecDepth 100000
set_option linter.unusedVariables false
set_option linter.unusedSimpArgs false
theorem hmix : Tryd.prog.follows .mixedOrders = true := by kernel_rfl
theorem ag24 : aggOf Tryd.prog 24 = some 5 := by kernel_rfl
theorem ag39 : aggOf Tryd.prog 39 = some 7 := by kernel_rfl
theorem ag56 : aggOf Tryd.prog 56 = some 19 := by kernel_rfl
theorem ag63 : aggOf Tryd.prog 63 = some 3 := by kernel_rfl
theorem ag70 : aggOf Tryd.prog 70 = some 4 := by kernel_rfl
theorem ag76 : aggOf Tryd.prog 76 = some 5 := by kernel_rfl
theorem ag84 : aggOf Tryd.prog 84 = some 5 := by kernel_rfl
theorem ar56 : arrayOf Tryd.prog 56 = some (19, 30, 1) := by kernel_rfl
theorem ar85 : arrayOf Tryd.prog 85 = some (12, 84, 5) := by kernel_rfl
theorem cl10 : callable Tryd.prog 10 = true := by kernel_rfl
theorem cl11 : callable Tryd.prog 11 = true := by kernel_rfl
theorem cl12 : callable Tryd.prog 12 = true := by kernel_rfl
theorem cl13 : callable Tryd.prog 13 = true := by kernel_rfl
theorem cl14 : callable Tryd.prog 14 = true := by kernel_rfl
theorem cl15 : callable Tryd.prog 15 = true := by kernel_rfl
theorem cl16 : callable Tryd.prog 16 = true := by kernel_rfl
theorem cl17 : callable Tryd.prog 17 = true := by kernel_rfl
theorem cl18 : callable Tryd.prog 18 = true := by kernel_rfl
theorem cl19 : callable Tryd.prog 19 = true := by kernel_rfl
theorem cl20 : callable Tryd.prog 20 = true := by kernel_rfl
theorem cl21 : callable Tryd.prog 21 = true := by kernel_rfl
theorem cl22 : callable Tryd.prog 22 = true := by kernel_rfl
theorem cl23 : callable Tryd.prog 23 = true := by kernel_rfl
theorem cl24 : callable Tryd.prog 24 = true := by kernel_rfl
theorem cl25 : callable Tryd.prog 25 = true := by kernel_rfl
theorem cl26 : callable Tryd.prog 26 = true := by kernel_rfl
theorem cl27 : callable Tryd.prog 27 = true := by kernel_rfl
theorem cl28 : callable Tryd.prog 28 = true := by kernel_rfl
theorem cl29 : callable Tryd.prog 29 = true := by kernel_rfl
theorem cl30 : callable Tryd.prog 30 = true := by kernel_rfl
theorem cl31 : callable Tryd.prog 31 = true := by kernel_rfl
theorem cl32 : callable Tryd.prog 32 = true := by kernel_rfl
theorem cl33 : callable Tryd.prog 33 = true := by kernel_rfl
theorem cl34 : callable Tryd.prog 34 = true := by kernel_rfl
theorem cl35 : callable Tryd.prog 35 = true := by kernel_rfl
theorem cl36 : callable Tryd.prog 36 = true := by kernel_rfl
theorem cl37 : callable Tryd.prog 37 = true := by kernel_rfl
theorem cl38 : callable Tryd.prog 38 = true := by kernel_rfl
theorem cl39 : callable Tryd.prog 39 = true := by kernel_rfl
theorem cl40 : callable Tryd.prog 40 = true := by kernel_rfl
theorem cl41 : callable Tryd.prog 41 = true := by kernel_rfl
theorem cl42 : callable Tryd.prog 42 = true := by kernel_rfl
theorem cl43 : callable Tryd.prog 43 = true := by kernel_rfl
theorem cl44 : callable Tryd.prog 44 = true := by kernel_rfl
theorem cl45 : callable Tryd.prog 45 = true := by kernel_rfl
theorem cl46 : callable Tryd.prog 46 = true := by kernel_rfl
theorem cl47 : callable Tryd.prog 47 = true := by kernel_rfl
theorem cl48 : callable Tryd.prog 48 = true := by kernel_rfl
theorem cl49 : callable Tryd.prog 49 = true := by kernel_rfl
theorem cl8 : callable Tryd.prog 8 = true := by kernel_rfl
theorem cl9 : callable Tryd.prog 9 = true := by kernel_rfl
theorem fl39 : flatB Tryd.prog 39 = true := by kernel_rfl
theorem fo24_0 : fieldOff Tryd.prog 24 0 = some 0 := by kernel_rfl
theorem fo24_1 : fieldOff Tryd.prog 24 1 = some 1 := by kernel_rfl
theorem fo24_2 : fieldOff Tryd.prog 24 2 = some 2 := by kernel_rfl
theorem fo24_3 : fieldOff Tryd.prog 24 3 = some 3 := by kernel_rfl
theorem fo24_4 : fieldOff Tryd.prog 24 4 = some 4 := by kernel_rfl
theorem fo39_0 : fieldOff Tryd.prog 39 0 = some 0 := by kernel_rfl
theorem fo39_1 : fieldOff Tryd.prog 39 1 = some 1 := by kernel_rfl
theorem fo39_2 : fieldOff Tryd.prog 39 2 = some 2 := by kernel_rfl
theorem fo39_3 : fieldOff Tryd.prog 39 3 = some 3 := by kernel_rfl
theorem fo39_4 : fieldOff Tryd.prog 39 4 = some 4 := by kernel_rfl
theorem fo39_5 : fieldOff Tryd.prog 39 5 = some 5 := by kernel_rfl
theorem fo39_6 : fieldOff Tryd.prog 39 6 = some 6 := by kernel_rfl
theorem fo63_0 : fieldOff Tryd.prog 63 0 = some 0 := by kernel_rfl
theorem fo63_1 : fieldOff Tryd.prog 63 1 = some 1 := by kernel_rfl
theorem fo63_2 : fieldOff Tryd.prog 63 2 = some 2 := by kernel_rfl
theorem fo70_0 : fieldOff Tryd.prog 70 0 = some 0 := by kernel_rfl
theorem fo70_1 : fieldOff Tryd.prog 70 1 = some 3 := by kernel_rfl
theorem fo76_0 : fieldOff Tryd.prog 76 0 = some 0 := by kernel_rfl
theorem fo76_1 : fieldOff Tryd.prog 76 1 = some 1 := by kernel_rfl
theorem fo76_2 : fieldOff Tryd.prog 76 2 = some 2 := by kernel_rfl
theorem fo76_3 : fieldOff Tryd.prog 76 3 = some 3 := by kernel_rfl
theorem fo76_4 : fieldOff Tryd.prog 76 4 = some 4 := by kernel_rfl
theorem fo84_0 : fieldOff Tryd.prog 84 0 = some 0 := by kernel_rfl
theorem fo84_1 : fieldOff Tryd.prog 84 1 = some 1 := by kernel_rfl
theorem fo84_2 : fieldOff Tryd.prog 84 2 = some 2 := by kernel_rfl
theorem fo84_3 : fieldOff Tryd.prog 84 3 = some 3 := by kernel_rfl
theorem fo84_4 : fieldOff Tryd.prog 84 4 = some 4 := by kernel_rfl
theorem if30 : isIface Tryd.prog 30 = true := by kernel_rfl
theorem ki3 : kindOf Tryd.prog 3 = some .i64 := by kernel_rfl
theorem ki41 : kindOf Tryd.prog 41 = some .u64 := by kernel_rfl
theorem one22 : oneOf Tryd.prog 22 = true := by kernel_rfl
theorem one3 : oneOf Tryd.prog 3 = true := by kernel_rfl
theorem one30 : oneOf Tryd.prog 30 = true := by kernel_rfl
theorem one4 : oneOf Tryd.prog 4 = true := by kernel_rfl
theorem one9 : oneOf Tryd.prog 9 = true := by kernel_rfl
theorem sl22 : sliceOf Tryd.prog 22 = some (39, 7) := by kernel_rfl
theorem sl43 : sliceOf Tryd.prog 43 = some (3, 1) := by kernel_rfl
theorem sl51 : sliceOf Tryd.prog 51 = some (4, 1) := by kernel_rfl
theorem sl60 : sliceOf Tryd.prog 60 = some (63, 3) := by kernel_rfl
theorem sl66 : sliceOf Tryd.prog 66 = some (70, 4) := by kernel_rfl
theorem sl77 : sliceOf Tryd.prog 77 = some (76, 5) := by kernel_rfl
theorem sz22 : szOf Tryd.prog 22 = some 1 := by kernel_rfl
theorem sz24 : szOf Tryd.prog 24 = some 5 := by kernel_rfl
theorem sz3 : szOf Tryd.prog 3 = some 1 := by kernel_rfl
theorem sz39 : szOf Tryd.prog 39 = some 7 := by kernel_rfl
theorem sz4 : szOf Tryd.prog 4 = some 1 := by kernel_rfl
theorem sz56 : szOf Tryd.prog 56 = some 19 := by kernel_rfl
theorem sz63 : szOf Tryd.prog 63 = some 3 := by kernel_rfl
theorem sz70 : szOf Tryd.prog 70 = some 4 := by kernel_rfl
theorem sz76 : szOf Tryd.prog 76 = some 5 := by kernel_rfl
theorem sz84 : szOf Tryd.prog 84 = some 5 := by kernel_rfl
theorem ud4 : Tryd.prog.underlying 4 = some .bool := by kernel_rfl
theorem zr24 : (Tryd.prog.info? 24).bind (·.zero) = some (.agg #[.int .i64 0, .int .i64 0, .int .i64 0, .int .i64 0, .slice none 0 0]) := by kernel_rfl
theorem zr39 : (Tryd.prog.info? 39).bind (·.zero) = some (.agg #[.int .i64 0, .int .i64 0, .int .i64 0, .int .i64 0, .int .i64 0, .int .i64 0, .int .i64 0]) := by kernel_rfl
theorem zr56 : (Tryd.prog.info? 56).bind (·.zero) = some (.agg #[.nilIface, .nilIface, .nilIface, .nilIface, .nilIface, .nilIface, .nilIface, .nilIface, .nilIface, .nilIface, .nilIface, .nilIface, .nilIface, .nilIface, .nilIface, .nilIface, .nilIface, .nilIface, .nilIface]) := by kernel_rfl
theorem zr63 : (Tryd.prog.info? 63).bind (·.zero) = some (.agg #[.int .i64 0, .int .i64 0, .int .i64 0]) := by kernel_rfl
theorem zr70 : (Tryd.prog.info? 70).bind (·.zero) = some (.agg #[.int .i64 0, .int .i64 0, .int .i64 0, .bool false]) := by kernel_rfl
theorem zr76 : (Tryd.prog.info? 76).bind (·.zero) = some (.agg #[.string ⟨#[]⟩, .bool false, .bool false, .bool false, .bool false]) := by kernel_rfl
theorem zr84 : (Tryd.prog.info? 84).bind (·.zero) = some (.agg #[.string ⟨#[]⟩, .bool false, .bool false, .int .i64 0, .bool false]) := by kernel_rfl
end Go.Proofs.YtafhajgebhicdaaDoor
