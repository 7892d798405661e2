/- Closed facts on the program: printed. -/
import Derived.Test.YtclbncbolhmolaaX7
import Derived.Test.YtclbncbolhmolaaProg
namespace Go.X
open Go Go.Proofs
theorem mixed : Try.prog.follows .mixedOrders = true := by kernel_rfl
theorem sz1 : szT Try.prog 1 = some 1 := by kernel_rfl
theorem conc1 : concT Try.prog 1 = true := by kernel_rfl
theorem scl1 : scalarT Try.prog 1 = true := by kernel_rfl
theorem zero1 : zeroL Try.prog 1 = some [.nilFunc] := by kernel_rfl
theorem info1 : infoT Try.prog 1 = some (some (.nilFunc), 1, 8) := by kernel_rfl
theorem sz2 : szT Try.prog 2 = some 1 := by kernel_rfl
theorem conc2 : concT Try.prog 2 = true := by kernel_rfl
theorem scl2 : scalarT Try.prog 2 = true := by kernel_rfl
theorem zero2 : zeroL Try.prog 2 = some [.int .i64 0] := by kernel_rfl
theorem info2 : infoT Try.prog 2 = some (some (.int .i64 0), 1, 8) := by kernel_rfl
theorem sz3 : szT Try.prog 3 = some 1 := by kernel_rfl
theorem conc3 : concT Try.prog 3 = true := by kernel_rfl
theorem scl3 : scalarT Try.prog 3 = true := by kernel_rfl
theorem zero3 : zeroL Try.prog 3 = some [.int .i64 0] := by kernel_rfl
theorem info3 : infoT Try.prog 3 = some (some (.int .i64 0), 1, 8) := by kernel_rfl
theorem sz4 : szT Try.prog 4 = some 1 := by kernel_rfl
theorem conc4 : concT Try.prog 4 = true := by kernel_rfl
theorem scl4 : scalarT Try.prog 4 = true := by kernel_rfl
theorem zero4 : zeroL Try.prog 4 = some [.bool false] := by kernel_rfl
theorem info4 : infoT Try.prog 4 = some (some (.bool false), 1, 1) := by kernel_rfl
theorem sz5 : szT Try.prog 5 = some 1 := by kernel_rfl
theorem conc5 : concT Try.prog 5 = true := by kernel_rfl
theorem scl5 : scalarT Try.prog 5 = true := by kernel_rfl
theorem zero5 : zeroL Try.prog 5 = some [.int .u8 0] := by kernel_rfl
theorem info5 : infoT Try.prog 5 = some (some (.int .u8 0), 1, 1) := by kernel_rfl
theorem sz6 : szT Try.prog 6 = some 1 := by kernel_rfl
theorem conc6 : concT Try.prog 6 = true := by kernel_rfl
theorem scl6 : scalarT Try.prog 6 = true := by kernel_rfl
theorem zero6 : zeroL Try.prog 6 = some [.int .u8 0] := by kernel_rfl
theorem info6 : infoT Try.prog 6 = some (some (.int .u8 0), 1, 1) := by kernel_rfl
theorem sz7 : szT Try.prog 7 = some 4 := by kernel_rfl
theorem conc7 : concT Try.prog 7 = true := by kernel_rfl
theorem agg7 : aggT Try.prog 7 = some 4 := by kernel_rfl
theorem zero7 : zeroL Try.prog 7 = some [.int .i64 0, .int .i64 0, .bool false, .int .u8 0] := by kernel_rfl
theorem info7 : infoT Try.prog 7 = some (some (.agg #[.int .i64 0, .int .i64 0, .bool false, .int .u8 0]), 4, 24) := by kernel_rfl
theorem pl7 : placesT Try.prog 7 = some [(0, 1), (1, 1), (2, 1), (3, 1)] := by kernel_rfl
theorem fo7_0 : fieldOff Try.prog 7 0 = some 0 := by kernel_rfl
theorem fo7_1 : fieldOff Try.prog 7 1 = some 1 := by kernel_rfl
theorem fo7_2 : fieldOff Try.prog 7 2 = some 2 := by kernel_rfl
theorem fo7_3 : fieldOff Try.prog 7 3 = some 3 := by kernel_rfl
theorem sz8 : szT Try.prog 8 = some 4 := by kernel_rfl
theorem conc8 : concT Try.prog 8 = true := by kernel_rfl
theorem agg8 : aggT Try.prog 8 = some 4 := by kernel_rfl
theorem zero8 : zeroL Try.prog 8 = some [.int .i64 0, .int .i64 0, .bool false, .int .u8 0] := by kernel_rfl
theorem info8 : infoT Try.prog 8 = some (some (.agg #[.int .i64 0, .int .i64 0, .bool false, .int .u8 0]), 4, 24) := by kernel_rfl
theorem pl8 : placesT Try.prog 8 = some [(0, 1), (1, 1), (2, 1), (3, 1)] := by kernel_rfl
theorem fo8_0 : fieldOff Try.prog 8 0 = some 0 := by kernel_rfl
theorem fo8_1 : fieldOff Try.prog 8 1 = some 1 := by kernel_rfl
theorem fo8_2 : fieldOff Try.prog 8 2 = some 2 := by kernel_rfl
theorem fo8_3 : fieldOff Try.prog 8 3 = some 3 := by kernel_rfl
theorem sz9 : szT Try.prog 9 = some 1 := by kernel_rfl
theorem conc9 : concT Try.prog 9 = true := by kernel_rfl
theorem scl9 : scalarT Try.prog 9 = true := by kernel_rfl
theorem zero9 : zeroL Try.prog 9 = some [.string ByteArray.empty] := by kernel_rfl
theorem info9 : infoT Try.prog 9 = some (some (.string ByteArray.empty), 1, 16) := by kernel_rfl
theorem sz10 : szT Try.prog 10 = some 1 := by kernel_rfl
theorem conc10 : concT Try.prog 10 = true := by kernel_rfl
theorem scl10 : scalarT Try.prog 10 = true := by kernel_rfl
theorem zero10 : zeroL Try.prog 10 = some [.string ByteArray.empty] := by kernel_rfl
theorem info10 : infoT Try.prog 10 = some (some (.string ByteArray.empty), 1, 16) := by kernel_rfl
theorem sz11 : szT Try.prog 11 = some 1 := by kernel_rfl
theorem conc11 : concT Try.prog 11 = true := by kernel_rfl
theorem scl11 : scalarT Try.prog 11 = true := by kernel_rfl
theorem zero11 : zeroL Try.prog 11 = some [.string ByteArray.empty] := by kernel_rfl
theorem info11 : infoT Try.prog 11 = some (some (.string ByteArray.empty), 1, 16) := by kernel_rfl
theorem sz12 : szT Try.prog 12 = some 1 := by kernel_rfl
theorem conc12 : concT Try.prog 12 = true := by kernel_rfl
theorem scl12 : scalarT Try.prog 12 = true := by kernel_rfl
theorem zero12 : zeroL Try.prog 12 = some [.int .u64 0] := by kernel_rfl
theorem info12 : infoT Try.prog 12 = some (some (.int .u64 0), 1, 8) := by kernel_rfl
theorem sz13 : szT Try.prog 13 = some 2 := by kernel_rfl
theorem conc13 : concT Try.prog 13 = true := by kernel_rfl
theorem agg13 : aggT Try.prog 13 = some 2 := by kernel_rfl
theorem zero13 : zeroL Try.prog 13 = some [.string ByteArray.empty, .int .u64 0] := by kernel_rfl
theorem info13 : infoT Try.prog 13 = some (some (.agg #[.string ByteArray.empty, .int .u64 0]), 2, 24) := by kernel_rfl
theorem pl13 : placesT Try.prog 13 = some [(0, 1), (1, 1)] := by kernel_rfl
theorem fo13_0 : fieldOff Try.prog 13 0 = some 0 := by kernel_rfl
theorem fo13_1 : fieldOff Try.prog 13 1 = some 1 := by kernel_rfl
theorem sz14 : szT Try.prog 14 = some 2 := by kernel_rfl
theorem conc14 : concT Try.prog 14 = true := by kernel_rfl
theorem agg14 : aggT Try.prog 14 = some 2 := by kernel_rfl
theorem zero14 : zeroL Try.prog 14 = some [.string ByteArray.empty, .int .u64 0] := by kernel_rfl
theorem info14 : infoT Try.prog 14 = some (some (.agg #[.string ByteArray.empty, .int .u64 0]), 2, 24) := by kernel_rfl
theorem pl14 : placesT Try.prog 14 = some [(0, 1), (1, 1)] := by kernel_rfl
theorem fo14_0 : fieldOff Try.prog 14 0 = some 0 := by kernel_rfl
theorem fo14_1 : fieldOff Try.prog 14 1 = some 1 := by kernel_rfl
theorem sz15 : szT Try.prog 15 = some 1 := by kernel_rfl
theorem conc15 : concT Try.prog 15 = true := by kernel_rfl
theorem scl15 : scalarT Try.prog 15 = true := by kernel_rfl
theorem zero15 : zeroL Try.prog 15 = some [.pointer none] := by kernel_rfl
theorem info15 : infoT Try.prog 15 = some (some (.pointer none), 1, 8) := by kernel_rfl
theorem sz16 : szT Try.prog 16 = some 1 := by kernel_rfl
theorem conc16 : concT Try.prog 16 = true := by kernel_rfl
theorem scl16 : scalarT Try.prog 16 = true := by kernel_rfl
theorem zero16 : zeroL Try.prog 16 = some [.pointer none] := by kernel_rfl
theorem info16 : infoT Try.prog 16 = some (some (.pointer none), 1, 8) := by kernel_rfl
theorem sz17 : szT Try.prog 17 = some 1 := by kernel_rfl
theorem conc17 : concT Try.prog 17 = true := by kernel_rfl
theorem scl17 : scalarT Try.prog 17 = true := by kernel_rfl
theorem zero17 : zeroL Try.prog 17 = some [.pointer none] := by kernel_rfl
theorem info17 : infoT Try.prog 17 = some (some (.pointer none), 1, 8) := by kernel_rfl
theorem sz18 : szT Try.prog 18 = some 1 := by kernel_rfl
theorem conc18 : concT Try.prog 18 = true := by kernel_rfl
theorem agg18 : aggT Try.prog 18 = some 1 := by kernel_rfl
theorem zero18 : zeroL Try.prog 18 = some [.pointer none] := by kernel_rfl
theorem info18 : infoT Try.prog 18 = some (some (.agg #[.pointer none]), 1, 8) := by kernel_rfl
theorem pl18 : placesT Try.prog 18 = some [(0, 1)] := by kernel_rfl
theorem fo18_0 : fieldOff Try.prog 18 0 = some 0 := by kernel_rfl
theorem sz19 : szT Try.prog 19 = some 1 := by kernel_rfl
theorem conc19 : concT Try.prog 19 = true := by kernel_rfl
theorem agg19 : aggT Try.prog 19 = some 1 := by kernel_rfl
theorem zero19 : zeroL Try.prog 19 = some [.pointer none] := by kernel_rfl
theorem info19 : infoT Try.prog 19 = some (some (.agg #[.pointer none]), 1, 8) := by kernel_rfl
theorem pl19 : placesT Try.prog 19 = some [(0, 1)] := by kernel_rfl
theorem fo19_0 : fieldOff Try.prog 19 0 = some 0 := by kernel_rfl
theorem sz20 : szT Try.prog 20 = some 1 := by kernel_rfl
theorem scl20 : scalarT Try.prog 20 = true := by kernel_rfl
theorem zero20 : zeroL Try.prog 20 = some [.nilIface] := by kernel_rfl
theorem info20 : infoT Try.prog 20 = some (some (.nilIface), 1, 16) := by kernel_rfl
theorem sz21 : szT Try.prog 21 = some 1 := by kernel_rfl
theorem conc21 : concT Try.prog 21 = true := by kernel_rfl
theorem scl21 : scalarT Try.prog 21 = true := by kernel_rfl
theorem zero21 : zeroL Try.prog 21 = some [.int .i32 0] := by kernel_rfl
theorem info21 : infoT Try.prog 21 = some (some (.int .i32 0), 1, 4) := by kernel_rfl
theorem sz22 : szT Try.prog 22 = some 1 := by kernel_rfl
theorem conc22 : concT Try.prog 22 = true := by kernel_rfl
theorem scl22 : scalarT Try.prog 22 = true := by kernel_rfl
theorem zero22 : zeroL Try.prog 22 = some [.slice none 0 0] := by kernel_rfl
theorem info22 : infoT Try.prog 22 = some (some (.slice none 0 0), 1, 24) := by kernel_rfl
theorem sz23 : szT Try.prog 23 = some 2 := by kernel_rfl
theorem conc23 : concT Try.prog 23 = true := by kernel_rfl
theorem agg23 : aggT Try.prog 23 = some 2 := by kernel_rfl
theorem zero23 : zeroL Try.prog 23 = some [.int .i64 0, .int .i64 0] := by kernel_rfl
theorem info23 : infoT Try.prog 23 = some (some (.agg #[.int .i64 0, .int .i64 0]), 2, 16) := by kernel_rfl
theorem sz24 : szT Try.prog 24 = some 1 := by kernel_rfl
theorem conc24 : concT Try.prog 24 = true := by kernel_rfl
theorem scl24 : scalarT Try.prog 24 = true := by kernel_rfl
theorem zero24 : zeroL Try.prog 24 = some [.nilFunc] := by kernel_rfl
theorem info24 : infoT Try.prog 24 = some (some (.nilFunc), 1, 8) := by kernel_rfl
theorem sz25 : szT Try.prog 25 = some 1 := by kernel_rfl
theorem conc25 : concT Try.prog 25 = true := by kernel_rfl
theorem scl25 : scalarT Try.prog 25 = true := by kernel_rfl
theorem zero25 : zeroL Try.prog 25 = some [.nilFunc] := by kernel_rfl
theorem info25 : infoT Try.prog 25 = some (some (.nilFunc), 1, 8) := by kernel_rfl
theorem sz26 : szT Try.prog 26 = some 1 := by kernel_rfl
theorem conc26 : concT Try.prog 26 = true := by kernel_rfl
theorem scl26 : scalarT Try.prog 26 = true := by kernel_rfl
theorem zero26 : zeroL Try.prog 26 = some [.pointer none] := by kernel_rfl
theorem info26 : infoT Try.prog 26 = some (some (.pointer none), 1, 8) := by kernel_rfl
theorem sz27 : szT Try.prog 27 = some 1 := by kernel_rfl
theorem conc27 : concT Try.prog 27 = true := by kernel_rfl
theorem scl27 : scalarT Try.prog 27 = true := by kernel_rfl
theorem zero27 : zeroL Try.prog 27 = some [.int .i64 0] := by kernel_rfl
theorem info27 : infoT Try.prog 27 = some (some (.int .i64 0), 1, 8) := by kernel_rfl
theorem sz29 : szT Try.prog 29 = some 1 := by kernel_rfl
theorem conc29 : concT Try.prog 29 = true := by kernel_rfl
theorem scl29 : scalarT Try.prog 29 = true := by kernel_rfl
theorem zero29 : zeroL Try.prog 29 = some [.nilFunc] := by kernel_rfl
theorem info29 : infoT Try.prog 29 = some (some (.nilFunc), 1, 8) := by kernel_rfl
theorem sz30 : szT Try.prog 30 = some 1 := by kernel_rfl
theorem conc30 : concT Try.prog 30 = true := by kernel_rfl
theorem scl30 : scalarT Try.prog 30 = true := by kernel_rfl
theorem zero30 : zeroL Try.prog 30 = some [.slice none 0 0] := by kernel_rfl
theorem info30 : infoT Try.prog 30 = some (some (.slice none 0 0), 1, 24) := by kernel_rfl
theorem sz31 : szT Try.prog 31 = some 1 := by kernel_rfl
theorem conc31 : concT Try.prog 31 = true := by kernel_rfl
theorem scl31 : scalarT Try.prog 31 = true := by kernel_rfl
theorem zero31 : zeroL Try.prog 31 = some [.nilFunc] := by kernel_rfl
theorem info31 : infoT Try.prog 31 = some (some (.nilFunc), 1, 8) := by kernel_rfl
theorem sz32 : szT Try.prog 32 = some 1 := by kernel_rfl
theorem conc32 : concT Try.prog 32 = true := by kernel_rfl
theorem scl32 : scalarT Try.prog 32 = true := by kernel_rfl
theorem zero32 : zeroL Try.prog 32 = some [.nilFunc] := by kernel_rfl
theorem info32 : infoT Try.prog 32 = some (some (.nilFunc), 1, 8) := by kernel_rfl
theorem sz33 : szT Try.prog 33 = some 1 := by kernel_rfl
theorem conc33 : concT Try.prog 33 = true := by kernel_rfl
theorem scl33 : scalarT Try.prog 33 = true := by kernel_rfl
theorem zero33 : zeroL Try.prog 33 = some [.nilFunc] := by kernel_rfl
theorem info33 : infoT Try.prog 33 = some (some (.nilFunc), 1, 8) := by kernel_rfl
theorem sz34 : szT Try.prog 34 = some 1 := by kernel_rfl
theorem conc34 : concT Try.prog 34 = true := by kernel_rfl
theorem scl34 : scalarT Try.prog 34 = true := by kernel_rfl
theorem zero34 : zeroL Try.prog 34 = some [.nilFunc] := by kernel_rfl
theorem info34 : infoT Try.prog 34 = some (some (.nilFunc), 1, 8) := by kernel_rfl
theorem sz35 : szT Try.prog 35 = some 1 := by kernel_rfl
theorem conc35 : concT Try.prog 35 = true := by kernel_rfl
theorem scl35 : scalarT Try.prog 35 = true := by kernel_rfl
theorem zero35 : zeroL Try.prog 35 = some [.nilFunc] := by kernel_rfl
theorem info35 : infoT Try.prog 35 = some (some (.nilFunc), 1, 8) := by kernel_rfl
theorem sz36 : szT Try.prog 36 = some 1 := by kernel_rfl
theorem conc36 : concT Try.prog 36 = true := by kernel_rfl
theorem scl36 : scalarT Try.prog 36 = true := by kernel_rfl
theorem zero36 : zeroL Try.prog 36 = some [.int .u64 0] := by kernel_rfl
theorem info36 : infoT Try.prog 36 = some (some (.int .u64 0), 1, 8) := by kernel_rfl
theorem sz37 : szT Try.prog 37 = some 1 := by kernel_rfl
theorem conc37 : concT Try.prog 37 = true := by kernel_rfl
theorem scl37 : scalarT Try.prog 37 = true := by kernel_rfl
theorem zero37 : zeroL Try.prog 37 = some [.nilFunc] := by kernel_rfl
theorem info37 : infoT Try.prog 37 = some (some (.nilFunc), 1, 8) := by kernel_rfl
theorem sz38 : szT Try.prog 38 = some 1 := by kernel_rfl
theorem conc38 : concT Try.prog 38 = true := by kernel_rfl
theorem scl38 : scalarT Try.prog 38 = true := by kernel_rfl
theorem zero38 : zeroL Try.prog 38 = some [.pointer none] := by kernel_rfl
theorem info38 : infoT Try.prog 38 = some (some (.pointer none), 1, 8) := by kernel_rfl
theorem sz39 : szT Try.prog 39 = some 1 := by kernel_rfl
theorem conc39 : concT Try.prog 39 = true := by kernel_rfl
theorem scl39 : scalarT Try.prog 39 = true := by kernel_rfl
theorem zero39 : zeroL Try.prog 39 = some [.nilFunc] := by kernel_rfl
theorem info39 : infoT Try.prog 39 = some (some (.nilFunc), 1, 8) := by kernel_rfl
theorem sz40 : szT Try.prog 40 = some 2 := by kernel_rfl
theorem conc40 : concT Try.prog 40 = true := by kernel_rfl
theorem agg40 : aggT Try.prog 40 = some 2 := by kernel_rfl
theorem zero40 : zeroL Try.prog 40 = some [.int .i64 0, .int .i64 0] := by kernel_rfl
theorem info40 : infoT Try.prog 40 = some (some (.agg #[.int .i64 0, .int .i64 0]), 2, 16) := by kernel_rfl
theorem pl40 : placesT Try.prog 40 = some [(0, 1), (1, 1)] := by kernel_rfl
theorem fo40_0 : fieldOff Try.prog 40 0 = some 0 := by kernel_rfl
theorem fo40_1 : fieldOff Try.prog 40 1 = some 1 := by kernel_rfl
theorem sz41 : szT Try.prog 41 = some 2 := by kernel_rfl
theorem conc41 : concT Try.prog 41 = true := by kernel_rfl
theorem agg41 : aggT Try.prog 41 = some 2 := by kernel_rfl
theorem zero41 : zeroL Try.prog 41 = some [.int .i64 0, .int .i64 0] := by kernel_rfl
theorem info41 : infoT Try.prog 41 = some (some (.agg #[.int .i64 0, .int .i64 0]), 2, 16) := by kernel_rfl
theorem pl41 : placesT Try.prog 41 = some [(0, 1), (1, 1)] := by kernel_rfl
theorem fo41_0 : fieldOff Try.prog 41 0 = some 0 := by kernel_rfl
theorem fo41_1 : fieldOff Try.prog 41 1 = some 1 := by kernel_rfl
theorem sz43 : szT Try.prog 43 = some 1 := by kernel_rfl
theorem conc43 : concT Try.prog 43 = true := by kernel_rfl
theorem scl43 : scalarT Try.prog 43 = true := by kernel_rfl
theorem zero43 : zeroL Try.prog 43 = some [.nilFunc] := by kernel_rfl
theorem info43 : infoT Try.prog 43 = some (some (.nilFunc), 1, 8) := by kernel_rfl
theorem sz45 : szT Try.prog 45 = some 1 := by kernel_rfl
theorem conc45 : concT Try.prog 45 = true := by kernel_rfl
theorem scl45 : scalarT Try.prog 45 = true := by kernel_rfl
theorem zero45 : zeroL Try.prog 45 = some [.nilFunc] := by kernel_rfl
theorem info45 : infoT Try.prog 45 = some (some (.nilFunc), 1, 8) := by kernel_rfl
theorem sz46 : szT Try.prog 46 = some 1 := by kernel_rfl
theorem conc46 : concT Try.prog 46 = true := by kernel_rfl
theorem scl46 : scalarT Try.prog 46 = true := by kernel_rfl
theorem zero46 : zeroL Try.prog 46 = some [.nilFunc] := by kernel_rfl
theorem info46 : infoT Try.prog 46 = some (some (.nilFunc), 1, 8) := by kernel_rfl
theorem sz47 : szT Try.prog 47 = some 1 := by kernel_rfl
theorem conc47 : concT Try.prog 47 = true := by kernel_rfl
theorem scl47 : scalarT Try.prog 47 = true := by kernel_rfl
theorem zero47 : zeroL Try.prog 47 = some [.nilFunc] := by kernel_rfl
theorem info47 : infoT Try.prog 47 = some (some (.nilFunc), 1, 8) := by kernel_rfl
theorem sz48 : szT Try.prog 48 = some 2 := by kernel_rfl
theorem conc48 : concT Try.prog 48 = true := by kernel_rfl
theorem agg48 : aggT Try.prog 48 = some 2 := by kernel_rfl
theorem zero48 : zeroL Try.prog 48 = some [.int .u8 0, .int .u8 0] := by kernel_rfl
theorem info48 : infoT Try.prog 48 = some (some (.agg #[.int .u8 0, .int .u8 0]), 2, 2) := by kernel_rfl
theorem sz49 : szT Try.prog 49 = some 1 := by kernel_rfl
theorem conc49 : concT Try.prog 49 = true := by kernel_rfl
theorem scl49 : scalarT Try.prog 49 = true := by kernel_rfl
theorem zero49 : zeroL Try.prog 49 = some [.nilFunc] := by kernel_rfl
theorem info49 : infoT Try.prog 49 = some (some (.nilFunc), 1, 8) := by kernel_rfl
theorem sz50 : szT Try.prog 50 = some 1 := by kernel_rfl
theorem conc50 : concT Try.prog 50 = true := by kernel_rfl
theorem scl50 : scalarT Try.prog 50 = true := by kernel_rfl
theorem zero50 : zeroL Try.prog 50 = some [.pointer none] := by kernel_rfl
theorem info50 : infoT Try.prog 50 = some (some (.pointer none), 1, 8) := by kernel_rfl
theorem sz52 : szT Try.prog 52 = some 1 := by kernel_rfl
theorem conc52 : concT Try.prog 52 = true := by kernel_rfl
theorem scl52 : scalarT Try.prog 52 = true := by kernel_rfl
theorem zero52 : zeroL Try.prog 52 = some [.nilFunc] := by kernel_rfl
theorem info52 : infoT Try.prog 52 = some (some (.nilFunc), 1, 8) := by kernel_rfl
theorem sz53 : szT Try.prog 53 = some 1 := by kernel_rfl
theorem conc53 : concT Try.prog 53 = true := by kernel_rfl
theorem scl53 : scalarT Try.prog 53 = true := by kernel_rfl
theorem zero53 : zeroL Try.prog 53 = some [.nilFunc] := by kernel_rfl
theorem info53 : infoT Try.prog 53 = some (some (.nilFunc), 1, 8) := by kernel_rfl
theorem sz54 : szT Try.prog 54 = some 1 := by kernel_rfl
theorem conc54 : concT Try.prog 54 = true := by kernel_rfl
theorem scl54 : scalarT Try.prog 54 = true := by kernel_rfl
theorem zero54 : zeroL Try.prog 54 = some [.nilFunc] := by kernel_rfl
theorem info54 : infoT Try.prog 54 = some (some (.nilFunc), 1, 8) := by kernel_rfl
theorem sz55 : szT Try.prog 55 = some 3 := by kernel_rfl
theorem conc55 : concT Try.prog 55 = true := by kernel_rfl
theorem agg55 : aggT Try.prog 55 = some 3 := by kernel_rfl
theorem zero55 : zeroL Try.prog 55 = some [.int .i64 0, .int .i64 0, .int .i64 0] := by kernel_rfl
theorem info55 : infoT Try.prog 55 = some (some (.agg #[.int .i64 0, .int .i64 0, .int .i64 0]), 3, 24) := by kernel_rfl
theorem sz56 : szT Try.prog 56 = some 1 := by kernel_rfl
theorem conc56 : concT Try.prog 56 = true := by kernel_rfl
theorem scl56 : scalarT Try.prog 56 = true := by kernel_rfl
theorem zero56 : zeroL Try.prog 56 = some [.nilFunc] := by kernel_rfl
theorem info56 : infoT Try.prog 56 = some (some (.nilFunc), 1, 8) := by kernel_rfl
theorem sz57 : szT Try.prog 57 = some 1 := by kernel_rfl
theorem conc57 : concT Try.prog 57 = true := by kernel_rfl
theorem scl57 : scalarT Try.prog 57 = true := by kernel_rfl
theorem zero57 : zeroL Try.prog 57 = some [.pointer none] := by kernel_rfl
theorem info57 : infoT Try.prog 57 = some (some (.pointer none), 1, 8) := by kernel_rfl
theorem sz59 : szT Try.prog 59 = some 1 := by kernel_rfl
theorem conc59 : concT Try.prog 59 = true := by kernel_rfl
theorem scl59 : scalarT Try.prog 59 = true := by kernel_rfl
theorem zero59 : zeroL Try.prog 59 = some [.nilFunc] := by kernel_rfl
theorem info59 : infoT Try.prog 59 = some (some (.nilFunc), 1, 8) := by kernel_rfl
theorem sz60 : szT Try.prog 60 = some 1 := by kernel_rfl
theorem conc60 : concT Try.prog 60 = true := by kernel_rfl
theorem scl60 : scalarT Try.prog 60 = true := by kernel_rfl
theorem zero60 : zeroL Try.prog 60 = some [.nilFunc] := by kernel_rfl
theorem info60 : infoT Try.prog 60 = some (some (.nilFunc), 1, 8) := by kernel_rfl
theorem sz61 : szT Try.prog 61 = some 1 := by kernel_rfl
theorem conc61 : concT Try.prog 61 = true := by kernel_rfl
theorem scl61 : scalarT Try.prog 61 = true := by kernel_rfl
theorem zero61 : zeroL Try.prog 61 = some [.nilFunc] := by kernel_rfl
theorem info61 : infoT Try.prog 61 = some (some (.nilFunc), 1, 8) := by kernel_rfl
theorem sz62 : szT Try.prog 62 = some 1 := by kernel_rfl
theorem conc62 : concT Try.prog 62 = true := by kernel_rfl
theorem scl62 : scalarT Try.prog 62 = true := by kernel_rfl
theorem zero62 : zeroL Try.prog 62 = some [.nilFunc] := by kernel_rfl
theorem info62 : infoT Try.prog 62 = some (some (.nilFunc), 1, 8) := by kernel_rfl
theorem sz63 : szT Try.prog 63 = some 1 := by kernel_rfl
theorem conc63 : concT Try.prog 63 = true := by kernel_rfl
theorem scl63 : scalarT Try.prog 63 = true := by kernel_rfl
theorem zero63 : zeroL Try.prog 63 = some [.nilFunc] := by kernel_rfl
theorem info63 : infoT Try.prog 63 = some (some (.nilFunc), 1, 8) := by kernel_rfl
theorem sz64 : szT Try.prog 64 = some 1 := by kernel_rfl
theorem conc64 : concT Try.prog 64 = true := by kernel_rfl
theorem scl64 : scalarT Try.prog 64 = true := by kernel_rfl
theorem zero64 : zeroL Try.prog 64 = some [.slice none 0 0] := by kernel_rfl
theorem info64 : infoT Try.prog 64 = some (some (.slice none 0 0), 1, 24) := by kernel_rfl
theorem sz66 : szT Try.prog 66 = some 1 := by kernel_rfl
theorem conc66 : concT Try.prog 66 = true := by kernel_rfl
theorem scl66 : scalarT Try.prog 66 = true := by kernel_rfl
theorem zero66 : zeroL Try.prog 66 = some [.nilFunc] := by kernel_rfl
theorem info66 : infoT Try.prog 66 = some (some (.nilFunc), 1, 8) := by kernel_rfl
theorem sz68 : szT Try.prog 68 = some 1 := by kernel_rfl
theorem conc68 : concT Try.prog 68 = true := by kernel_rfl
theorem scl68 : scalarT Try.prog 68 = true := by kernel_rfl
theorem zero68 : zeroL Try.prog 68 = some [.nilFunc] := by kernel_rfl
theorem info68 : infoT Try.prog 68 = some (some (.nilFunc), 1, 8) := by kernel_rfl
theorem sz69 : szT Try.prog 69 = some 1 := by kernel_rfl
theorem conc69 : concT Try.prog 69 = true := by kernel_rfl
theorem scl69 : scalarT Try.prog 69 = true := by kernel_rfl
theorem zero69 : zeroL Try.prog 69 = some [.nilFunc] := by kernel_rfl
theorem info69 : infoT Try.prog 69 = some (some (.nilFunc), 1, 8) := by kernel_rfl
theorem sz70 : szT Try.prog 70 = some 1 := by kernel_rfl
theorem conc70 : concT Try.prog 70 = true := by kernel_rfl
theorem scl70 : scalarT Try.prog 70 = true := by kernel_rfl
theorem zero70 : zeroL Try.prog 70 = some [.nilFunc] := by kernel_rfl
theorem info70 : infoT Try.prog 70 = some (some (.nilFunc), 1, 8) := by kernel_rfl
theorem sz71 : szT Try.prog 71 = some 1 := by kernel_rfl
theorem conc71 : concT Try.prog 71 = true := by kernel_rfl
theorem scl71 : scalarT Try.prog 71 = true := by kernel_rfl
theorem zero71 : zeroL Try.prog 71 = some [.nilFunc] := by kernel_rfl
theorem info71 : infoT Try.prog 71 = some (some (.nilFunc), 1, 8) := by kernel_rfl
theorem sz73 : szT Try.prog 73 = some 1 := by kernel_rfl
theorem conc73 : concT Try.prog 73 = true := by kernel_rfl
theorem scl73 : scalarT Try.prog 73 = true := by kernel_rfl
theorem zero73 : zeroL Try.prog 73 = some [.nilFunc] := by kernel_rfl
theorem info73 : infoT Try.prog 73 = some (some (.nilFunc), 1, 8) := by kernel_rfl
theorem sz74 : szT Try.prog 74 = some 1 := by kernel_rfl
theorem conc74 : concT Try.prog 74 = true := by kernel_rfl
theorem scl74 : scalarT Try.prog 74 = true := by kernel_rfl
theorem zero74 : zeroL Try.prog 74 = some [.nilFunc] := by kernel_rfl
theorem info74 : infoT Try.prog 74 = some (some (.nilFunc), 1, 8) := by kernel_rfl
theorem sz75 : szT Try.prog 75 = some 1 := by kernel_rfl
theorem conc75 : concT Try.prog 75 = true := by kernel_rfl
theorem scl75 : scalarT Try.prog 75 = true := by kernel_rfl
theorem zero75 : zeroL Try.prog 75 = some [.nilFunc] := by kernel_rfl
theorem info75 : infoT Try.prog 75 = some (some (.nilFunc), 1, 8) := by kernel_rfl
theorem sz76 : szT Try.prog 76 = some 1 := by kernel_rfl
theorem conc76 : concT Try.prog 76 = true := by kernel_rfl
theorem scl76 : scalarT Try.prog 76 = true := by kernel_rfl
theorem zero76 : zeroL Try.prog 76 = some [.nilFunc] := by kernel_rfl
theorem info76 : infoT Try.prog 76 = some (some (.nilFunc), 1, 8) := by kernel_rfl
theorem sz77 : szT Try.prog 77 = some 1 := by kernel_rfl
theorem conc77 : concT Try.prog 77 = true := by kernel_rfl
theorem scl77 : scalarT Try.prog 77 = true := by kernel_rfl
theorem zero77 : zeroL Try.prog 77 = some [.nilFunc] := by kernel_rfl
theorem info77 : infoT Try.prog 77 = some (some (.nilFunc), 1, 8) := by kernel_rfl
theorem sz78 : szT Try.prog 78 = some 1 := by kernel_rfl
theorem conc78 : concT Try.prog 78 = true := by kernel_rfl
theorem scl78 : scalarT Try.prog 78 = true := by kernel_rfl
theorem zero78 : zeroL Try.prog 78 = some [.nilFunc] := by kernel_rfl
theorem info78 : infoT Try.prog 78 = some (some (.nilFunc), 1, 8) := by kernel_rfl
theorem sz79 : szT Try.prog 79 = some 1 := by kernel_rfl
theorem conc79 : concT Try.prog 79 = true := by kernel_rfl
theorem scl79 : scalarT Try.prog 79 = true := by kernel_rfl
theorem zero79 : zeroL Try.prog 79 = some [.nilFunc] := by kernel_rfl
theorem info79 : infoT Try.prog 79 = some (some (.nilFunc), 1, 8) := by kernel_rfl
theorem sz80 : szT Try.prog 80 = some 1 := by kernel_rfl
theorem conc80 : concT Try.prog 80 = true := by kernel_rfl
theorem scl80 : scalarT Try.prog 80 = true := by kernel_rfl
theorem zero80 : zeroL Try.prog 80 = some [.nilFunc] := by kernel_rfl
theorem info80 : infoT Try.prog 80 = some (some (.nilFunc), 1, 8) := by kernel_rfl
theorem sz81 : szT Try.prog 81 = some 1 := by kernel_rfl
theorem conc81 : concT Try.prog 81 = true := by kernel_rfl
theorem scl81 : scalarT Try.prog 81 = true := by kernel_rfl
theorem zero81 : zeroL Try.prog 81 = some [.nilFunc] := by kernel_rfl
theorem info81 : infoT Try.prog 81 = some (some (.nilFunc), 1, 8) := by kernel_rfl
theorem sz82 : szT Try.prog 82 = some 1 := by kernel_rfl
theorem conc82 : concT Try.prog 82 = true := by kernel_rfl
theorem scl82 : scalarT Try.prog 82 = true := by kernel_rfl
theorem zero82 : zeroL Try.prog 82 = some [.nilFunc] := by kernel_rfl
theorem info82 : infoT Try.prog 82 = some (some (.nilFunc), 1, 8) := by kernel_rfl
theorem sz83 : szT Try.prog 83 = some 1 := by kernel_rfl
theorem conc83 : concT Try.prog 83 = true := by kernel_rfl
theorem scl83 : scalarT Try.prog 83 = true := by kernel_rfl
theorem zero83 : zeroL Try.prog 83 = some [.nilFunc] := by kernel_rfl
theorem info83 : infoT Try.prog 83 = some (some (.nilFunc), 1, 8) := by kernel_rfl
theorem sz84 : szT Try.prog 84 = some 1 := by kernel_rfl
theorem conc84 : concT Try.prog 84 = true := by kernel_rfl
theorem scl84 : scalarT Try.prog 84 = true := by kernel_rfl
theorem zero84 : zeroL Try.prog 84 = some [.nilFunc] := by kernel_rfl
theorem info84 : infoT Try.prog 84 = some (some (.nilFunc), 1, 8) := by kernel_rfl
theorem sz85 : szT Try.prog 85 = some 1 := by kernel_rfl
theorem conc85 : concT Try.prog 85 = true := by kernel_rfl
theorem scl85 : scalarT Try.prog 85 = true := by kernel_rfl
theorem zero85 : zeroL Try.prog 85 = some [.int .u64 0] := by kernel_rfl
theorem info85 : infoT Try.prog 85 = some (some (.int .u64 0), 1, 8) := by kernel_rfl
theorem sz86 : szT Try.prog 86 = some 1 := by kernel_rfl
theorem conc86 : concT Try.prog 86 = true := by kernel_rfl
theorem scl86 : scalarT Try.prog 86 = true := by kernel_rfl
theorem zero86 : zeroL Try.prog 86 = some [.slice none 0 0] := by kernel_rfl
theorem info86 : infoT Try.prog 86 = some (some (.slice none 0 0), 1, 24) := by kernel_rfl
theorem sz87 : szT Try.prog 87 = some 3 := by kernel_rfl
theorem conc87 : concT Try.prog 87 = true := by kernel_rfl
theorem agg87 : aggT Try.prog 87 = some 3 := by kernel_rfl
theorem zero87 : zeroL Try.prog 87 = some [.int .i64 0, .int .i64 0, .slice none 0 0] := by kernel_rfl
theorem info87 : infoT Try.prog 87 = some (some (.agg #[.int .i64 0, .int .i64 0, .slice none 0 0]), 3, 40) := by kernel_rfl
theorem pl87 : placesT Try.prog 87 = some [(0, 1), (1, 1), (2, 1)] := by kernel_rfl
theorem fo87_0 : fieldOff Try.prog 87 0 = some 0 := by kernel_rfl
theorem fo87_1 : fieldOff Try.prog 87 1 = some 1 := by kernel_rfl
theorem fo87_2 : fieldOff Try.prog 87 2 = some 2 := by kernel_rfl
theorem sz88 : szT Try.prog 88 = some 3 := by kernel_rfl
theorem conc88 : concT Try.prog 88 = true := by kernel_rfl
theorem agg88 : aggT Try.prog 88 = some 3 := by kernel_rfl
theorem zero88 : zeroL Try.prog 88 = some [.int .i64 0, .int .i64 0, .slice none 0 0] := by kernel_rfl
theorem info88 : infoT Try.prog 88 = some (some (.agg #[.int .i64 0, .int .i64 0, .slice none 0 0]), 3, 40) := by kernel_rfl
theorem pl88 : placesT Try.prog 88 = some [(0, 1), (1, 1), (2, 1)] := by kernel_rfl
theorem fo88_0 : fieldOff Try.prog 88 0 = some 0 := by kernel_rfl
theorem fo88_1 : fieldOff Try.prog 88 1 = some 1 := by kernel_rfl
theorem fo88_2 : fieldOff Try.prog 88 2 = some 2 := by kernel_rfl
theorem sz89 : szT Try.prog 89 = some 1 := by kernel_rfl
theorem conc89 : concT Try.prog 89 = true := by kernel_rfl
theorem scl89 : scalarT Try.prog 89 = true := by kernel_rfl
theorem zero89 : zeroL Try.prog 89 = some [.pointer none] := by kernel_rfl
theorem info89 : infoT Try.prog 89 = some (some (.pointer none), 1, 8) := by kernel_rfl
theorem sz91 : szT Try.prog 91 = some 1 := by kernel_rfl
theorem conc91 : concT Try.prog 91 = true := by kernel_rfl
theorem scl91 : scalarT Try.prog 91 = true := by kernel_rfl
theorem zero91 : zeroL Try.prog 91 = some [.nilFunc] := by kernel_rfl
theorem info91 : infoT Try.prog 91 = some (some (.nilFunc), 1, 8) := by kernel_rfl
theorem sz92 : szT Try.prog 92 = some 1 := by kernel_rfl
theorem conc92 : concT Try.prog 92 = true := by kernel_rfl
theorem scl92 : scalarT Try.prog 92 = true := by kernel_rfl
theorem zero92 : zeroL Try.prog 92 = some [.nilFunc] := by kernel_rfl
theorem info92 : infoT Try.prog 92 = some (some (.nilFunc), 1, 8) := by kernel_rfl
theorem sz93 : szT Try.prog 93 = some 1 := by kernel_rfl
theorem conc93 : concT Try.prog 93 = true := by kernel_rfl
theorem scl93 : scalarT Try.prog 93 = true := by kernel_rfl
theorem zero93 : zeroL Try.prog 93 = some [.pointer none] := by kernel_rfl
theorem info93 : infoT Try.prog 93 = some (some (.pointer none), 1, 8) := by kernel_rfl
theorem sz95 : szT Try.prog 95 = some 1 := by kernel_rfl
theorem conc95 : concT Try.prog 95 = true := by kernel_rfl
theorem scl95 : scalarT Try.prog 95 = true := by kernel_rfl
theorem zero95 : zeroL Try.prog 95 = some [.nilFunc] := by kernel_rfl
theorem info95 : infoT Try.prog 95 = some (some (.nilFunc), 1, 8) := by kernel_rfl
theorem sz96 : szT Try.prog 96 = some 1 := by kernel_rfl
theorem conc96 : concT Try.prog 96 = true := by kernel_rfl
theorem scl96 : scalarT Try.prog 96 = true := by kernel_rfl
theorem zero96 : zeroL Try.prog 96 = some [.slice none 0 0] := by kernel_rfl
theorem info96 : infoT Try.prog 96 = some (some (.slice none 0 0), 1, 24) := by kernel_rfl
theorem sz97 : szT Try.prog 97 = some 1 := by kernel_rfl
theorem conc97 : concT Try.prog 97 = true := by kernel_rfl
theorem scl97 : scalarT Try.prog 97 = true := by kernel_rfl
theorem zero97 : zeroL Try.prog 97 = some [.slice none 0 0] := by kernel_rfl
theorem info97 : infoT Try.prog 97 = some (some (.slice none 0 0), 1, 24) := by kernel_rfl
theorem sz98 : szT Try.prog 98 = some 2 := by kernel_rfl
theorem conc98 : concT Try.prog 98 = true := by kernel_rfl
theorem agg98 : aggT Try.prog 98 = some 2 := by kernel_rfl
theorem zero98 : zeroL Try.prog 98 = some [.pointer none, .slice none 0 0] := by kernel_rfl
theorem info98 : infoT Try.prog 98 = some (some (.agg #[.pointer none, .slice none 0 0]), 2, 32) := by kernel_rfl
theorem pl98 : placesT Try.prog 98 = some [(0, 1), (1, 1)] := by kernel_rfl
theorem fo98_0 : fieldOff Try.prog 98 0 = some 0 := by kernel_rfl
theorem fo98_1 : fieldOff Try.prog 98 1 = some 1 := by kernel_rfl
theorem sz99 : szT Try.prog 99 = some 2 := by kernel_rfl
theorem conc99 : concT Try.prog 99 = true := by kernel_rfl
theorem agg99 : aggT Try.prog 99 = some 2 := by kernel_rfl
theorem zero99 : zeroL Try.prog 99 = some [.pointer none, .slice none 0 0] := by kernel_rfl
theorem info99 : infoT Try.prog 99 = some (some (.agg #[.pointer none, .slice none 0 0]), 2, 32) := by kernel_rfl
theorem pl99 : placesT Try.prog 99 = some [(0, 1), (1, 1)] := by kernel_rfl
theorem fo99_0 : fieldOff Try.prog 99 0 = some 0 := by kernel_rfl
theorem fo99_1 : fieldOff Try.prog 99 1 = some 1 := by kernel_rfl
theorem sz100 : szT Try.prog 100 = some 1 := by kernel_rfl
theorem conc100 : concT Try.prog 100 = true := by kernel_rfl
theorem scl100 : scalarT Try.prog 100 = true := by kernel_rfl
theorem zero100 : zeroL Try.prog 100 = some [.nilFunc] := by kernel_rfl
theorem info100 : infoT Try.prog 100 = some (some (.nilFunc), 1, 8) := by kernel_rfl
theorem sz101 : szT Try.prog 101 = some 5 := by kernel_rfl
theorem conc101 : concT Try.prog 101 = true := by kernel_rfl
theorem agg101 : aggT Try.prog 101 = some 5 := by kernel_rfl
theorem zero101 : zeroL Try.prog 101 = some [.int .i64 0, .int .i64 0, .int .i64 0, .int .i64 0, .int .i64 0] := by kernel_rfl
theorem info101 : infoT Try.prog 101 = some (some (.agg #[.int .i64 0, .int .i64 0, .int .i64 0, .int .i64 0, .int .i64 0]), 5, 40) := by kernel_rfl
theorem pl101 : placesT Try.prog 101 = some [(0, 1), (1, 1), (2, 1), (3, 1), (4, 1)] := by kernel_rfl
theorem fo101_0 : fieldOff Try.prog 101 0 = some 0 := by kernel_rfl
theorem fo101_1 : fieldOff Try.prog 101 1 = some 1 := by kernel_rfl
theorem fo101_2 : fieldOff Try.prog 101 2 = some 2 := by kernel_rfl
theorem fo101_3 : fieldOff Try.prog 101 3 = some 3 := by kernel_rfl
theorem fo101_4 : fieldOff Try.prog 101 4 = some 4 := by kernel_rfl
theorem sz102 : szT Try.prog 102 = some 5 := by kernel_rfl
theorem conc102 : concT Try.prog 102 = true := by kernel_rfl
theorem agg102 : aggT Try.prog 102 = some 5 := by kernel_rfl
theorem zero102 : zeroL Try.prog 102 = some [.int .i64 0, .int .i64 0, .int .i64 0, .int .i64 0, .int .i64 0] := by kernel_rfl
theorem info102 : infoT Try.prog 102 = some (some (.agg #[.int .i64 0, .int .i64 0, .int .i64 0, .int .i64 0, .int .i64 0]), 5, 40) := by kernel_rfl
theorem pl102 : placesT Try.prog 102 = some [(0, 1), (1, 1), (2, 1), (3, 1), (4, 1)] := by kernel_rfl
theorem fo102_0 : fieldOff Try.prog 102 0 = some 0 := by kernel_rfl
theorem fo102_1 : fieldOff Try.prog 102 1 = some 1 := by kernel_rfl
theorem fo102_2 : fieldOff Try.prog 102 2 = some 2 := by kernel_rfl
theorem fo102_3 : fieldOff Try.prog 102 3 = some 3 := by kernel_rfl
theorem fo102_4 : fieldOff Try.prog 102 4 = some 4 := by kernel_rfl
theorem sz103 : szT Try.prog 103 = some 1 := by kernel_rfl
theorem conc103 : concT Try.prog 103 = true := by kernel_rfl
theorem scl103 : scalarT Try.prog 103 = true := by kernel_rfl
theorem zero103 : zeroL Try.prog 103 = some [.nilFunc] := by kernel_rfl
theorem info103 : infoT Try.prog 103 = some (some (.nilFunc), 1, 8) := by kernel_rfl
theorem sz104 : szT Try.prog 104 = some 1 := by kernel_rfl
theorem conc104 : concT Try.prog 104 = true := by kernel_rfl
theorem scl104 : scalarT Try.prog 104 = true := by kernel_rfl
theorem zero104 : zeroL Try.prog 104 = some [.pointer none] := by kernel_rfl
theorem info104 : infoT Try.prog 104 = some (some (.pointer none), 1, 8) := by kernel_rfl
theorem sz105 : szT Try.prog 105 = some 1 := by kernel_rfl
theorem conc105 : concT Try.prog 105 = true := by kernel_rfl
theorem scl105 : scalarT Try.prog 105 = true := by kernel_rfl
theorem zero105 : zeroL Try.prog 105 = some [.nilFunc] := by kernel_rfl
theorem info105 : infoT Try.prog 105 = some (some (.nilFunc), 1, 8) := by kernel_rfl
theorem sz106 : szT Try.prog 106 = some 1 := by kernel_rfl
theorem conc106 : concT Try.prog 106 = true := by kernel_rfl
theorem scl106 : scalarT Try.prog 106 = true := by kernel_rfl
theorem zero106 : zeroL Try.prog 106 = some [.nilFunc] := by kernel_rfl
theorem info106 : infoT Try.prog 106 = some (some (.nilFunc), 1, 8) := by kernel_rfl
theorem sz107 : szT Try.prog 107 = some 1 := by kernel_rfl
theorem conc107 : concT Try.prog 107 = true := by kernel_rfl
theorem scl107 : scalarT Try.prog 107 = true := by kernel_rfl
theorem zero107 : zeroL Try.prog 107 = some [.nilFunc] := by kernel_rfl
theorem info107 : infoT Try.prog 107 = some (some (.nilFunc), 1, 8) := by kernel_rfl
theorem sz108 : szT Try.prog 108 = some 1 := by kernel_rfl
theorem conc108 : concT Try.prog 108 = true := by kernel_rfl
theorem scl108 : scalarT Try.prog 108 = true := by kernel_rfl
theorem zero108 : zeroL Try.prog 108 = some [.nilFunc] := by kernel_rfl
theorem info108 : infoT Try.prog 108 = some (some (.nilFunc), 1, 8) := by kernel_rfl
theorem sz109 : szT Try.prog 109 = some 1 := by kernel_rfl
theorem conc109 : concT Try.prog 109 = true := by kernel_rfl
theorem scl109 : scalarT Try.prog 109 = true := by kernel_rfl
theorem zero109 : zeroL Try.prog 109 = some [.pointer none] := by kernel_rfl
theorem info109 : infoT Try.prog 109 = some (some (.pointer none), 1, 8) := by kernel_rfl
theorem sz111 : szT Try.prog 111 = some 1 := by kernel_rfl
theorem conc111 : concT Try.prog 111 = true := by kernel_rfl
theorem scl111 : scalarT Try.prog 111 = true := by kernel_rfl
theorem zero111 : zeroL Try.prog 111 = some [.nilFunc] := by kernel_rfl
theorem info111 : infoT Try.prog 111 = some (some (.nilFunc), 1, 8) := by kernel_rfl
theorem sz112 : szT Try.prog 112 = some 3 := by kernel_rfl
theorem conc112 : concT Try.prog 112 = true := by kernel_rfl
theorem agg112 : aggT Try.prog 112 = some 3 := by kernel_rfl
theorem zero112 : zeroL Try.prog 112 = some [.slice none 0 0, .slice none 0 0, .pointer none] := by kernel_rfl
theorem info112 : infoT Try.prog 112 = some (some (.agg #[.slice none 0 0, .slice none 0 0, .pointer none]), 3, 56) := by kernel_rfl
theorem pl112 : placesT Try.prog 112 = some [(0, 1), (1, 1), (2, 1)] := by kernel_rfl
theorem fo112_0 : fieldOff Try.prog 112 0 = some 0 := by kernel_rfl
theorem fo112_1 : fieldOff Try.prog 112 1 = some 1 := by kernel_rfl
theorem fo112_2 : fieldOff Try.prog 112 2 = some 2 := by kernel_rfl
theorem sz113 : szT Try.prog 113 = some 3 := by kernel_rfl
theorem conc113 : concT Try.prog 113 = true := by kernel_rfl
theorem agg113 : aggT Try.prog 113 = some 3 := by kernel_rfl
theorem zero113 : zeroL Try.prog 113 = some [.slice none 0 0, .slice none 0 0, .pointer none] := by kernel_rfl
theorem info113 : infoT Try.prog 113 = some (some (.agg #[.slice none 0 0, .slice none 0 0, .pointer none]), 3, 56) := by kernel_rfl
theorem pl113 : placesT Try.prog 113 = some [(0, 1), (1, 1), (2, 1)] := by kernel_rfl
theorem fo113_0 : fieldOff Try.prog 113 0 = some 0 := by kernel_rfl
theorem fo113_1 : fieldOff Try.prog 113 1 = some 1 := by kernel_rfl
theorem fo113_2 : fieldOff Try.prog 113 2 = some 2 := by kernel_rfl
theorem sz115 : szT Try.prog 115 = some 1 := by kernel_rfl
theorem conc115 : concT Try.prog 115 = true := by kernel_rfl
theorem scl115 : scalarT Try.prog 115 = true := by kernel_rfl
theorem zero115 : zeroL Try.prog 115 = some [.nilFunc] := by kernel_rfl
theorem info115 : infoT Try.prog 115 = some (some (.nilFunc), 1, 8) := by kernel_rfl
theorem sz116 : szT Try.prog 116 = some 1 := by kernel_rfl
theorem conc116 : concT Try.prog 116 = true := by kernel_rfl
theorem scl116 : scalarT Try.prog 116 = true := by kernel_rfl
theorem zero116 : zeroL Try.prog 116 = some [.nilFunc] := by kernel_rfl
theorem info116 : infoT Try.prog 116 = some (some (.nilFunc), 1, 8) := by kernel_rfl
theorem sz117 : szT Try.prog 117 = some 1 := by kernel_rfl
theorem conc117 : concT Try.prog 117 = true := by kernel_rfl
theorem scl117 : scalarT Try.prog 117 = true := by kernel_rfl
theorem zero117 : zeroL Try.prog 117 = some [.nilFunc] := by kernel_rfl
theorem info117 : infoT Try.prog 117 = some (some (.nilFunc), 1, 8) := by kernel_rfl
theorem sz118 : szT Try.prog 118 = some 8 := by kernel_rfl
theorem conc118 : concT Try.prog 118 = true := by kernel_rfl
theorem agg118 : aggT Try.prog 118 = some 8 := by kernel_rfl
theorem zero118 : zeroL Try.prog 118 = some [.int .i64 0, .int .i64 0, .int .i64 0, .int .i64 0, .slice none 0 0, .pointer none, .pointer none, .pointer none] := by kernel_rfl
theorem info118 : infoT Try.prog 118 = some (some (.agg #[.int .i64 0, .int .i64 0, .int .i64 0, .int .i64 0, .slice none 0 0, .pointer none, .pointer none, .pointer none]), 8, 80) := by kernel_rfl
theorem pl118 : placesT Try.prog 118 = some [(0, 1), (1, 1), (2, 1), (3, 1), (4, 1), (5, 1), (6, 1), (7, 1)] := by kernel_rfl
theorem fo118_0 : fieldOff Try.prog 118 0 = some 0 := by kernel_rfl
theorem fo118_1 : fieldOff Try.prog 118 1 = some 1 := by kernel_rfl
theorem fo118_2 : fieldOff Try.prog 118 2 = some 2 := by kernel_rfl
theorem fo118_3 : fieldOff Try.prog 118 3 = some 3 := by kernel_rfl
theorem fo118_4 : fieldOff Try.prog 118 4 = some 4 := by kernel_rfl
theorem fo118_5 : fieldOff Try.prog 118 5 = some 5 := by kernel_rfl
theorem fo118_6 : fieldOff Try.prog 118 6 = some 6 := by kernel_rfl
theorem fo118_7 : fieldOff Try.prog 118 7 = some 7 := by kernel_rfl
theorem sz119 : szT Try.prog 119 = some 8 := by kernel_rfl
theorem conc119 : concT Try.prog 119 = true := by kernel_rfl
theorem agg119 : aggT Try.prog 119 = some 8 := by kernel_rfl
theorem zero119 : zeroL Try.prog 119 = some [.int .i64 0, .int .i64 0, .int .i64 0, .int .i64 0, .slice none 0 0, .pointer none, .pointer none, .pointer none] := by kernel_rfl
theorem info119 : infoT Try.prog 119 = some (some (.agg #[.int .i64 0, .int .i64 0, .int .i64 0, .int .i64 0, .slice none 0 0, .pointer none, .pointer none, .pointer none]), 8, 80) := by kernel_rfl
theorem pl119 : placesT Try.prog 119 = some [(0, 1), (1, 1), (2, 1), (3, 1), (4, 1), (5, 1), (6, 1), (7, 1)] := by kernel_rfl
theorem fo119_0 : fieldOff Try.prog 119 0 = some 0 := by kernel_rfl
theorem fo119_1 : fieldOff Try.prog 119 1 = some 1 := by kernel_rfl
theorem fo119_2 : fieldOff Try.prog 119 2 = some 2 := by kernel_rfl
theorem fo119_3 : fieldOff Try.prog 119 3 = some 3 := by kernel_rfl
theorem fo119_4 : fieldOff Try.prog 119 4 = some 4 := by kernel_rfl
theorem fo119_5 : fieldOff Try.prog 119 5 = some 5 := by kernel_rfl
theorem fo119_6 : fieldOff Try.prog 119 6 = some 6 := by kernel_rfl
theorem fo119_7 : fieldOff Try.prog 119 7 = some 7 := by kernel_rfl
theorem sz120 : szT Try.prog 120 = some 1 := by kernel_rfl
theorem conc120 : concT Try.prog 120 = true := by kernel_rfl
theorem scl120 : scalarT Try.prog 120 = true := by kernel_rfl
theorem zero120 : zeroL Try.prog 120 = some [.nilFunc] := by kernel_rfl
theorem info120 : infoT Try.prog 120 = some (some (.nilFunc), 1, 8) := by kernel_rfl
theorem sz121 : szT Try.prog 121 = some 1 := by kernel_rfl
theorem conc121 : concT Try.prog 121 = true := by kernel_rfl
theorem scl121 : scalarT Try.prog 121 = true := by kernel_rfl
theorem zero121 : zeroL Try.prog 121 = some [.nilFunc] := by kernel_rfl
theorem info121 : infoT Try.prog 121 = some (some (.nilFunc), 1, 8) := by kernel_rfl
theorem sz122 : szT Try.prog 122 = some 1 := by kernel_rfl
theorem conc122 : concT Try.prog 122 = true := by kernel_rfl
theorem scl122 : scalarT Try.prog 122 = true := by kernel_rfl
theorem zero122 : zeroL Try.prog 122 = some [.nilFunc] := by kernel_rfl
theorem info122 : infoT Try.prog 122 = some (some (.nilFunc), 1, 8) := by kernel_rfl
theorem sz123 : szT Try.prog 123 = some 1 := by kernel_rfl
theorem conc123 : concT Try.prog 123 = true := by kernel_rfl
theorem scl123 : scalarT Try.prog 123 = true := by kernel_rfl
theorem zero123 : zeroL Try.prog 123 = some [.nilFunc] := by kernel_rfl
theorem info123 : infoT Try.prog 123 = some (some (.nilFunc), 1, 8) := by kernel_rfl
theorem sz124 : szT Try.prog 124 = some 1 := by kernel_rfl
theorem conc124 : concT Try.prog 124 = true := by kernel_rfl
theorem scl124 : scalarT Try.prog 124 = true := by kernel_rfl
theorem zero124 : zeroL Try.prog 124 = some [.nilFunc] := by kernel_rfl
theorem info124 : infoT Try.prog 124 = some (some (.nilFunc), 1, 8) := by kernel_rfl
theorem sz125 : szT Try.prog 125 = some 1 := by kernel_rfl
theorem conc125 : concT Try.prog 125 = true := by kernel_rfl
theorem scl125 : scalarT Try.prog 125 = true := by kernel_rfl
theorem zero125 : zeroL Try.prog 125 = some [.nilFunc] := by kernel_rfl
theorem info125 : infoT Try.prog 125 = some (some (.nilFunc), 1, 8) := by kernel_rfl
theorem sz126 : szT Try.prog 126 = some 1 := by kernel_rfl
theorem conc126 : concT Try.prog 126 = true := by kernel_rfl
theorem scl126 : scalarT Try.prog 126 = true := by kernel_rfl
theorem zero126 : zeroL Try.prog 126 = some [.nilFunc] := by kernel_rfl
theorem info126 : infoT Try.prog 126 = some (some (.nilFunc), 1, 8) := by kernel_rfl
theorem sz127 : szT Try.prog 127 = some 1 := by kernel_rfl
theorem conc127 : concT Try.prog 127 = true := by kernel_rfl
theorem scl127 : scalarT Try.prog 127 = true := by kernel_rfl
theorem zero127 : zeroL Try.prog 127 = some [.slice none 0 0] := by kernel_rfl
theorem info127 : infoT Try.prog 127 = some (some (.slice none 0 0), 1, 24) := by kernel_rfl
theorem sz128 : szT Try.prog 128 = some 3 := by kernel_rfl
theorem conc128 : concT Try.prog 128 = true := by kernel_rfl
theorem agg128 : aggT Try.prog 128 = some 3 := by kernel_rfl
theorem zero128 : zeroL Try.prog 128 = some [.int .i64 0, .int .i64 0, .slice none 0 0] := by kernel_rfl
theorem info128 : infoT Try.prog 128 = some (some (.agg #[.int .i64 0, .int .i64 0, .slice none 0 0]), 3, 40) := by kernel_rfl
theorem pl128 : placesT Try.prog 128 = some [(0, 1), (1, 1), (2, 1)] := by kernel_rfl
theorem fo128_0 : fieldOff Try.prog 128 0 = some 0 := by kernel_rfl
theorem fo128_1 : fieldOff Try.prog 128 1 = some 1 := by kernel_rfl
theorem fo128_2 : fieldOff Try.prog 128 2 = some 2 := by kernel_rfl
theorem sz129 : szT Try.prog 129 = some 3 := by kernel_rfl
theorem conc129 : concT Try.prog 129 = true := by kernel_rfl
theorem agg129 : aggT Try.prog 129 = some 3 := by kernel_rfl
theorem zero129 : zeroL Try.prog 129 = some [.int .i64 0, .int .i64 0, .slice none 0 0] := by kernel_rfl
theorem info129 : infoT Try.prog 129 = some (some (.agg #[.int .i64 0, .int .i64 0, .slice none 0 0]), 3, 40) := by kernel_rfl
theorem pl129 : placesT Try.prog 129 = some [(0, 1), (1, 1), (2, 1)] := by kernel_rfl
theorem fo129_0 : fieldOff Try.prog 129 0 = some 0 := by kernel_rfl
theorem fo129_1 : fieldOff Try.prog 129 1 = some 1 := by kernel_rfl
theorem fo129_2 : fieldOff Try.prog 129 2 = some 2 := by kernel_rfl
theorem sz130 : szT Try.prog 130 = some 1 := by kernel_rfl
theorem conc130 : concT Try.prog 130 = true := by kernel_rfl
theorem scl130 : scalarT Try.prog 130 = true := by kernel_rfl
theorem zero130 : zeroL Try.prog 130 = some [.nilFunc] := by kernel_rfl
theorem info130 : infoT Try.prog 130 = some (some (.nilFunc), 1, 8) := by kernel_rfl
theorem sz131 : szT Try.prog 131 = some 4 := by kernel_rfl
theorem conc131 : concT Try.prog 131 = true := by kernel_rfl
theorem agg131 : aggT Try.prog 131 = some 4 := by kernel_rfl
theorem zero131 : zeroL Try.prog 131 = some [.int .i64 0, .slice none 0 0, .slice none 0 0, .int .i64 0] := by kernel_rfl
theorem info131 : infoT Try.prog 131 = some (some (.agg #[.int .i64 0, .slice none 0 0, .slice none 0 0, .int .i64 0]), 4, 64) := by kernel_rfl
theorem pl131 : placesT Try.prog 131 = some [(0, 1), (1, 1), (2, 1), (3, 1)] := by kernel_rfl
theorem fo131_0 : fieldOff Try.prog 131 0 = some 0 := by kernel_rfl
theorem fo131_1 : fieldOff Try.prog 131 1 = some 1 := by kernel_rfl
theorem fo131_2 : fieldOff Try.prog 131 2 = some 2 := by kernel_rfl
theorem fo131_3 : fieldOff Try.prog 131 3 = some 3 := by kernel_rfl
theorem sz132 : szT Try.prog 132 = some 4 := by kernel_rfl
theorem conc132 : concT Try.prog 132 = true := by kernel_rfl
theorem agg132 : aggT Try.prog 132 = some 4 := by kernel_rfl
theorem zero132 : zeroL Try.prog 132 = some [.int .i64 0, .slice none 0 0, .slice none 0 0, .int .i64 0] := by kernel_rfl
theorem info132 : infoT Try.prog 132 = some (some (.agg #[.int .i64 0, .slice none 0 0, .slice none 0 0, .int .i64 0]), 4, 64) := by kernel_rfl
theorem pl132 : placesT Try.prog 132 = some [(0, 1), (1, 1), (2, 1), (3, 1)] := by kernel_rfl
theorem fo132_0 : fieldOff Try.prog 132 0 = some 0 := by kernel_rfl
theorem fo132_1 : fieldOff Try.prog 132 1 = some 1 := by kernel_rfl
theorem fo132_2 : fieldOff Try.prog 132 2 = some 2 := by kernel_rfl
theorem fo132_3 : fieldOff Try.prog 132 3 = some 3 := by kernel_rfl
theorem sz133 : szT Try.prog 133 = some 1 := by kernel_rfl
theorem conc133 : concT Try.prog 133 = true := by kernel_rfl
theorem scl133 : scalarT Try.prog 133 = true := by kernel_rfl
theorem zero133 : zeroL Try.prog 133 = some [.nilFunc] := by kernel_rfl
theorem info133 : infoT Try.prog 133 = some (some (.nilFunc), 1, 8) := by kernel_rfl
theorem sz134 : szT Try.prog 134 = some 1 := by kernel_rfl
theorem scl134 : scalarT Try.prog 134 = true := by kernel_rfl
theorem zero134 : zeroL Try.prog 134 = some [.nilIface] := by kernel_rfl
theorem info134 : infoT Try.prog 134 = some (some (.nilIface), 1, 16) := by kernel_rfl
theorem sz135 : szT Try.prog 135 = some 1 := by kernel_rfl
theorem scl135 : scalarT Try.prog 135 = true := by kernel_rfl
theorem zero135 : zeroL Try.prog 135 = some [.nilIface] := by kernel_rfl
theorem info135 : infoT Try.prog 135 = some (some (.nilIface), 1, 16) := by kernel_rfl
theorem sz136 : szT Try.prog 136 = some 1 := by kernel_rfl
theorem conc136 : concT Try.prog 136 = true := by kernel_rfl
theorem scl136 : scalarT Try.prog 136 = true := by kernel_rfl
theorem zero136 : zeroL Try.prog 136 = some [.nilFunc] := by kernel_rfl
theorem info136 : infoT Try.prog 136 = some (some (.nilFunc), 1, 8) := by kernel_rfl
theorem sz137 : szT Try.prog 137 = some 1 := by kernel_rfl
theorem conc137 : concT Try.prog 137 = true := by kernel_rfl
theorem scl137 : scalarT Try.prog 137 = true := by kernel_rfl
theorem zero137 : zeroL Try.prog 137 = some [.nilFunc] := by kernel_rfl
theorem info137 : infoT Try.prog 137 = some (some (.nilFunc), 1, 8) := by kernel_rfl
theorem sz138 : szT Try.prog 138 = some 1 := by kernel_rfl
theorem conc138 : concT Try.prog 138 = true := by kernel_rfl
theorem scl138 : scalarT Try.prog 138 = true := by kernel_rfl
theorem zero138 : zeroL Try.prog 138 = some [.nilFunc] := by kernel_rfl
theorem info138 : infoT Try.prog 138 = some (some (.nilFunc), 1, 8) := by kernel_rfl
theorem sz139 : szT Try.prog 139 = some 1 := by kernel_rfl
theorem conc139 : concT Try.prog 139 = true := by kernel_rfl
theorem scl139 : scalarT Try.prog 139 = true := by kernel_rfl
theorem zero139 : zeroL Try.prog 139 = some [.nilFunc] := by kernel_rfl
theorem info139 : infoT Try.prog 139 = some (some (.nilFunc), 1, 8) := by kernel_rfl
theorem sz140 : szT Try.prog 140 = some 1 := by kernel_rfl
theorem conc140 : concT Try.prog 140 = true := by kernel_rfl
theorem scl140 : scalarT Try.prog 140 = true := by kernel_rfl
theorem zero140 : zeroL Try.prog 140 = some [.nilFunc] := by kernel_rfl
theorem info140 : infoT Try.prog 140 = some (some (.nilFunc), 1, 8) := by kernel_rfl
theorem sz141 : szT Try.prog 141 = some 2 := by kernel_rfl
theorem conc141 : concT Try.prog 141 = true := by kernel_rfl
theorem agg141 : aggT Try.prog 141 = some 2 := by kernel_rfl
theorem zero141 : zeroL Try.prog 141 = some [.int .i64 0, .int .i64 0] := by kernel_rfl
theorem info141 : infoT Try.prog 141 = some (some (.agg #[.int .i64 0, .int .i64 0]), 2, 16) := by kernel_rfl
theorem pl141 : placesT Try.prog 141 = some [(0, 1), (1, 1)] := by kernel_rfl
theorem fo141_0 : fieldOff Try.prog 141 0 = some 0 := by kernel_rfl
theorem fo141_1 : fieldOff Try.prog 141 1 = some 1 := by kernel_rfl
theorem sz142 : szT Try.prog 142 = some 2 := by kernel_rfl
theorem conc142 : concT Try.prog 142 = true := by kernel_rfl
theorem agg142 : aggT Try.prog 142 = some 2 := by kernel_rfl
theorem zero142 : zeroL Try.prog 142 = some [.int .i64 0, .int .i64 0] := by kernel_rfl
theorem info142 : infoT Try.prog 142 = some (some (.agg #[.int .i64 0, .int .i64 0]), 2, 16) := by kernel_rfl
theorem pl142 : placesT Try.prog 142 = some [(0, 1), (1, 1)] := by kernel_rfl
theorem fo142_0 : fieldOff Try.prog 142 0 = some 0 := by kernel_rfl
theorem fo142_1 : fieldOff Try.prog 142 1 = some 1 := by kernel_rfl
theorem sz143 : szT Try.prog 143 = some 1 := by kernel_rfl
theorem conc143 : concT Try.prog 143 = true := by kernel_rfl
theorem scl143 : scalarT Try.prog 143 = true := by kernel_rfl
theorem zero143 : zeroL Try.prog 143 = some [.slice none 0 0] := by kernel_rfl
theorem info143 : infoT Try.prog 143 = some (some (.slice none 0 0), 1, 24) := by kernel_rfl
theorem sz144 : szT Try.prog 144 = some 1 := by kernel_rfl
theorem conc144 : concT Try.prog 144 = true := by kernel_rfl
theorem scl144 : scalarT Try.prog 144 = true := by kernel_rfl
theorem zero144 : zeroL Try.prog 144 = some [.map none] := by kernel_rfl
theorem info144 : infoT Try.prog 144 = some (some (.map none), 1, 8) := by kernel_rfl
theorem sz146 : szT Try.prog 146 = some 1 := by kernel_rfl
theorem conc146 : concT Try.prog 146 = true := by kernel_rfl
theorem scl146 : scalarT Try.prog 146 = true := by kernel_rfl
theorem zero146 : zeroL Try.prog 146 = some [.slice none 0 0] := by kernel_rfl
theorem info146 : infoT Try.prog 146 = some (some (.slice none 0 0), 1, 24) := by kernel_rfl
theorem sz147 : szT Try.prog 147 = some 2 := by kernel_rfl
theorem conc147 : concT Try.prog 147 = true := by kernel_rfl
theorem agg147 : aggT Try.prog 147 = some 2 := by kernel_rfl
theorem zero147 : zeroL Try.prog 147 = some [.slice none 0 0, .slice none 0 0] := by kernel_rfl
theorem info147 : infoT Try.prog 147 = some (some (.agg #[.slice none 0 0, .slice none 0 0]), 2, 48) := by kernel_rfl
theorem pl147 : placesT Try.prog 147 = some [(0, 1), (1, 1)] := by kernel_rfl
theorem fo147_0 : fieldOff Try.prog 147 0 = some 0 := by kernel_rfl
theorem fo147_1 : fieldOff Try.prog 147 1 = some 1 := by kernel_rfl
theorem sz148 : szT Try.prog 148 = some 2 := by kernel_rfl
theorem conc148 : concT Try.prog 148 = true := by kernel_rfl
theorem agg148 : aggT Try.prog 148 = some 2 := by kernel_rfl
theorem zero148 : zeroL Try.prog 148 = some [.slice none 0 0, .slice none 0 0] := by kernel_rfl
theorem info148 : infoT Try.prog 148 = some (some (.agg #[.slice none 0 0, .slice none 0 0]), 2, 48) := by kernel_rfl
theorem pl148 : placesT Try.prog 148 = some [(0, 1), (1, 1)] := by kernel_rfl
theorem fo148_0 : fieldOff Try.prog 148 0 = some 0 := by kernel_rfl
theorem fo148_1 : fieldOff Try.prog 148 1 = some 1 := by kernel_rfl
theorem sz149 : szT Try.prog 149 = some 1 := by kernel_rfl
theorem conc149 : concT Try.prog 149 = true := by kernel_rfl
theorem scl149 : scalarT Try.prog 149 = true := by kernel_rfl
theorem zero149 : zeroL Try.prog 149 = some [.nilFunc] := by kernel_rfl
theorem info149 : infoT Try.prog 149 = some (some (.nilFunc), 1, 8) := by kernel_rfl
theorem sz150 : szT Try.prog 150 = some 1 := by kernel_rfl
theorem conc150 : concT Try.prog 150 = true := by kernel_rfl
theorem scl150 : scalarT Try.prog 150 = true := by kernel_rfl
theorem zero150 : zeroL Try.prog 150 = some [.nilFunc] := by kernel_rfl
theorem info150 : infoT Try.prog 150 = some (some (.nilFunc), 1, 8) := by kernel_rfl
theorem sz151 : szT Try.prog 151 = some 1 := by kernel_rfl
theorem conc151 : concT Try.prog 151 = true := by kernel_rfl
theorem scl151 : scalarT Try.prog 151 = true := by kernel_rfl
theorem zero151 : zeroL Try.prog 151 = some [.nilFunc] := by kernel_rfl
theorem info151 : infoT Try.prog 151 = some (some (.nilFunc), 1, 8) := by kernel_rfl
theorem sz152 : szT Try.prog 152 = some 1 := by kernel_rfl
theorem conc152 : concT Try.prog 152 = true := by kernel_rfl
theorem scl152 : scalarT Try.prog 152 = true := by kernel_rfl
theorem zero152 : zeroL Try.prog 152 = some [.nilFunc] := by kernel_rfl
theorem info152 : infoT Try.prog 152 = some (some (.nilFunc), 1, 8) := by kernel_rfl
theorem sz153 : szT Try.prog 153 = some 1 := by kernel_rfl
theorem conc153 : concT Try.prog 153 = true := by kernel_rfl
theorem scl153 : scalarT Try.prog 153 = true := by kernel_rfl
theorem zero153 : zeroL Try.prog 153 = some [.nilFunc] := by kernel_rfl
theorem info153 : infoT Try.prog 153 = some (some (.nilFunc), 1, 8) := by kernel_rfl
theorem sz154 : szT Try.prog 154 = some 1 := by kernel_rfl
theorem conc154 : concT Try.prog 154 = true := by kernel_rfl
theorem scl154 : scalarT Try.prog 154 = true := by kernel_rfl
theorem zero154 : zeroL Try.prog 154 = some [.nilFunc] := by kernel_rfl
theorem info154 : infoT Try.prog 154 = some (some (.nilFunc), 1, 8) := by kernel_rfl
theorem sz155 : szT Try.prog 155 = some 1 := by kernel_rfl
theorem conc155 : concT Try.prog 155 = true := by kernel_rfl
theorem scl155 : scalarT Try.prog 155 = true := by kernel_rfl
theorem zero155 : zeroL Try.prog 155 = some [.nilFunc] := by kernel_rfl
theorem info155 : infoT Try.prog 155 = some (some (.nilFunc), 1, 8) := by kernel_rfl
theorem sz156 : szT Try.prog 156 = some 1 := by kernel_rfl
theorem conc156 : concT Try.prog 156 = true := by kernel_rfl
theorem scl156 : scalarT Try.prog 156 = true := by kernel_rfl
theorem zero156 : zeroL Try.prog 156 = some [.nilFunc] := by kernel_rfl
theorem info156 : infoT Try.prog 156 = some (some (.nilFunc), 1, 8) := by kernel_rfl
theorem sz157 : szT Try.prog 157 = some 1 := by kernel_rfl
theorem conc157 : concT Try.prog 157 = true := by kernel_rfl
theorem scl157 : scalarT Try.prog 157 = true := by kernel_rfl
theorem zero157 : zeroL Try.prog 157 = some [.pointer none] := by kernel_rfl
theorem info157 : infoT Try.prog 157 = some (some (.pointer none), 1, 8) := by kernel_rfl
theorem sz158 : szT Try.prog 158 = some 1 := by kernel_rfl
theorem conc158 : concT Try.prog 158 = true := by kernel_rfl
theorem scl158 : scalarT Try.prog 158 = true := by kernel_rfl
theorem zero158 : zeroL Try.prog 158 = some [.slice none 0 0] := by kernel_rfl
theorem info158 : infoT Try.prog 158 = some (some (.slice none 0 0), 1, 24) := by kernel_rfl
theorem sz159 : szT Try.prog 159 = some 4 := by kernel_rfl
theorem conc159 : concT Try.prog 159 = true := by kernel_rfl
theorem agg159 : aggT Try.prog 159 = some 4 := by kernel_rfl
theorem zero159 : zeroL Try.prog 159 = some [.slice none 0 0, .int .i64 0, .slice none 0 0, .slice none 0 0] := by kernel_rfl
theorem info159 : infoT Try.prog 159 = some (some (.agg #[.slice none 0 0, .int .i64 0, .slice none 0 0, .slice none 0 0]), 4, 80) := by kernel_rfl
theorem pl159 : placesT Try.prog 159 = some [(0, 1), (1, 1), (2, 1), (3, 1)] := by kernel_rfl
theorem fo159_0 : fieldOff Try.prog 159 0 = some 0 := by kernel_rfl
theorem fo159_1 : fieldOff Try.prog 159 1 = some 1 := by kernel_rfl
theorem fo159_2 : fieldOff Try.prog 159 2 = some 2 := by kernel_rfl
theorem fo159_3 : fieldOff Try.prog 159 3 = some 3 := by kernel_rfl
theorem sz160 : szT Try.prog 160 = some 4 := by kernel_rfl
theorem conc160 : concT Try.prog 160 = true := by kernel_rfl
theorem agg160 : aggT Try.prog 160 = some 4 := by kernel_rfl
theorem zero160 : zeroL Try.prog 160 = some [.slice none 0 0, .int .i64 0, .slice none 0 0, .slice none 0 0] := by kernel_rfl
theorem info160 : infoT Try.prog 160 = some (some (.agg #[.slice none 0 0, .int .i64 0, .slice none 0 0, .slice none 0 0]), 4, 80) := by kernel_rfl
theorem pl160 : placesT Try.prog 160 = some [(0, 1), (1, 1), (2, 1), (3, 1)] := by kernel_rfl
theorem fo160_0 : fieldOff Try.prog 160 0 = some 0 := by kernel_rfl
theorem fo160_1 : fieldOff Try.prog 160 1 = some 1 := by kernel_rfl
theorem fo160_2 : fieldOff Try.prog 160 2 = some 2 := by kernel_rfl
theorem fo160_3 : fieldOff Try.prog 160 3 = some 3 := by kernel_rfl
theorem sz161 : szT Try.prog 161 = some 1 := by kernel_rfl
theorem conc161 : concT Try.prog 161 = true := by kernel_rfl
theorem scl161 : scalarT Try.prog 161 = true := by kernel_rfl
theorem zero161 : zeroL Try.prog 161 = some [.nilFunc] := by kernel_rfl
theorem info161 : infoT Try.prog 161 = some (some (.nilFunc), 1, 8) := by kernel_rfl
theorem sz162 : szT Try.prog 162 = some 1 := by kernel_rfl
theorem conc162 : concT Try.prog 162 = true := by kernel_rfl
theorem scl162 : scalarT Try.prog 162 = true := by kernel_rfl
theorem zero162 : zeroL Try.prog 162 = some [.int .i64 0] := by kernel_rfl
theorem info162 : infoT Try.prog 162 = some (some (.int .i64 0), 1, 8) := by kernel_rfl
theorem sz164 : szT Try.prog 164 = some 1 := by kernel_rfl
theorem conc164 : concT Try.prog 164 = true := by kernel_rfl
theorem scl164 : scalarT Try.prog 164 = true := by kernel_rfl
theorem zero164 : zeroL Try.prog 164 = some [.nilFunc] := by kernel_rfl
theorem info164 : infoT Try.prog 164 = some (some (.nilFunc), 1, 8) := by kernel_rfl
theorem sz165 : szT Try.prog 165 = some 1 := by kernel_rfl
theorem conc165 : concT Try.prog 165 = true := by kernel_rfl
theorem scl165 : scalarT Try.prog 165 = true := by kernel_rfl
theorem zero165 : zeroL Try.prog 165 = some [.nilFunc] := by kernel_rfl
theorem info165 : infoT Try.prog 165 = some (some (.nilFunc), 1, 8) := by kernel_rfl
theorem sz166 : szT Try.prog 166 = some 1 := by kernel_rfl
theorem conc166 : concT Try.prog 166 = true := by kernel_rfl
theorem scl166 : scalarT Try.prog 166 = true := by kernel_rfl
theorem zero166 : zeroL Try.prog 166 = some [.nilFunc] := by kernel_rfl
theorem info166 : infoT Try.prog 166 = some (some (.nilFunc), 1, 8) := by kernel_rfl
theorem sz167 : szT Try.prog 167 = some 1 := by kernel_rfl
theorem conc167 : concT Try.prog 167 = true := by kernel_rfl
theorem scl167 : scalarT Try.prog 167 = true := by kernel_rfl
theorem zero167 : zeroL Try.prog 167 = some [.nilFunc] := by kernel_rfl
theorem info167 : infoT Try.prog 167 = some (some (.nilFunc), 1, 8) := by kernel_rfl
theorem sz168 : szT Try.prog 168 = some 1 := by kernel_rfl
theorem conc168 : concT Try.prog 168 = true := by kernel_rfl
theorem scl168 : scalarT Try.prog 168 = true := by kernel_rfl
theorem zero168 : zeroL Try.prog 168 = some [.int .u32 0] := by kernel_rfl
theorem info168 : infoT Try.prog 168 = some (some (.int .u32 0), 1, 4) := by kernel_rfl
theorem sz169 : szT Try.prog 169 = some 1 := by kernel_rfl
theorem conc169 : concT Try.prog 169 = true := by kernel_rfl
theorem scl169 : scalarT Try.prog 169 = true := by kernel_rfl
theorem zero169 : zeroL Try.prog 169 = some [.nilFunc] := by kernel_rfl
theorem info169 : infoT Try.prog 169 = some (some (.nilFunc), 1, 8) := by kernel_rfl
theorem sz170 : szT Try.prog 170 = some 1 := by kernel_rfl
theorem conc170 : concT Try.prog 170 = true := by kernel_rfl
theorem scl170 : scalarT Try.prog 170 = true := by kernel_rfl
theorem zero170 : zeroL Try.prog 170 = some [.nilFunc] := by kernel_rfl
theorem info170 : infoT Try.prog 170 = some (some (.nilFunc), 1, 8) := by kernel_rfl
theorem sz171 : szT Try.prog 171 = some 1 := by kernel_rfl
theorem conc171 : concT Try.prog 171 = true := by kernel_rfl
theorem scl171 : scalarT Try.prog 171 = true := by kernel_rfl
theorem zero171 : zeroL Try.prog 171 = some [.int .u64 0] := by kernel_rfl
theorem info171 : infoT Try.prog 171 = some (some (.int .u64 0), 1, 8) := by kernel_rfl
theorem sz172 : szT Try.prog 172 = some 1 := by kernel_rfl
theorem conc172 : concT Try.prog 172 = true := by kernel_rfl
theorem scl172 : scalarT Try.prog 172 = true := by kernel_rfl
theorem zero172 : zeroL Try.prog 172 = some [.nilFunc] := by kernel_rfl
theorem info172 : infoT Try.prog 172 = some (some (.nilFunc), 1, 8) := by kernel_rfl
theorem sz173 : szT Try.prog 173 = some 1 := by kernel_rfl
theorem conc173 : concT Try.prog 173 = true := by kernel_rfl
theorem scl173 : scalarT Try.prog 173 = true := by kernel_rfl
theorem zero173 : zeroL Try.prog 173 = some [.nilFunc] := by kernel_rfl
theorem info173 : infoT Try.prog 173 = some (some (.nilFunc), 1, 8) := by kernel_rfl
theorem sz174 : szT Try.prog 174 = some 1 := by kernel_rfl
theorem conc174 : concT Try.prog 174 = true := by kernel_rfl
theorem scl174 : scalarT Try.prog 174 = true := by kernel_rfl
theorem zero174 : zeroL Try.prog 174 = some [.nilFunc] := by kernel_rfl
theorem info174 : infoT Try.prog 174 = some (some (.nilFunc), 1, 8) := by kernel_rfl
theorem sz175 : szT Try.prog 175 = some 1 := by kernel_rfl
theorem conc175 : concT Try.prog 175 = true := by kernel_rfl
theorem scl175 : scalarT Try.prog 175 = true := by kernel_rfl
theorem zero175 : zeroL Try.prog 175 = some [.pointer none] := by kernel_rfl
theorem info175 : infoT Try.prog 175 = some (some (.pointer none), 1, 8) := by kernel_rfl
theorem sz176 : szT Try.prog 176 = some 1 := by kernel_rfl
theorem conc176 : concT Try.prog 176 = true := by kernel_rfl
theorem scl176 : scalarT Try.prog 176 = true := by kernel_rfl
theorem zero176 : zeroL Try.prog 176 = some [.nilFunc] := by kernel_rfl
theorem info176 : infoT Try.prog 176 = some (some (.nilFunc), 1, 8) := by kernel_rfl
theorem sz177 : szT Try.prog 177 = some 1 := by kernel_rfl
theorem conc177 : concT Try.prog 177 = true := by kernel_rfl
theorem scl177 : scalarT Try.prog 177 = true := by kernel_rfl
theorem zero177 : zeroL Try.prog 177 = some [.pointer none] := by kernel_rfl
theorem info177 : infoT Try.prog 177 = some (some (.pointer none), 1, 8) := by kernel_rfl
theorem sz178 : szT Try.prog 178 = some 1 := by kernel_rfl
theorem conc178 : concT Try.prog 178 = true := by kernel_rfl
theorem scl178 : scalarT Try.prog 178 = true := by kernel_rfl
theorem zero178 : zeroL Try.prog 178 = some [.nilFunc] := by kernel_rfl
theorem info178 : infoT Try.prog 178 = some (some (.nilFunc), 1, 8) := by kernel_rfl
theorem sz179 : szT Try.prog 179 = some 1 := by kernel_rfl
theorem conc179 : concT Try.prog 179 = true := by kernel_rfl
theorem scl179 : scalarT Try.prog 179 = true := by kernel_rfl
theorem zero179 : zeroL Try.prog 179 = some [.nilFunc] := by kernel_rfl
theorem info179 : infoT Try.prog 179 = some (some (.nilFunc), 1, 8) := by kernel_rfl
theorem sz180 : szT Try.prog 180 = some 4 := by kernel_rfl
theorem conc180 : concT Try.prog 180 = true := by kernel_rfl
theorem agg180 : aggT Try.prog 180 = some 4 := by kernel_rfl
theorem zero180 : zeroL Try.prog 180 = some [.pointer none, .pointer none, .pointer none, .string ByteArray.empty] := by kernel_rfl
theorem info180 : infoT Try.prog 180 = some (some (.agg #[.pointer none, .pointer none, .pointer none, .string ByteArray.empty]), 4, 40) := by kernel_rfl
theorem pl180 : placesT Try.prog 180 = some [(0, 1), (1, 1), (2, 1), (3, 1)] := by kernel_rfl
theorem fo180_0 : fieldOff Try.prog 180 0 = some 0 := by kernel_rfl
theorem fo180_1 : fieldOff Try.prog 180 1 = some 1 := by kernel_rfl
theorem fo180_2 : fieldOff Try.prog 180 2 = some 2 := by kernel_rfl
theorem fo180_3 : fieldOff Try.prog 180 3 = some 3 := by kernel_rfl
theorem sz181 : szT Try.prog 181 = some 4 := by kernel_rfl
theorem conc181 : concT Try.prog 181 = true := by kernel_rfl
theorem agg181 : aggT Try.prog 181 = some 4 := by kernel_rfl
theorem zero181 : zeroL Try.prog 181 = some [.pointer none, .pointer none, .pointer none, .string ByteArray.empty] := by kernel_rfl
theorem info181 : infoT Try.prog 181 = some (some (.agg #[.pointer none, .pointer none, .pointer none, .string ByteArray.empty]), 4, 40) := by kernel_rfl
theorem pl181 : placesT Try.prog 181 = some [(0, 1), (1, 1), (2, 1), (3, 1)] := by kernel_rfl
theorem fo181_0 : fieldOff Try.prog 181 0 = some 0 := by kernel_rfl
theorem fo181_1 : fieldOff Try.prog 181 1 = some 1 := by kernel_rfl
theorem fo181_2 : fieldOff Try.prog 181 2 = some 2 := by kernel_rfl
theorem fo181_3 : fieldOff Try.prog 181 3 = some 3 := by kernel_rfl
theorem sz182 : szT Try.prog 182 = some 0 := by kernel_rfl
theorem conc182 : concT Try.prog 182 = true := by kernel_rfl
theorem agg182 : aggT Try.prog 182 = some 0 := by kernel_rfl
theorem zero182 : zeroL Try.prog 182 = some [] := by kernel_rfl
theorem info182 : infoT Try.prog 182 = some (some (.agg #[]), 0, 0) := by kernel_rfl
theorem sz183 : szT Try.prog 183 = some 0 := by kernel_rfl
theorem conc183 : concT Try.prog 183 = true := by kernel_rfl
theorem agg183 : aggT Try.prog 183 = some 0 := by kernel_rfl
theorem zero183 : zeroL Try.prog 183 = some [] := by kernel_rfl
theorem info183 : infoT Try.prog 183 = some (some (.agg #[]), 0, 0) := by kernel_rfl
theorem pl183 : placesT Try.prog 183 = some [(0, 0)] := by kernel_rfl
theorem sz184 : szT Try.prog 184 = some 0 := by kernel_rfl
theorem conc184 : concT Try.prog 184 = true := by kernel_rfl
theorem agg184 : aggT Try.prog 184 = some 0 := by kernel_rfl
theorem zero184 : zeroL Try.prog 184 = some [] := by kernel_rfl
theorem info184 : infoT Try.prog 184 = some (some (.agg #[]), 0, 0) := by kernel_rfl
theorem pl184 : placesT Try.prog 184 = some [(0, 0)] := by kernel_rfl
theorem sz185 : szT Try.prog 185 = some 1 := by kernel_rfl
theorem conc185 : concT Try.prog 185 = true := by kernel_rfl
theorem scl185 : scalarT Try.prog 185 = true := by kernel_rfl
theorem zero185 : zeroL Try.prog 185 = some [.int .u8 0] := by kernel_rfl
theorem info185 : infoT Try.prog 185 = some (some (.int .u8 0), 1, 1) := by kernel_rfl
theorem sz186 : szT Try.prog 186 = some 1 := by kernel_rfl
theorem conc186 : concT Try.prog 186 = true := by kernel_rfl
theorem scl186 : scalarT Try.prog 186 = true := by kernel_rfl
theorem zero186 : zeroL Try.prog 186 = some [.int .u8 0] := by kernel_rfl
theorem info186 : infoT Try.prog 186 = some (some (.int .u8 0), 1, 1) := by kernel_rfl
theorem sz187 : szT Try.prog 187 = some 1 := by kernel_rfl
theorem conc187 : concT Try.prog 187 = true := by kernel_rfl
theorem scl187 : scalarT Try.prog 187 = true := by kernel_rfl
theorem zero187 : zeroL Try.prog 187 = some [.nilFunc] := by kernel_rfl
theorem info187 : infoT Try.prog 187 = some (some (.nilFunc), 1, 8) := by kernel_rfl
theorem sz188 : szT Try.prog 188 = some 1 := by kernel_rfl
theorem conc188 : concT Try.prog 188 = true := by kernel_rfl
theorem scl188 : scalarT Try.prog 188 = true := by kernel_rfl
theorem zero188 : zeroL Try.prog 188 = some [.pointer none] := by kernel_rfl
theorem info188 : infoT Try.prog 188 = some (some (.pointer none), 1, 8) := by kernel_rfl
theorem sz189 : szT Try.prog 189 = some 1 := by kernel_rfl
theorem conc189 : concT Try.prog 189 = true := by kernel_rfl
theorem scl189 : scalarT Try.prog 189 = true := by kernel_rfl
theorem zero189 : zeroL Try.prog 189 = some [.int .i32 0] := by kernel_rfl
theorem info189 : infoT Try.prog 189 = some (some (.int .i32 0), 1, 4) := by kernel_rfl
theorem sz190 : szT Try.prog 190 = some 1 := by kernel_rfl
theorem conc190 : concT Try.prog 190 = true := by kernel_rfl
theorem scl190 : scalarT Try.prog 190 = true := by kernel_rfl
theorem zero190 : zeroL Try.prog 190 = some [.int .i32 0] := by kernel_rfl
theorem info190 : infoT Try.prog 190 = some (some (.int .i32 0), 1, 4) := by kernel_rfl
theorem sz191 : szT Try.prog 191 = some 11 := by kernel_rfl
theorem conc191 : concT Try.prog 191 = true := by kernel_rfl
theorem agg191 : aggT Try.prog 191 = some 11 := by kernel_rfl
theorem zero191 : zeroL Try.prog 191 = some [.int .u64 0, .int .u64 0, .int .u32 0, .int .u8 0, .int .u8 0, .int .u8 0, .int .u8 0, .nilFunc, .pointer none, .int .i32 0, .int .i32 0] := by kernel_rfl
theorem info191 : infoT Try.prog 191 = some (some (.agg #[.int .u64 0, .int .u64 0, .int .u32 0, .int .u8 0, .int .u8 0, .int .u8 0, .int .u8 0, .nilFunc, .pointer none, .int .i32 0, .int .i32 0]), 11, 48) := by kernel_rfl
theorem pl191 : placesT Try.prog 191 = some [(0, 1), (1, 1), (2, 1), (3, 1), (4, 1), (5, 1), (6, 1), (7, 1), (8, 1), (9, 1), (10, 1)] := by kernel_rfl
theorem fo191_0 : fieldOff Try.prog 191 0 = some 0 := by kernel_rfl
theorem fo191_1 : fieldOff Try.prog 191 1 = some 1 := by kernel_rfl
theorem fo191_2 : fieldOff Try.prog 191 2 = some 2 := by kernel_rfl
theorem fo191_3 : fieldOff Try.prog 191 3 = some 3 := by kernel_rfl
theorem fo191_4 : fieldOff Try.prog 191 4 = some 4 := by kernel_rfl
theorem fo191_5 : fieldOff Try.prog 191 5 = some 5 := by kernel_rfl
theorem fo191_6 : fieldOff Try.prog 191 6 = some 6 := by kernel_rfl
theorem fo191_7 : fieldOff Try.prog 191 7 = some 7 := by kernel_rfl
theorem fo191_8 : fieldOff Try.prog 191 8 = some 8 := by kernel_rfl
theorem fo191_9 : fieldOff Try.prog 191 9 = some 9 := by kernel_rfl
theorem fo191_10 : fieldOff Try.prog 191 10 = some 10 := by kernel_rfl
theorem sz192 : szT Try.prog 192 = some 11 := by kernel_rfl
theorem conc192 : concT Try.prog 192 = true := by kernel_rfl
theorem agg192 : aggT Try.prog 192 = some 11 := by kernel_rfl
theorem zero192 : zeroL Try.prog 192 = some [.int .u64 0, .int .u64 0, .int .u32 0, .int .u8 0, .int .u8 0, .int .u8 0, .int .u8 0, .nilFunc, .pointer none, .int .i32 0, .int .i32 0] := by kernel_rfl
theorem info192 : infoT Try.prog 192 = some (some (.agg #[.int .u64 0, .int .u64 0, .int .u32 0, .int .u8 0, .int .u8 0, .int .u8 0, .int .u8 0, .nilFunc, .pointer none, .int .i32 0, .int .i32 0]), 11, 48) := by kernel_rfl
theorem pl192 : placesT Try.prog 192 = some [(0, 1), (1, 1), (2, 1), (3, 1), (4, 1), (5, 1), (6, 1), (7, 1), (8, 1), (9, 1), (10, 1)] := by kernel_rfl
theorem fo192_0 : fieldOff Try.prog 192 0 = some 0 := by kernel_rfl
theorem fo192_1 : fieldOff Try.prog 192 1 = some 1 := by kernel_rfl
theorem fo192_2 : fieldOff Try.prog 192 2 = some 2 := by kernel_rfl
theorem fo192_3 : fieldOff Try.prog 192 3 = some 3 := by kernel_rfl
theorem fo192_4 : fieldOff Try.prog 192 4 = some 4 := by kernel_rfl
theorem fo192_5 : fieldOff Try.prog 192 5 = some 5 := by kernel_rfl
theorem fo192_6 : fieldOff Try.prog 192 6 = some 6 := by kernel_rfl
theorem fo192_7 : fieldOff Try.prog 192 7 = some 7 := by kernel_rfl
theorem fo192_8 : fieldOff Try.prog 192 8 = some 8 := by kernel_rfl
theorem fo192_9 : fieldOff Try.prog 192 9 = some 9 := by kernel_rfl
theorem fo192_10 : fieldOff Try.prog 192 10 = some 10 := by kernel_rfl
theorem sz193 : szT Try.prog 193 = some 1 := by kernel_rfl
theorem conc193 : concT Try.prog 193 = true := by kernel_rfl
theorem scl193 : scalarT Try.prog 193 = true := by kernel_rfl
theorem zero193 : zeroL Try.prog 193 = some [.nilFunc] := by kernel_rfl
theorem info193 : infoT Try.prog 193 = some (some (.nilFunc), 1, 8) := by kernel_rfl
theorem sz194 : szT Try.prog 194 = some 1 := by kernel_rfl
theorem conc194 : concT Try.prog 194 = true := by kernel_rfl
theorem scl194 : scalarT Try.prog 194 = true := by kernel_rfl
theorem go2 : isGo Try.prog 2 = true := by kernel_rfl
theorem go3 : isGo Try.prog 3 = true := by kernel_rfl
theorem go4 : isGo Try.prog 4 = true := by kernel_rfl
theorem go5 : isGo Try.prog 5 = true := by kernel_rfl
theorem go6 : isGo Try.prog 6 = true := by kernel_rfl
theorem go7 : isGo Try.prog 7 = true := by kernel_rfl
theorem go8 : isGo Try.prog 8 = true := by kernel_rfl
theorem go9 : isGo Try.prog 9 = true := by kernel_rfl
theorem go10 : isGo Try.prog 10 = true := by kernel_rfl
theorem go11 : isGo Try.prog 11 = true := by kernel_rfl
theorem go12 : isGo Try.prog 12 = true := by kernel_rfl
theorem go13 : isGo Try.prog 13 = true := by kernel_rfl
theorem go14 : isGo Try.prog 14 = true := by kernel_rfl
theorem go15 : isGo Try.prog 15 = true := by kernel_rfl
theorem go16 : isGo Try.prog 16 = true := by kernel_rfl
theorem go17 : isGo Try.prog 17 = true := by kernel_rfl
theorem go18 : isGo Try.prog 18 = true := by kernel_rfl
theorem go19 : isGo Try.prog 19 = true := by kernel_rfl
theorem go20 : isGo Try.prog 20 = true := by kernel_rfl
theorem go21 : isGo Try.prog 21 = true := by kernel_rfl
theorem go22 : isGo Try.prog 22 = true := by kernel_rfl
theorem go23 : isGo Try.prog 23 = true := by kernel_rfl
theorem go24 : isGo Try.prog 24 = true := by kernel_rfl
theorem go25 : isGo Try.prog 25 = true := by kernel_rfl
theorem go26 : isGo Try.prog 26 = true := by kernel_rfl
theorem go27 : isGo Try.prog 27 = true := by kernel_rfl
theorem go28 : isGo Try.prog 28 = true := by kernel_rfl
theorem go29 : isGo Try.prog 29 = true := by kernel_rfl
theorem go30 : isGo Try.prog 30 = true := by kernel_rfl
theorem go31 : isGo Try.prog 31 = true := by kernel_rfl
theorem go32 : isGo Try.prog 32 = true := by kernel_rfl
theorem go33 : isGo Try.prog 33 = true := by kernel_rfl
theorem go34 : isGo Try.prog 34 = true := by kernel_rfl
theorem go35 : isGo Try.prog 35 = true := by kernel_rfl
theorem go36 : isGo Try.prog 36 = true := by kernel_rfl
theorem go37 : isGo Try.prog 37 = true := by kernel_rfl
theorem go38 : isGo Try.prog 38 = true := by kernel_rfl
theorem go39 : isGo Try.prog 39 = true := by kernel_rfl
theorem go40 : isGo Try.prog 40 = true := by kernel_rfl
theorem go41 : isGo Try.prog 41 = true := by kernel_rfl
theorem go42 : isGo Try.prog 42 = true := by kernel_rfl
theorem go43 : isGo Try.prog 43 = true := by kernel_rfl
theorem go44 : isGo Try.prog 44 = true := by kernel_rfl
theorem go45 : isGo Try.prog 45 = true := by kernel_rfl
theorem go46 : isGo Try.prog 46 = true := by kernel_rfl
theorem go47 : isGo Try.prog 47 = true := by kernel_rfl
theorem go48 : isGo Try.prog 48 = true := by kernel_rfl
theorem go49 : isGo Try.prog 49 = true := by kernel_rfl
theorem go50 : isGo Try.prog 50 = true := by kernel_rfl
theorem go51 : isGo Try.prog 51 = true := by kernel_rfl
theorem go52 : isGo Try.prog 52 = true := by kernel_rfl
theorem go53 : isGo Try.prog 53 = true := by kernel_rfl
theorem go54 : isGo Try.prog 54 = true := by kernel_rfl
theorem go55 : isGo Try.prog 55 = true := by kernel_rfl
theorem go56 : isGo Try.prog 56 = true := by kernel_rfl
theorem go57 : isGo Try.prog 57 = true := by kernel_rfl
theorem go58 : isGo Try.prog 58 = true := by kernel_rfl
theorem go59 : isGo Try.prog 59 = true := by kernel_rfl
theorem go60 : isGo Try.prog 60 = true := by kernel_rfl
theorem go61 : isGo Try.prog 61 = true := by kernel_rfl
theorem go62 : isGo Try.prog 62 = true := by kernel_rfl
theorem go63 : isGo Try.prog 63 = true := by kernel_rfl
theorem go64 : isGo Try.prog 64 = true := by kernel_rfl
theorem go65 : isGo Try.prog 65 = true := by kernel_rfl
theorem go66 : isGo Try.prog 66 = true := by kernel_rfl
theorem go67 : isGo Try.prog 67 = true := by kernel_rfl
theorem go68 : isGo Try.prog 68 = true := by kernel_rfl
theorem go69 : isGo Try.prog 69 = true := by kernel_rfl
theorem go70 : isGo Try.prog 70 = true := by kernel_rfl
theorem go71 : isGo Try.prog 71 = true := by kernel_rfl
theorem go72 : isGo Try.prog 72 = true := by kernel_rfl
theorem go73 : isGo Try.prog 73 = true := by kernel_rfl
theorem go74 : isGo Try.prog 74 = true := by kernel_rfl
theorem go75 : isGo Try.prog 75 = true := by kernel_rfl
theorem go76 : isGo Try.prog 76 = true := by kernel_rfl
theorem go77 : isGo Try.prog 77 = true := by kernel_rfl
theorem go78 : isGo Try.prog 78 = true := by kernel_rfl
theorem go79 : isGo Try.prog 79 = true := by kernel_rfl
theorem go80 : isGo Try.prog 80 = true := by kernel_rfl
theorem go81 : isGo Try.prog 81 = true := by kernel_rfl
theorem go82 : isGo Try.prog 82 = true := by kernel_rfl
theorem go83 : isGo Try.prog 83 = true := by kernel_rfl
theorem go84 : isGo Try.prog 84 = true := by kernel_rfl
theorem go85 : isGo Try.prog 85 = true := by kernel_rfl
theorem go86 : isGo Try.prog 86 = true := by kernel_rfl
theorem go87 : isGo Try.prog 87 = true := by kernel_rfl
theorem go88 : isGo Try.prog 88 = true := by kernel_rfl
theorem go89 : isGo Try.prog 89 = true := by kernel_rfl
theorem go90 : isGo Try.prog 90 = true := by kernel_rfl
theorem go91 : isGo Try.prog 91 = true := by kernel_rfl
theorem go92 : isGo Try.prog 92 = true := by kernel_rfl
theorem go93 : isGo Try.prog 93 = true := by kernel_rfl
theorem go94 : isGo Try.prog 94 = true := by kernel_rfl
theorem go95 : isGo Try.prog 95 = true := by kernel_rfl
theorem go96 : isGo Try.prog 96 = true := by kernel_rfl
theorem go97 : isGo Try.prog 97 = true := by kernel_rfl
theorem go98 : isGo Try.prog 98 = true := by kernel_rfl
theorem go99 : isGo Try.prog 99 = true := by kernel_rfl
theorem go100 : isGo Try.prog 100 = true := by kernel_rfl
theorem go101 : isGo Try.prog 101 = true := by kernel_rfl
theorem go102 : isGo Try.prog 102 = true := by kernel_rfl
theorem go103 : isGo Try.prog 103 = true := by kernel_rfl
theorem go104 : isGo Try.prog 104 = true := by kernel_rfl
theorem go105 : isGo Try.prog 105 = true := by kernel_rfl
theorem go106 : isGo Try.prog 106 = true := by kernel_rfl
theorem go107 : isGo Try.prog 107 = true := by kernel_rfl
theorem go108 : isGo Try.prog 108 = true := by kernel_rfl
theorem go109 : isGo Try.prog 109 = true := by kernel_rfl
theorem go110 : isGo Try.prog 110 = true := by kernel_rfl
theorem go111 : isGo Try.prog 111 = true := by kernel_rfl
theorem go112 : isGo Try.prog 112 = true := by kernel_rfl
theorem go113 : isGo Try.prog 113 = true := by kernel_rfl
theorem go114 : isGo Try.prog 114 = true := by kernel_rfl
theorem go115 : isGo Try.prog 115 = true := by kernel_rfl
theorem go116 : isGo Try.prog 116 = true := by kernel_rfl
theorem go117 : isGo Try.prog 117 = true := by kernel_rfl
theorem go118 : isGo Try.prog 118 = true := by kernel_rfl
theorem go119 : isGo Try.prog 119 = true := by kernel_rfl
theorem go120 : isGo Try.prog 120 = true := by kernel_rfl
theorem go121 : isGo Try.prog 121 = true := by kernel_rfl
theorem go122 : isGo Try.prog 122 = true := by kernel_rfl
theorem go123 : isGo Try.prog 123 = true := by kernel_rfl
theorem go124 : isGo Try.prog 124 = true := by kernel_rfl
theorem go125 : isGo Try.prog 125 = true := by kernel_rfl
theorem go126 : isGo Try.prog 126 = true := by kernel_rfl
theorem go127 : isGo Try.prog 127 = true := by kernel_rfl
theorem go128 : isGo Try.prog 128 = true := by kernel_rfl
theorem go129 : isGo Try.prog 129 = true := by kernel_rfl
theorem go147 : isGo Try.prog 147 = true := by kernel_rfl
theorem go148 : isGo Try.prog 148 = true := by kernel_rfl
theorem go149 : isGo Try.prog 149 = true := by kernel_rfl
theorem go150 : isGo Try.prog 150 = true := by kernel_rfl
theorem go151 : isGo Try.prog 151 = true := by kernel_rfl
theorem go152 : isGo Try.prog 152 = true := by kernel_rfl
theorem go153 : isGo Try.prog 153 = true := by kernel_rfl
end Go.X
