/- Closed calls of the chapter's own example, reckoned. -/
import Derived.Test.YtpnhljhciibfnaaGreatDoorExt
import Derived.Test.YtpnhljhciibfnaaGreatDoorL14
namespace Go.Proofs.YtpnhljhciibfnaaGreatDoor
open Go.Ev Go
set_option maxRecDepth 100000
set_option maxHeartbeats 4000000
def kb0 : List UInt8 := [8, 3, 16, 7, 26, 10, 8, 3, 16, 0, 24, 0, 32, 0, 40, 1, 34, 8, 8, 12, 18, 1, 1, 26, 1, 97, 34, 2, 8, 3, 42, 6, 10, 1, 107, 18, 1, 118, 48, 1, 58, 4, 8, 1, 80, 0, 58, 12, 8, 1, 18, 6, 8, 10, 16, 10, 24, 10, 80, 0, 64, 10]
theorem k_call0 : evL cfg n_types_Flatten 0 [.d (.agg [.int .i64 12, .sl [.str [97]], .sl [.agg [.int .i64 3, .sl [], .sl [], .int .i64 0, .int .i64 0, .int .i64 0]], .int .i64 0, .int .i64 0, .int .i64 0])] [] = some (.d (.sl [.agg [.int .i64 12, .sl [.int .i64 1], .sl [.str [97]], .int .i64 0, .int .i64 0, .int .i64 0, .int .i64 (-1), .int .i64 1], .agg [.int .i64 3, .sl [], .sl [], .int .i64 0, .int .i64 0, .int .i64 0, .int .i64 0, .int .i64 2]]), []) := evL_of_evFn (n := 100) (by kernel_rfl)
theorem k_call1 : evL cfg n_foot_Encode 0 [.d (.agg [.int .i64 7, .sl [.agg [.int .i64 3, .int .i64 0, .int .i64 0, .int .i64 0, .int .i64 1]], .int .i64 12, .sl [.str [97]], .sl [.agg [.int .i64 3, .sl [], .sl [], .int .i64 0, .int .i64 0, .int .i64 0]], .int .i64 0, .int .i64 0, .int .i64 0, .sl [.agg [.str [107], .sl [.int .u8 118]]], .int .i64 1, .sl [.agg [.int .i64 1, .bool false, .bool false, .bool false, .int .i64 0, .int .i64 0, .sl [], .sl [], .bool false, .int .i64 0, .int .i64 0, .sl [], .sl [], .bool false, .int .i64 0], .agg [.int .i64 1, .bool false, .bool true, .bool false, .int .i64 5, .int .i64 0, .sl [], .sl [], .bool false, .int .i64 5, .int .i64 0, .sl [], .sl [], .bool true, .int .i64 5]], .int .i64 10])] [] = some (.d (.tup [.sl (kb0.map byteD), .int .i64 0]), []) := evL_of_evFn (n := 100) (by kernel_rfl)
end Go.Proofs.YtpnhljhciibfnaaGreatDoor
