/- Closed calls of the chapter's own example, reckoned. -/
import Derived.Test.YtpnhljhciibfnaaGreatDoorK1
namespace Go.Proofs.YtpnhljhciibfnaaGreatDoor
open Go.Ev Go
set_option maxRecDepth 100000
set_option maxHeartbeats 4000000
theorem k_call2 : evL cfg n_foot_Decode 0 [.d (.sl (kb0.map byteD))] [] = some (.d (.tup [.agg [.int .i64 7, .sl [.agg [.int .i64 3, .int .i64 0, .int .i64 0, .int .i64 0, .int .i64 1]], .int .i64 12, .sl [.str [97]], .sl [.agg [.int .i64 3, .sl [], .sl [], .int .i64 0, .int .i64 0, .int .i64 0]], .int .i64 0, .int .i64 0, .int .i64 0, .sl [.agg [.str [107], .sl [.int .u8 118]]], .int .i64 1, .sl [.agg [.int .i64 1, .bool false, .bool false, .bool false, .int .i64 0, .int .i64 0, .sl [], .sl [], .bool false, .int .i64 0, .int .i64 0, .sl [], .sl [], .bool false, .int .i64 0], .agg [.int .i64 1, .bool false, .bool true, .bool false, .int .i64 5, .int .i64 0, .sl [], .sl [], .bool false, .int .i64 5, .int .i64 0, .sl [], .sl [], .bool true, .int .i64 5]], .int .i64 10], .int .i64 0]), []) := evL_of_evFn (n := 100) (by kernel_rfl)
end Go.Proofs.YtpnhljhciibfnaaGreatDoor
