/- The chapter's own example: great closed calls are reckoned one by one. -/
import Derived.Test.YtpnhljhciibfnaaGreatDoorK1
import Derived.Test.YtpnhljhciibfnaaGreatDoorK2
namespace Go.Proofs.YtpnhljhciibfnaaGreatDoor
open Go.Ev Go
set_option maxRecDepth 100000
set_option maxHeartbeats 4000000
def memo : Memo := [(n_types_Flatten, [.agg [.int .i64 12, .sl [.str [97]], .sl [.agg [.int .i64 3, .sl [], .sl [], .int .i64 0, .int .i64 0, .int .i64 0]], .int .i64 0, .int .i64 0, .int .i64 0]], .d (.sl [.agg [.int .i64 12, .sl [.int .i64 1], .sl [.str [97]], .int .i64 0, .int .i64 0, .int .i64 0, .int .i64 (-1), .int .i64 1], .agg [.int .i64 3, .sl [], .sl [], .int .i64 0, .int .i64 0, .int .i64 0, .int .i64 0, .int .i64 2]])),
  (n_foot_Encode, [.agg [.int .i64 7, .sl [.agg [.int .i64 3, .int .i64 0, .int .i64 0, .int .i64 0, .int .i64 1]], .int .i64 12, .sl [.str [97]], .sl [.agg [.int .i64 3, .sl [], .sl [], .int .i64 0, .int .i64 0, .int .i64 0]], .int .i64 0, .int .i64 0, .int .i64 0, .sl [.agg [.str [107], .sl [.int .u8 118]]], .int .i64 1, .sl [.agg [.int .i64 1, .bool false, .bool false, .bool false, .int .i64 0, .int .i64 0, .sl [], .sl [], .bool false, .int .i64 0, .int .i64 0, .sl [], .sl [], .bool false, .int .i64 0], .agg [.int .i64 1, .bool false, .bool true, .bool false, .int .i64 5, .int .i64 0, .sl [], .sl [], .bool false, .int .i64 5, .int .i64 0, .sl [], .sl [], .bool true, .int .i64 5]], .int .i64 10]], .d (.tup [.sl (kb0.map byteD), .int .i64 0])),
  (n_foot_Decode, [.sl (kb0.map byteD)], .d (.tup [.agg [.int .i64 7, .sl [.agg [.int .i64 3, .int .i64 0, .int .i64 0, .int .i64 0, .int .i64 1]], .int .i64 12, .sl [.str [97]], .sl [.agg [.int .i64 3, .sl [], .sl [], .int .i64 0, .int .i64 0, .int .i64 0]], .int .i64 0, .int .i64 0, .int .i64 0, .sl [.agg [.str [107], .sl [.int .u8 118]]], .int .i64 1, .sl [.agg [.int .i64 1, .bool false, .bool false, .bool false, .int .i64 0, .int .i64 0, .sl [], .sl [], .bool false, .int .i64 0, .int .i64 0, .sl [], .sl [], .bool false, .int .i64 0], .agg [.int .i64 1, .bool false, .bool true, .bool false, .int .i64 5, .int .i64 0, .sl [], .sl [], .bool false, .int .i64 5, .int .i64 0, .sl [], .sl [], .bool true, .int .i64 5]], .int .i64 10], .int .i64 0]))]
theorem memo_ok : MemoOk cfg memo := MemoOk.cons k_call0 (MemoOk.cons k_call1 (MemoOk.cons k_call2 (MemoOk.nil)))
theorem known_ok : evL cfg n_ingotlaw21_known 0 [] [] = some (.d (.bool (true)), []) := evL_of_memo memo_ok (n := 100) (by kernel_rfl)
end Go.Proofs.YtpnhljhciibfnaaGreatDoor
