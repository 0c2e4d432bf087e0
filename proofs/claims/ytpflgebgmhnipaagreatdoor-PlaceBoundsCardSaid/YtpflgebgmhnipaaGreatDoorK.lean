import Derived.Test.YtpflgebgmhnipaaGreatDoorCode
namespace Go.Proofs.YtpflgebgmhnipaaGreatDoor
open Go.Ev Go
set_option maxRecDepth 100000 in
theorem known_n : evFn cfg 100 n_ingotlaw22_known 0 [] [] = some (.d (.bool true), []) := by kernel_rfl
theorem known_ok : evL cfg n_ingotlaw22_known 0 [] [] = some (.d (.bool true), []) := evL_of_evFn known_n
end Go.Proofs.YtpflgebgmhnipaaGreatDoor
