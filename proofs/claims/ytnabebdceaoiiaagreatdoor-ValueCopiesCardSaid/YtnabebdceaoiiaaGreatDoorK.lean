import Derived.Test.YtnabebdceaoiiaaGreatDoorExt
namespace Go.Proofs.YtnabebdceaoiiaaGreatDoor
open Go.Ev Go
set_option maxRecDepth 100000 in
theorem known_n : evFn cfg 100 n_bw 0 [] [] = some (.d (.bool true), []) := by kernel_rfl
theorem kp : evL cfg n_bw 0 [] [] = some (.d (.bool true), []) := l9 known_n
end Go.Proofs.YtnabebdceaoiiaaGreatDoor
