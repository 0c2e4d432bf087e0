import Derived.Test.YtnabebdceaoiiaaGreatDoorExt
namespace Go.Proofs.YtnabebdceaoiiaaGreatDoor
open Go.Ev Go
set_option maxRecDepth 100000 in
theorem known_n : evFn cfg 100 n_bt 0 [] [] = some (.d (.bool true), []) := by kernel_rfl
theorem ev : evL cfg n_bt 0 [] [] = some (.d (.bool true), []) := cm known_n
end Go.Proofs.YtnabebdceaoiiaaGreatDoor
