/-
  WalkCalls ends with true for the remainders 0 to 4: runs of the executor, by the kernel.
-/
import Derived.Test.YtjliobdjggmfeaaGreatDoorWcA
import Derived.KernelRfl
set_option linter.unusedVariables false
set_option linter.unusedSimpArgs false
namespace Go.Sx
theorem wc0 (x : AV) : fin6 (rest6.f (run envW 3000) 3000 (tm6 x 0) (.mk e8 0)) = true := by kernel_rfl
theorem wc1 (x : AV) : fin6 (rest6.f (run envW 3000) 3000 (tm6 x 1) (.mk e8 0)) = true := by kernel_rfl
theorem wc2 (x : AV) : fin6 (rest6.f (run envW 3000) 3000 (tm6 x 2) (.mk e8 0)) = true := by kernel_rfl
theorem wc3 (x : AV) : fin6 (rest6.f (run envW 3000) 3000 (tm6 x 3) (.mk e8 0)) = true := by kernel_rfl
theorem wc4 (x : AV) : fin6 (rest6.f (run envW 3000) 3000 (tm6 x 4) (.mk e8 0)) = true := by kernel_rfl
end Go.Sx
