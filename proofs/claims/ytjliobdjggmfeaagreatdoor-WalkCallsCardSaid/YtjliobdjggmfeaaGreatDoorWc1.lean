/-
  WalkCalls ends with true for the remainders 5 to 7: runs of the executor, by the kernel.
-/
import Derived.Test.YtjliobdjggmfeaaGreatDoorWcA
import Derived.KernelRfl
set_option linter.unusedVariables false
set_option linter.unusedSimpArgs false
namespace Go.Sx
theorem wc5 (x : AV) : fin6 (rest6.f (run envW 3000) 3000 (tm6 x 5) (.mk e8 0)) = true := by kernel_rfl
theorem wc6 (x : AV) : fin6 (rest6.f (run envW 3000) 3000 (tm6 x 6) (.mk e8 0)) = true := by kernel_rfl
theorem wc7 (x : AV) : fin6 (rest6.f (run envW 3000) 3000 (tm6 x 7) (.mk e8 0)) = true := by kernel_rfl
end Go.Sx
