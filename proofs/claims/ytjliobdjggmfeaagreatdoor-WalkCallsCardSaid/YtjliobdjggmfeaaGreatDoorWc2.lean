/-
  WalkCalls ends with true for the remainders 8 and 9: runs of the executor, by the kernel.
-/
import Derived.Test.YtjliobdjggmfeaaGreatDoorWcA
import Derived.KernelRfl
set_option linter.unusedVariables false
set_option linter.unusedSimpArgs false
namespace Go.Sx
theorem wc8 (x : AV) : fin6 (rest6.f (run envW 3000) 3000 (tm6 x 8) (.mk e8 0)) = true := by kernel_rfl
theorem wc9 (x : AV) : fin6 (rest6.f (run envW 3000) 3000 (tm6 x 9) (.mk e8 0)) = true := by kernel_rfl
end Go.Sx
