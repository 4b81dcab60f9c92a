/-
  WalkCalls ends with true for the remainders 10 and 11: runs of the executor, by the kernel.
-/
import Derived.Test.YtjliobdjggmfeaaGreatDoorWcA
import Derived.KernelRfl
set_option linter.unusedVariables false
set_option linter.unusedSimpArgs false
namespace Go.Sx
theorem wc10 (x : AV) : fin6 (rest6.f (run envW 3000) 3000 (tm6 x 10) (.mk e8 0)) = true := by kernel_rfl
theorem wc11 (x : AV) : fin6 (rest6.f (run envW 3000) 3000 (tm6 x 11) (.mk e8 0)) = true := by kernel_rfl
end Go.Sx
