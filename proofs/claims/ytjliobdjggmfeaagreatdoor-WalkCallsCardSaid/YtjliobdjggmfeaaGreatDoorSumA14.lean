/-
  skualaw14.awake answers true: one run of the executor, by the kernel.
-/
import Derived.Test.YtjliobdjggmfeaaGreatDoorFns
import Derived.KernelRfl
set_option linter.unusedVariables false
set_option linter.unusedSimpArgs false
namespace Go.Sx
noncomputable def sa_a14 : List AV := []
noncomputable def sr_a14 : List Nat := []
noncomputable def sv_a14 : AV := .bool true
noncomputable def so_a14 : List SO := []
theorem st_a14 : sumT sr_a14 sv_a14 so_a14 (run envF 3000 26 sa_a14 (.mk e8 0)) = true := by kernel_rfl
end Go.Sx
