/-
  The closed facts of WalkCalls' card.
-/
import Derived.Test.YtjliobdjggmfeaaGreatDoorWit
import Derived.Test.YtjliobdjggmfeaaGreatDoorCards
import Derived.SevenTiedAt
set_option linter.unusedVariables false
set_option linter.unusedSimpArgs false
namespace Go.Proofs.YtjliobdjggmfeaaGreatDoor.walkCalls
open Go.Sx
theorem wfT : Rows.walkCallsRow.wfByText (OpenSpec.ofChange Rows.walkCallsSpec) = true := by kernel_rfl
theorem nm6 : Tryz.prog.funcNamed "skua/skualaw14.WalkCalls" = some 6 := by kernel_rfl
theorem lk6 : true = Tryz.prog.looks [] := by kernel_rfl
theorem wi5 : Tryz.prog.wantsStandIn 5 = false := by kernel_rfl
theorem mainT : Tryz.pinned.checked.prog.mainIs = some (true, "dbf9b7c831dcc0541629b91632736da5e753f094ac0415736ab0ce74c6fe9800".toList) := by kernel_rfl
theorem goesT : false = Rows.walkCallsRow.goesBy Tryz.pinned.checked.prog := by kernel_rfl
theorem plain (f : FuncId) (fn : Func) (hf : Tryz.pinned.checked.prog.funcNamed "skua/skualaw14.WalkCalls" = some f) (hfn : Tryz.pinned.checked.prog.funcs[f]? = some fn) :
    true = Tryz.pinned.checked.prog.looks [] ∧ ∀ (j : Nat) t, fn.params[j]? = some t → Tryz.pinned.checked.prog.wantsStandIn t = false := by
  obtain rfl : f = 6 := Option.some.inj (nm6.symm.trans hf) |>.symm
  obtain rfl : fn = Tryz.f6 := (Option.some.inj (Tryz.func6.symm.trans hfn)).symm
  refine ⟨lk6, fun j t ht => ?_⟩
  rw [Tryz.params6] at ht
  obtain rfl : t = 5 := by simpa using Array.mem_of_getElem? ht
  exact wi5
end Go.Proofs.YtjliobdjggmfeaaGreatDoor.walkCalls
