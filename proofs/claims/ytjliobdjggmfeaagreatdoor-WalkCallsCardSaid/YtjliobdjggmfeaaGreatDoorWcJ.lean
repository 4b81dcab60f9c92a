/-
  The closed facts of WalkCalls' row.
-/
import Derived.Test.YtjliobdjggmfeaaGreatDoorJf
set_option linter.unusedVariables false
set_option linter.unusedSimpArgs false
namespace Go.Proofs.YtjliobdjggmfeaaGreatDoor.walkCalls
open Go.Sx
theorem jf1 : Rows.walkCallsRow.wf (OpenSpec.ofChange (OpenSpec.ofChange Rows.walkCallsSpec).bare) = true := by kernel_rfl
theorem jf4 : Tryz.f6.params.all (Tryz.prog.readableRec ·) = true := by kernel_rfl
theorem jf5 : namedTie Tryz.prog Rows.walkCallsRow.named (OpenSpec.ofChange Rows.walkCallsSpec).bare.vars = true := by kernel_rfl
theorem jf6 : (Rows.walkCallsRow.stops == []) = true := by kernel_rfl
theorem jf8 : (Rows.walkCallsRow.knobs == []) = true := by kernel_rfl
theorem jf10 : (Rows.walkCallsRow.inPlace == Tryz.prog.inPlace 6) = true := by kernel_rfl
theorem jf11 : (Rows.walkCallsRow.unfollowed == Tryz.prog.unfollowed 6) = true := by kernel_rfl
theorem jf12 : (Rows.walkCallsRow.recurses == Tryz.prog.recurses 6) = true := by kernel_rfl
theorem jf13 : (Rows.walkCallsRow.named == Tryz.prog.varsNamed 6) = true := by kernel_rfl
theorem jf14 : (Rows.walkCallsRow.maps == (Tryz.f6.params.toList ++ (OpenSpec.ofChange Rows.walkCallsSpec).bare.plain.varTypes Tryz.prog).any (Tryz.prog.mapsRec ·)) = true := by kernel_rfl
theorem jf15 : (Rows.walkCallsRow.ifaces == (Tryz.f6.params.toList ++ (OpenSpec.ofChange Rows.walkCallsSpec).bare.plain.varTypes Tryz.prog).any (Tryz.prog.ifacesRec ·)) = true := by kernel_rfl
theorem jf16 : (Rows.walkCallsRow.mapsOut == Tryz.prog.mapsAmong Tryz.f6.resultTypes.toList) = true := by kernel_rfl
theorem jf17 : (Rows.walkCallsRow.loops == (Tryz.f6.params.toList ++ (OpenSpec.ofChange Rows.walkCallsSpec).bare.plain.varTypes Tryz.prog).any (Tryz.prog.loopsFrom ·)) = true := by kernel_rfl
theorem jf17b : (Rows.walkCallsRow.wideKeys == (Tryz.f6.params.toList ++ (OpenSpec.ofChange Rows.walkCallsSpec).bare.plain.varTypes Tryz.prog ++ Tryz.f6.resultTypes.toList).any (Tryz.prog.wideKeysFrom ·)) = true := by kernel_rfl
theorem jf18 : (OpenSpec.ofChange Rows.walkCallsSpec).bare.vars.all (Tryz.prog.varReadable ·) = true := by kernel_rfl
theorem jf19 : Tryz.f6.resultTypes.all (fun t => Tryz.prog.readableRec t && decide (t < Tryz.prog.types.size)) = true := by kernel_rfl
theorem jf20 : (Rows.walkCallsRow.ifacesOut == Tryz.f6.resultTypes.toList.any (Tryz.prog.ifacesRec ·)) = true := by kernel_rfl
theorem jf21 : (Rows.walkCallsRow.loopsOut == Tryz.f6.resultTypes.toList.any (Tryz.prog.loopsFrom ·)) = true := by kernel_rfl
theorem jf22 : (Rows.walkCallsRow.plainKeys == Tryz.prog.plainKeys) = true := by kernel_rfl
theorem jf23 : Rows.walkCallsRow.shortTexts.isNone = true := by kernel_rfl
theorem jf24b : (Rows.walkCallsRow.lifted == Tryz.prog.liftsFinal) = true := by kernel_rfl
theorem jf24c : (Tryz.prog.make == some Rows.walkCallsRow.make) = true := by kernel_rfl
theorem jf25 : (Rows.walkCallsRow.kinds == (if Rows.walkCallsRow.domain.isEmpty then [] else Tryz.f6.params.toList.map fun t => match Tryz.prog.underlying t with | some (.int k) => some k | _ => none)) = true := by kernel_rfl
theorem jf26 : (Rows.walkCallsRow.pinned == Rows.walkCallsRow.pinnedBy) = true := by kernel_rfl
theorem jf27 : (Rows.walkCallsRow.veiled == (Tryz.f6.params.toList ++ (OpenSpec.ofChange Rows.walkCallsSpec).bare.plain.varTypes Tryz.prog ++ Tryz.f6.resultTypes.toList).any (Tryz.prog.veiledRec ·)) = true := by kernel_rfl
theorem jf28 : Rows.walkCallsRow.veiledFits Tryz.prog Tryz.f6.params.toList (Tryz.f6.params.toList ++ (OpenSpec.ofChange Rows.walkCallsSpec).bare.plain.varTypes Tryz.prog ++ Tryz.f6.resultTypes.toList) = true := by kernel_rfl
set_option maxRecDepth 100000 in
theorem joined : joinedFacts Tryz.prog 6 Tryz.f6 (OpenSpec.ofChange Rows.walkCallsSpec).bare Rows.walkCallsRow = true :=
  joined_of (P := Tryz.prog) jf1 pf2 pf3 jf4 jf5 jf6 pf7 jf8 pf9 jf10 jf11 jf12 jf13 jf14 jf15 jf16 jf17 jf17b jf18 jf19 jf20 jf21 jf22 jf23 pf23b pf24 jf24b jf24c jf25 jf26 jf27 jf28
theorem fNamed : Tryz.pinned.checked.prog.funcNamed Rows.walkCallsRow.func = some 6 := by kernel_rfl
theorem fInst : Tryz.f6.isInstance Tryz.pinned.checked.prog Rows.walkCallsRow.origin Rows.walkCallsRow.targs := of_decide_eq_true (by kernel_rfl)
theorem fWrap : Tryz.f6.isWrapper Tryz.pinned.checked.prog Rows.walkCallsRow.wrapper Rows.walkCallsRow.mainSum := by
  unfold Func.isWrapper
  first | (rw [if_pos (by decide +kernel)]; kernel_rfl) | (rw [if_neg (by decide +kernel)]; exact ⟨rfl, rfl⟩)
end Go.Proofs.YtjliobdjggmfeaaGreatDoor.walkCalls
